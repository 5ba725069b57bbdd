/- What package ascii and its reference compute, over lists of bytes. Conditions: at most 2^40 bytes (2^31 for List). -/
import Derived.Test.YtindkgcbglonhaaDoorFA1
import Derived.Test.YtindkgcbglonhaaDoorFA2
import Derived.Test.YtindkgcbglonhaaDoorPlain
import Derived.Test.YtindkgcbglonhaaDoorTurned
import Derived.Test.YtindkgcbglonhaaDoorGW
import Derived.Test.YtindkgcbglonhaaDoorLib
import Derived.Lib.SplitLaws
import Derived.Deep.LoopGhost
import Derived.Lib.SlTrimSet
namespace Go.Proofs.YtindkgcbglonhaaDoor.Hand
open Go.RowKit Go.Proofs.YtindkgcbglonhaaDoorW.PrintWords Go.Proofs.YtindkgcbglonhaaDoorW.PrintLast Go.Proofs.YtindkgcbglonhaaDoorW.PrintMore
set_option linter.unusedVariables false
set_option linter.unusedSimpArgs false

theorem u8_all {P : UInt8 → Bool} (h : (List.range 256).all (fun n => P (UInt8.ofNat n)) = true) (c : UInt8) : P c = true := by
  have := List.all_eq_true.1 h c.toNat (List.mem_range.2 c.toNat_lt)
  rwa [show UInt8.ofNat c.toNat = c from by simp] at this
end Go.Proofs.YtindkgcbglonhaaDoor.Hand
