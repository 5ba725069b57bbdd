/- How the laws' arguments open: each type's kind, size and well-formedness. No condition. -/
import Derived.Test.YtindkgcbglonhaaDoorOpen
import Derived.Test.YtindkgcbglonhaaDoorK
import Derived.KernelRfl
namespace Go.Proofs.YtindkgcbglonhaaDoor.Hand
open Go.RowKit Go.Proofs.YtindkgcbglonhaaDoorW.PrintWords
set_option linter.unusedVariables false
theorem opens9 : Opens Tryd.prog 9 Kd.string (fun s : ByteArray => s.size + 1) (fun _ => True) := Opens.string Tryd.underlying9 (by kernel_rfl)
end Go.Proofs.YtindkgcbglonhaaDoor.Hand
