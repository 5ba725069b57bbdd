/- pursuivantref10.Unsafe: what its walk gives: the lower names of those headers that may not go anywhere, each put in where it belongs. Condition: at most 2^40 headers. -/
import Derived.Test.YtindkgcbglonhaaDoorSafeU
import Derived.Test.YtindkgcbglonhaaDoorFA2
import Derived.Deep.RegionHeld3
import Derived.Deep.RegionLaw
namespace Go.Proofs.YtindkgcbglonhaaDoor.Hand
open Go.RowKit Go.Proofs.YtindkgcbglonhaaDoorW.PrintWords Go.Proofs.YtindkgcbglonhaaDoorW.PrintLast Go.Proofs.YtindkgcbglonhaaDoorW.PrintMore
set_option linter.unusedVariables false
set_option linter.unusedSimpArgs false

theorem RowAt.grown {W W' : World} {e g cap : Nat} {xs : List ByteArray} {row : Option Nat} (h : RowAt encB 1 e g cap W xs) (hg : W.grownBy W' row) (hne : some g ≠ row) : RowAt encB 1 e g cap W' xs := h.other (hg.block g h.lt hne)
end Go.Proofs.YtindkgcbglonhaaDoor.Hand
