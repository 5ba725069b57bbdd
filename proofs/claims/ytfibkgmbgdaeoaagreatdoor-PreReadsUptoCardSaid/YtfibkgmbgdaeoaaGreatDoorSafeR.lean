/- pursuivantref10.Unsafe: what its walk gives: the lower names of those headers that may not go anywhere, each put in where it belongs. Condition: at most 2^40 headers. -/
import Derived.Test.YtfibkgmbgdaeoaaGreatDoorSafeU
import Derived.Test.YtfibkgmbgdaeoaaGreatDoorFA1
import Derived.Test.YtfibkgmbgdaeoaaGreatDoorFP1
import Derived.Deep.RegionHeld3
import Derived.Deep.RegionLaw
namespace Go.Proofs.YtfibkgmbgdaeoaaGreatDoor.Hand
open Go.RowKit Go.Proofs.YtfibkgmbgdaeoaaGreatDoorW.PrintWords Go.Proofs.YtfibkgmbgdaeoaaGreatDoorW.PrintLast Go.Proofs.YtfibkgmbgdaeoaaGreatDoorW.PrintMore
set_option linter.unusedVariables false
set_option linter.unusedSimpArgs false

theorem RowAt.grown {W W' : World} {e g cap : Nat} {xs : List ByteArray} {row : Option Nat} (h : RowAt encB 1 e g cap W xs) (hg : W.grownBy W' row) (hne : some g ≠ row) : RowAt encB 1 e g cap W' xs := h.other (hg.block g h.lt hne)
end Go.Proofs.YtfibkgmbgdaeoaaGreatDoor.Hand
