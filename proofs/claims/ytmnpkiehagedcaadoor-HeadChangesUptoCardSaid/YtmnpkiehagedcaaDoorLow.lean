/- ascii.Lower and ascii.Upper. Condition: strings of at most 2^47 bytes. -/
import Derived.Test.YtmnpkiehagedcaaDoorTurned
import Derived.Test.YtmnpkiehagedcaaDoorGW
namespace Go.Proofs.YtmnpkiehagedcaaDoor.Hand
open Go.RowKit Go.Proofs.YtmnpkiehagedcaaDoorW.PrintWords
set_option linter.unusedVariables false
set_option linter.unusedSimpArgs false
def lowBA (s : ByteArray) : ByteArray := strOfNums ((bytesOf s).map (turnC 65 90 32))
set_option maxHeartbeats 400000 in
theorem lower_calls (s : ByteArray) (w : World) (hs : s.size ≤ 140737488351232) :
    Calls Tryd.prog 27 #[.string s] w fun e w' => e = .returned (.string (lowBA s)) ∧ Below w.heap.size w w' := by
  go_enter Tryd.func27, Tryd.ntmps27
  go_wp2_with fail
  refine (turned_calls s 65 90 32 w hs (by decide) (by decide) (by decide) (by decide) (by decide) (by decide)).mono ?_
  rintro e w' ⟨rfl, hb⟩
  go_wp2
  go_ret
  exact ⟨rfl, hb⟩
end Go.Proofs.YtmnpkiehagedcaaDoor.Hand
