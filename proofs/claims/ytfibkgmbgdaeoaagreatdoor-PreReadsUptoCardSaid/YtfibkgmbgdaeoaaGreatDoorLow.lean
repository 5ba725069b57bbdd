/- ascii.Lower and ascii.Upper. Condition: strings of at most 2^47 bytes. -/
import Derived.Test.YtfibkgmbgdaeoaaGreatDoorTurned
import Derived.Test.YtfibkgmbgdaeoaaGreatDoorClip
namespace Go.Proofs.YtfibkgmbgdaeoaaGreatDoor.Hand
open Go.RowKit Go.Proofs.YtfibkgmbgdaeoaaGreatDoorW.PrintWords
set_option linter.unusedVariables false
set_option linter.unusedSimpArgs false
def lowBA (s : ByteArray) : ByteArray := strOfNums ((bytesOf s).map (turnC 65 90 32))
set_option maxHeartbeats 400000 in
theorem lower_calls (s : ByteArray) (w : World) (hs : s.size ≤ 140737488351232) :
  Calls Tryz.prog 27 #[.string s] w fun e w' => e = .returned (.string (lowBA s)) ∧ Below w.heap.size w w' := by
 go_enter Tryz.func27, Tryz.ntmps27
 go_wp2_with fail
 refine (turned_calls s 65 90 32 w hs (by decide) (by decide) (by decide) (by decide) (by decide) (by decide)).mono ?_
 rintro e w' ⟨rfl, hb⟩
 go_wp2
 go_ret
 exact ⟨rfl, hb⟩
def ascii_Lower.f (a0 : ByteArray) : Option ByteArray := if a0.size ≤ 140737488351232 then some (lowBA a0) else none
theorem ascii_Lower.calls (a0 : ByteArray) (r : ByteArray) (w : World) (hG : GW w) (h : ascii_Lower.f a0 = some r) :
  Calls Tryz.prog 27 #[.string a0] w fun e w' => e = .returned (.string r) ∧ Below w.heap.size w w' := by
 unfold ascii_Lower.f at h
 by_cases c : a0.size ≤ 140737488351232
 ·rw [if_pos c] at h
  obtain rfl := Option.some.inj h
  exact lower_calls a0 w c
 ·rw [if_neg c] at h; cases h
end Go.Proofs.YtfibkgmbgdaeoaaGreatDoor.Hand
