/- head.Value, strings.IndexAny in the print's form: what the walk of each gives. Conditions: IndexAny's text below 2^32 bytes, its stops "/?#". -/
import Derived.Test.YtoaleclnilbjcaaGreatDoorRefG
import Derived.Test.YtoaleclnilbjcaaGreatDoorList
import Derived.Test.YtoaleclnilbjcaaGreatDoorRune
import Derived.Test.YtoaleclnilbjcaaGreatDoorClip
import Derived.Deep.LoopGhost
namespace Go.Proofs.YtoaleclnilbjcaaGreatDoor.Hand
open Go.RowKit Go.Proofs.YtoaleclnilbjcaaGreatDoorW.PrintWords Go.Proofs.YtoaleclnilbjcaaGreatDoorW.PrintLast Go.Proofs.YtoaleclnilbjcaaGreatDoorW.PrintMore
set_option linter.unusedVariables false
set_option linter.unusedSimpArgs false

def badR (x : Nat) : Bool := decide (x ≠ 9) && (decide (x < 32) || decide (x > 126))
theorem bad_calls (x : Nat) (w : World) (hx : x ≤ 1114111) : Calls Tryz.prog 75 #[.int .i32 x] w fun e w' => e = .returned (.bool (badR x)) ∧ Below w.heap.size w w' := by
 have h1 : badR x = (if x = 9 then false else if x < 32 then true else decide (x > 126)) := by
  unfold badR
  by_cases h : x = 9
  ·simp [h]
  ·by_cases h2 : x < 32 <;> simp [h, h2]
 rw [h1]
 by_cases h9 : x = 9
 ·subst h9
  go_enter Tryz.func75, Tryz.ntmps75
  go_wp2
  go_ret
  exact ⟨rfl, Below.refl _ _⟩
 ·rw [if_neg h9]
  by_cases h2 : x < 32
  ·rw [if_pos h2]
   have h2i : (x : Int) < 32 := by omega
   have h9i : ¬ (x : Int) = 9 := by omega
   clear h1 h9 h2
   go_enter Tryz.func75, Tryz.ntmps75
   go_wp2
   go_ret
   exact ⟨by simp [h9i], Below.refl _ _⟩
  ·rw [if_neg h2, show decide (x > 126) = decide ((x : Int) > 126) from by congr 1; exact propext (by omega)]
   have h2i : ¬ (x : Int) < 32 := by omega
   have h9i : ¬ (x : Int) = 9 := by omega
   clear h1 h9 h2
   go_enter Tryz.func75, Tryz.ntmps75
   go_wp2
   go_ret
   exact ⟨by simp [h9i], Below.refl _ _⟩
def valueB (s : ByteArray) : Bool := decide (s.size ≤ 512) && (!decide (0 ≤ Lib.idxFunc badR true s)) && ((trimBA s).toList == s.toList)
theorem value_calls (s : ByteArray) (w : World) : Calls Tryz.prog 35 #[.string s] w fun e w' => e = .returned (.bool (valueB s)) ∧ Below w.heap.size w w' := by
 have hc := fun w => Tryz.strings_ContainsFunc_grows 75 #[] (enters_of Tryz.func75 (by kernel_rfl) rfl) badR s w (fun W x hx _ => bad_calls x W hx)
 unfold valueB
 generalize decide (0 ≤ Lib.idxFunc badR true s) = c at *
 have hT := fun w h => trim_calls s w h
 generalize trimBA s = t at *
 have HC := Lib.hid hc
 have HT := Lib.hid hT
 clear hc hT
 by_cases hs : s.size ≤ 512
 ·rw [decide_eq_true hs, Bool.true_and]
  go_enter Tryz.func35, Tryz.ntmps35
  go_wp2_with fail
  refine (HC.out _).mono ?_
  rintro e w1 ⟨rfl, hb⟩
  cases c with
  | true =>
   go_wp2_with fail
   go_ret
   exact ⟨by simp, hb⟩
  | false =>
   go_wp2_with fail
   refine (HT.out _ (by omega)).mono ?_
   rintro e w2 ⟨rfl, hb2⟩
   go_wp2_with fail
   go_ret
   exact ⟨by simp, below_then hb (below_size hb) hb2⟩
 ·rw [decide_eq_false hs, Bool.false_and, Bool.false_and]
  go_enter Tryz.func35, Tryz.ntmps35
  go_wp2_with fail
  go_ret
  exact ⟨rfl, Below.refl _ _⟩
def strings_IndexAny.f (a0 a1 : ByteArray) : Option Int := if a0.size < 4294967281 ∧ a1 = stops then some (Lib.indexAny a0.data.toList stops.data.toList) else none
theorem strings_IndexAny.calls (a0 a1 : ByteArray) (r : Int) (w : World) (hG : GW w) (h : strings_IndexAny.f a0 a1 = some r) :
  Calls Tryz.prog 28 #[.string a0, .string a1] w fun e w' => e = .returned (.int .i64 r) ∧ Below w.heap.size w w' := by
 unfold strings_IndexAny.f at h
 by_cases c : a0.size < 4294967281 ∧ a1 = stops
 ·rw [if_pos c] at h
  obtain rfl := Option.some.inj h
  obtain ⟨c1, rfl⟩ := c
  exact indexAny_stops a0 w c1
 ·rw [if_neg c] at h; cases h
end Go.Proofs.YtoaleclnilbjcaaGreatDoor.Hand
