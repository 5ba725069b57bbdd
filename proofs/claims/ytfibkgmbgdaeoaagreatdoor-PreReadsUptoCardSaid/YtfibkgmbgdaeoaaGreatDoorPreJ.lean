/- strings.Join of a row that is not empty, and slices.Clip of headers, as the print takes them. Conditions: fewer than 2^42 headers; joined texts of at most 2^47 bytes. -/
import Derived.Test.YtfibkgmbgdaeoaaGreatDoorClip
import Derived.Test.YtfibkgmbgdaeoaaGreatDoorShelf
import Derived.Test.YtfibkgmbgdaeoaaGreatDoorPlain
namespace Go.Proofs.YtfibkgmbgdaeoaaGreatDoor.Hand
open Go.RowKit Go.Proofs.YtfibkgmbgdaeoaaGreatDoorW.PrintWords Go.Proofs.YtfibkgmbgdaeoaaGreatDoorW.PrintLast Go.Proofs.YtfibkgmbgdaeoaaGreatDoorW.PrintMore
set_option linter.unusedVariables false
set_option linter.unusedSimpArgs false

def strings_Join.f (l : List ByteArray) (sep : ByteArray) : Option ByteArray :=
 if 0 < l.length ∧ l.length ≤ 140737488355328 ∧ (Lib.join (l.map (·.data.toList)) sep.data.toList).length ≤ 140737488355328 then some ⟨(Lib.join (l.map (·.data.toList)) sep.data.toList).toArray⟩ else none
theorem strings_Join.calls (A0 : Option Addr) (c0 : Nat) (l0 : List ByteArray) (a1 : ByteArray) (r : ByteArray) (w : World) (hG_ : GW w) (hr0 : Kd.C Kd.string w A0 l0.length l0) (hc0 : l0.length ≤ c0) (h : strings_Join.f l0 a1 = some r) :
  Calls Tryz.prog 23 #[.slice A0 l0.length c0, .string a1] w fun e w' => e = .returned (.string r) ∧ Below w.heap.size w w' := by
 unfold strings_Join.f at h
 by_cases c : 0 < l0.length ∧ l0.length ≤ 140737488355328 ∧ (Lib.join (l0.map (·.data.toList)) a1.data.toList).length ≤ 140737488355328
 ·rw [if_pos c] at h
  obtain rfl := Option.some.inj h
  obtain ⟨_, hm, h3⟩ := hr0
  obtain ⟨⟨b, o, sp⟩, rfl, hc⟩ := h3 c.1
  have hat : ∀ (j : Nat) x, l0[j]? = some x → w.cell? ((⟨b, o, sp⟩ : Addr).add j) = some (.string x) := by
   intro j x hj
   obtain ⟨cc, _, hK, hcell⟩ := hc j x hj
   have hK1 : cc = [.string x] := hK
   subst hK1
   have h0 := hcell 0 _ rfl
   rwa [show j * Kd.string.sz + 0 = j from by show j * 1 + 0 = j; omega] at h0
  have hsp : sp = none := by
   have h0 := hat 0 l0[0] (List.getElem?_eq_getElem c.1)
   cases sp with
   | none => rfl
   | some q =>
    unfold Addr.add World.cell? at h0
    rw [if_pos rfl] at h0
    split at h0
    ·simp at h0
    ·cases h0
  subst hsp
  have hcell : ∀ (j : Nat) x, l0[j]? = some x → w.cell? ⟨b, o + j, none⟩ = some (.string x) := by
   intro j x hj
   have h0 := hat j x hj
   unfold Addr.add at h0
   by_cases hz : j = 0
   ·rw [if_pos hz] at h0; rw [hz]; exact h0
   ·rw [if_neg hz] at h0; exact h0
  have hlt : b < w.heap.size := World.block_lt_of_cell? w _ (hcell 0 l0[0] (List.getElem?_eq_getElem c.1))
  exact Tryz.strings_Join b o c0 l0 a1 w hcell hlt c.2.1 hc0 c.2.2
 ·rw [if_neg c] at h; cases h
def slices_ClipH.f (l : List S45) : Option (List S45) := if l.length ≤ 4398046511104 then some l else none
theorem slices_ClipH.calls (P0_ : Nat → Prop) (A0 : Option Addr) (c0 : Nat) (l0 : List S45) (r : List S45) (w : World) (hG_ : GW w) (hs0 : Kd.V k45 45 w w.heap.size (fun k_ => P0_ k_) (.slice A0 l0.length c0) l0) (h : slices_ClipH.f l0 = some r) :
  Calls Tryz.prog 24 #[.slice A0 l0.length c0] w fun e w' => ∃ v0_ : Value, e = .returned (v0_) ∧ Kd.V k45 45 w' w.heap.size (fun k_ => (P0_ k_ ∨ w.heap.size ≤ k_)) v0_ r ∧ Below w.heap.size w w' := by
 unfold slices_ClipH.f at h
 by_cases c : l0.length ≤ 4398046511104
 ·rw [if_pos c] at h
  obtain rfl := Option.some.inj h
  refine (clipH A0 l0.length c0 w (Kd.V_at hs0).2.1 (by omega)).mono ?_
  rintro e w' ⟨rfl, rfl⟩
  exact ⟨_, rfl, clipV (Kd.V_mono hs0 (fun k hk => .inl hk)), Below.refl _ _⟩
 ·rw [if_neg c] at h; cases h
end Go.Proofs.YtfibkgmbgdaeoaaGreatDoor.Hand
