/- head.Value's reference and headers held against themselves, over lists of bytes. Conditions: at most 2^40 bytes. -/
import Derived.Test.YtoaleclnilbjcaaGreatDoorRdx
import Derived.Test.YtoaleclnilbjcaaGreatDoorAsciiF
import Derived.Test.YtoaleclnilbjcaaGreatDoorFP2
namespace Go.Proofs.YtoaleclnilbjcaaGreatDoor.Hand
open Go.RowKit Go.Proofs.YtoaleclnilbjcaaGreatDoorW.PrintWords Go.Proofs.YtoaleclnilbjcaaGreatDoorW.PrintLast Go.Proofs.YtoaleclnilbjcaaGreatDoorW.PrintMore
set_option linter.unusedVariables false
set_option linter.unusedSimpArgs false

def bad8 (c : UInt8) : Bool := decide (c.toNat ≠ 9) && (decide (c.toNat < 32) || decide (c.toNat > 126))
theorem idx_bad (s : ByteArray) : ∀ (d f pos : Nat), s.size - pos ≤ d → d ≤ f → (decide (0 ≤ Lib.idxFuncFrom badR true s f pos)) = (s.data.toList.drop pos).any bad8 := by
 have hsz : s.data.toList.length = s.size := data_length s
 intro d
 induction d with
 | zero =>
  intro f pos h1 h2
  rw [Lib.idxFuncFrom_end _ _ _ _ _ (by omega), List.drop_eq_nil_of_le (by omega)]; rfl
 | succ d ih =>
  intro f pos h1 h2
  obtain ⟨f, rfl⟩ : ∃ m, f = m + 1 := ⟨f - 1, by omega⟩
  by_cases hp : pos < s.size
  ·have hl : pos < s.data.toList.length := by omega
   have hc : s.data.toList[pos] = s[pos] := rfl
   rw [List.drop_eq_getElem_cons hl, List.any_cons, hc, Lib.idxFuncFrom, if_pos hp]
   by_cases ha : (s[pos]).toNat < 128
   ·rw [decode_ascii s pos hp ha]
    have e : badR (s[pos]).toNat = bad8 s[pos] := rfl
    rw [e]
    cases hb : bad8 s[pos] with
    | true => rw [if_pos rfl]; simp
    | false => rw [if_neg (by simp), Bool.false_or]; exact ih f (pos + 1) (by omega) (by omega)
   ·have hh := (decode_high s pos hp (by omega)).1
    have e : badR (Utf8.decode s pos).1 = true := by simp [badR]; omega
    have e2 : bad8 s[pos] = true := by simp [bad8]; omega
    rw [e, if_pos rfl, e2]; simp
  ·rw [Lib.idxFuncFrom_end _ _ _ _ _ (by omega), List.drop_eq_nil_of_le (by omega)]; rfl
def value8 (l : List UInt8) : Bool := decide (l.length ≤ 512) && !(l.any bad8) && (trim8 l == l)
theorem valueB_ba (l : List UInt8) : valueB (ba l) = value8 l := by
 unfold valueB value8
 rw [trimBA_ba, ba_list, ba_list, ba_size']
 have := idx_bad (ba l) l.length l.length 0 (by simp) (Nat.le_refl _)
 unfold Lib.idxFunc
 rw [ba_size', this, ba_data]; rfl
theorem refValue_go : ∀ (q p : List UInt8), p.length + q.length ≤ 1099511627776 →
  Ev (fun k => pursuivantref09_Value.l0 k (ba (p ++ q)) (p.length : Int)) (decide ((p ++ q).length ≤ 512) && !(q.any bad8) && (trim8 (p ++ q) == p ++ q)) := by
 intro q
 induction q with
 | nil =>
  intro p h
  refine Ev.step (fun k => by rw [pursuivantref09_Value.l0]) ?_
  refine Ev.if_neg (by (first | omega | (simp only [ba_size', List.length_append, List.length_cons, List.length_nil]; omega) | (simp; omega) | (simp; done))) ?_
  by_cases h5 : (p ++ []).length ≤ 512
  ·refine Ev.if_pos (by rw [ba_size']; omega) (Ev.bind (refTrim _ (by (first | omega | (simp only [ba_size', List.length_append, List.length_cons, List.length_nil]; omega) | (simp; omega) | (simp; done)))) ?_)
   rw [decide_eq_true h5, ba_list, ba_list]
   exact Ev.now _
  ·refine Ev.if_neg (by rw [ba_size']; omega) ?_
   rw [decide_eq_false h5]
   exact Ev.now _
 | cons c q ih =>
  intro p h
  simp only [List.length_cons] at h
  refine Ev.step (fun k => by rw [pursuivantref09_Value.l0]) ?_
  refine Ev.if_pos (by (first | omega | (simp only [ba_size', List.length_append, List.length_cons, List.length_nil]; omega) | (simp; omega) | (simp; done))) (Ev.if_pos (by omega) ?_)
  simp only [bt_mid, wrap_nat _ (show p.length < 9223372036854775807 by omega)]
  have hn := ih (p ++ [c]) (by (first | omega | (simp only [ba_size', List.length_append, List.length_cons, List.length_nil]; omega) | (simp; omega) | (simp; done)))
  rw [List.append_assoc, List.singleton_append, show (p ++ [c]).length = p.length + 1 from by simp] at hn
  rw [List.any_cons]
  by_cases h9 : (c.toNat : Int) = 9
  ·refine Ev.if_pos h9 ?_
   rw [show bad8 c = false from by simp [bad8]; omega, Bool.false_or]; exact hn
  ·refine Ev.if_neg h9 ?_
   by_cases h1 : (c.toNat : Int) < 32
   ·refine Ev.if_pos h1 ?_
    rw [show bad8 c = true from by simp [bad8]; omega]; simpa using Ev.now _
   ·refine Ev.if_neg h1 ?_
    by_cases h2 : (c.toNat : Int) > 126
    ·refine Ev.if_pos h2 ?_
     rw [show bad8 c = true from by simp [bad8]; omega]; simpa using Ev.now _
    ·refine Ev.if_neg h2 ?_
     rw [show bad8 c = false from by simp [bad8]; omega, Bool.false_or]; exact hn
theorem refValue (l : List UInt8) (h : l.length ≤ 1099511627776) : Ev (fun k => pursuivantref09_Value.f k (ba l)) (value8 l) := by
 have := refValue_go l [] (by simpa using h)
 unfold pursuivantref09_Value.f value8
 simpa using this
theorem rd_mid (p q : List S58) (x : S58) : rd_T58 (p ++ x :: q) (p.length : Int) = x := by simp [rd_T58, List.getD_eq_getElem?_getD]
theorem refSame9_go (xs : List S58) : ∀ (q p : List S58), xs = p ++ q → xs.length ≤ 1099511627776 →
  Ev (fun k => pursuivantref09_Same.l0 k xs xs (p.length : Int)) true := by
 intro q
 induction q with
 | nil =>
  intro p e h
  refine Ev.step (fun k => by rw [pursuivantref09_Same.l0]) ?_
  exact Ev.if_neg (by rw [e]; simp) (Ev.now _)
 | cons c q ih =>
  intro p e h
  have hl : p.length < xs.length := by rw [e]; simp
  refine Ev.step (fun k => by rw [pursuivantref09_Same.l0]) ?_
  refine Ev.if_pos (by omega) (Ev.if_pos (by omega) (Ev.if_pos (by omega) (Ev.if_neg (by simp) ?_)))
  rw [wrap_nat _ (by omega)]
  have := ih (p ++ [c]) (by rw [e]; simp) h
  simpa using this
theorem refSame9 (xs : List S58) (h : xs.length ≤ 1099511627776) : Ev (fun k => pursuivantref09_Same.f k xs xs) true := by
 unfold pursuivantref09_Same.f
 exact Ev.if_pos rfl (refSame9_go xs xs [] rfl h)
end Go.Proofs.YtoaleclnilbjcaaGreatDoor.Hand
