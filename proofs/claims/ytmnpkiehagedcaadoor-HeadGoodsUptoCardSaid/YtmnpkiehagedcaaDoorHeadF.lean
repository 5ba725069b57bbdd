/- What package head and its reference compute. Condition: names and values of at most 2^40 bytes together. -/
import Derived.Test.YtmnpkiehagedcaaDoorFB2
import Derived.Test.YtmnpkiehagedcaaDoorAsciiF
import Derived.Test.YtmnpkiehagedcaaDoorHeadV
import Derived.Test.YtmnpkiehagedcaaDoorHeadD
import Derived.Laws.RangeAny
import Derived.Laws.RangeString
namespace Go.Proofs.YtmnpkiehagedcaaDoor.Hand
open Go.RowKit Go.Proofs.YtmnpkiehagedcaaDoorW.PrintWords Go.Proofs.YtmnpkiehagedcaaDoorW.PrintLast Go.Proofs.YtmnpkiehagedcaaDoorW.PrintMore
set_option linter.unusedVariables false
set_option linter.unusedSimpArgs false

theorem refName (l : List UInt8) : Ev (fun k => pursuivantref09_Name.f k (ba l)) (name8 l) := by
  unfold pursuivantref09_Name.f name8
  by_cases h : l.length ≤ 64
  · refine Ev.if_pos (by rw [ba_size']; omega) ?_
    rw [decide_eq_true h, Bool.true_and]
    exact Ev.bind (refToken l (by omega)) (Ev.now _)
  · refine Ev.if_neg (by rw [ba_size']; omega) ?_
    rw [decide_eq_false h, Bool.false_and]
    exact Ev.now _
def bad8 (c : UInt8) : Bool := decide (c.toNat ≠ 9) && (decide (c.toNat < 32) || decide (c.toNat > 126))
theorem idx_bad (s : ByteArray) : ∀ (d f pos : Nat), s.size - pos ≤ d → d ≤ f → (decide (0 ≤ Lib.idxFuncFrom badR true s f pos)) = (s.data.toList.drop pos).any bad8 := by
  have hsz : s.data.toList.length = s.size := data_length s
  intro d
  induction d with
  | zero =>
    intro f pos h1 h2
    rw [Lib.idxFuncFrom_end _ _ _ _ _ (by omega), List.drop_eq_nil_of_le (by omega)]; rfl
  | succ d ih =>
    intro f pos h1 h2
    obtain ⟨f, rfl⟩ : ∃ m, f = m + 1 := ⟨f - 1, by omega⟩
    by_cases hp : pos < s.size
    · have hl : pos < s.data.toList.length := by omega
      have hc : s.data.toList[pos] = s[pos] := rfl
      rw [List.drop_eq_getElem_cons hl, List.any_cons, hc, Lib.idxFuncFrom, if_pos hp]
      by_cases ha : (s[pos]).toNat < 128
      · rw [decode_ascii s pos hp ha]
        have e : badR (s[pos]).toNat = bad8 s[pos] := rfl
        rw [e]
        cases hb : bad8 s[pos] with
        | true => rw [if_pos rfl]; simp
        | false => rw [if_neg (by simp), Bool.false_or]; exact ih f (pos + 1) (by omega) (by omega)
      · have hh := (decode_high s pos hp (by omega)).1
        have e : badR (Utf8.decode s pos).1 = true := by simp [badR]; omega
        have e2 : bad8 s[pos] = true := by simp [bad8]; omega
        rw [e, if_pos rfl, e2]; simp
    · rw [Lib.idxFuncFrom_end _ _ _ _ _ (by omega), List.drop_eq_nil_of_le (by omega)]; rfl
def value8 (l : List UInt8) : Bool := decide (l.length ≤ 512) && !(l.any bad8) && (trim8 l == l)
theorem valueB_ba (l : List UInt8) : valueB (ba l) = value8 l := by
  unfold valueB value8
  rw [trimBA_ba, ba_list, ba_list, ba_size']
  have := idx_bad (ba l) l.length l.length 0 (by simp) (Nat.le_refl _)
  unfold Lib.idxFunc
  rw [ba_size', this, ba_data]; rfl
theorem refValue_go : ∀ (q p : List UInt8), p.length + q.length ≤ 1099511627776 →
    Ev (fun k => pursuivantref09_Value.l0 k (ba (p ++ q)) (p.length : Int)) (decide ((p ++ q).length ≤ 512) && !(q.any bad8) && (trim8 (p ++ q) == p ++ q)) := by
  intro q
  induction q with
  | nil =>
    intro p h
    refine Ev.step (fun k => by rw [pursuivantref09_Value.l0]) ?_
    refine Ev.if_neg (by (first | omega | (simp only [ba_size', List.length_append, List.length_cons, List.length_nil]; omega) | (simp; omega) | (simp; done))) ?_
    by_cases h5 : (p ++ []).length ≤ 512
    · refine Ev.if_pos (by rw [ba_size']; omega) (Ev.bind (refTrim _ (by (first | omega | (simp only [ba_size', List.length_append, List.length_cons, List.length_nil]; omega) | (simp; omega) | (simp; done)))) ?_)
      rw [decide_eq_true h5, ba_list, ba_list]
      exact Ev.now _
    · refine Ev.if_neg (by rw [ba_size']; omega) ?_
      rw [decide_eq_false h5]
      exact Ev.now _
  | cons c q ih =>
    intro p h
    simp only [List.length_cons] at h
    refine Ev.step (fun k => by rw [pursuivantref09_Value.l0]) ?_
    refine Ev.if_pos (by (first | omega | (simp only [ba_size', List.length_append, List.length_cons, List.length_nil]; omega) | (simp; omega) | (simp; done))) (Ev.if_pos (by omega) ?_)
    simp only [bt_mid, wrap_nat _ (show p.length < 9223372036854775807 by omega)]
    have hn := ih (p ++ [c]) (by (first | omega | (simp only [ba_size', List.length_append, List.length_cons, List.length_nil]; omega) | (simp; omega) | (simp; done)))
    rw [List.append_assoc, List.singleton_append, show (p ++ [c]).length = p.length + 1 from by simp] at hn
    rw [List.any_cons]
    by_cases h9 : (c.toNat : Int) = 9
    · refine Ev.if_pos h9 ?_
      rw [show bad8 c = false from by simp [bad8]; omega, Bool.false_or]; exact hn
    · refine Ev.if_neg h9 ?_
      by_cases h1 : (c.toNat : Int) < 32
      · refine Ev.if_pos h1 ?_
        rw [show bad8 c = true from by simp [bad8]; omega]; simpa using Ev.now _
      · refine Ev.if_neg h1 ?_
        by_cases h2 : (c.toNat : Int) > 126
        · refine Ev.if_pos h2 ?_
          rw [show bad8 c = true from by simp [bad8]; omega]; simpa using Ev.now _
        · refine Ev.if_neg h2 ?_
          rw [show bad8 c = false from by simp [bad8]; omega, Bool.false_or]; exact hn
theorem refValue (l : List UInt8) (h : l.length ≤ 1099511627776) : Ev (fun k => pursuivantref09_Value.f k (ba l)) (value8 l) := by
  have := refValue_go l [] (by simpa using h)
  unfold pursuivantref09_Value.f value8
  simpa using this
theorem nameB_ba (l : List UInt8) : nameB (ba l) = name8 l := by unfold nameB; rw [ba_data]
theorem rd_mid (p q : List S29) (x : S29) : rd_T29 (p ++ x :: q) (p.length : Int) = x := by simp [rd_T29, List.getD_eq_getElem?_getD]
theorem refGood_go : ∀ (q p : List S29), hdrSum (p ++ q) ≤ 1099511627776 →
    Ev (fun k => pursuivantref09_Good.l0 k (p ++ q) (p.length : Int)) (decide ((p ++ q).length ≤ 24) && !(q.any badH)) := by
  intro q
  induction q with
  | nil =>
    intro p h
    refine Ev.step (fun k => by rw [pursuivantref09_Good.l0]) ?_
    refine Ev.if_neg (by simp) ?_
    exact Ev.congr (fun k => by congr 1; simp; omega) (Ev.now _)
  | cons x q ih =>
    intro p h
    have hlen := hdrSum_length (p ++ x :: q)
    have hm := hdrSum_mem (l := p ++ x :: q) (x := x) (by simp)
    have hpl : p.length < (p ++ x :: q).length := by simp
    refine Ev.step (fun k => by rw [pursuivantref09_Good.l0]) ?_
    refine Ev.if_pos (by omega) (Ev.if_pos (by omega) ?_)
    simp only [rd_mid, wrap_nat _ (show p.length < 9223372036854775807 by omega)]
    obtain ⟨nm, hnm⟩ := ba_of x.f0
    obtain ⟨vl, hvl⟩ := ba_of x.f1
    have hb : badH x = (!name8 nm || !value8 vl) := by unfold badH; rw [hnm, hvl, nameB_ba, valueB_ba]
    have hn := ih (p ++ [x]) (by rw [List.append_assoc, List.singleton_append]; exact h)
    rw [List.append_assoc, List.singleton_append, show (p ++ [x]).length = p.length + 1 from by simp] at hn
    rw [List.any_cons, hb, hnm, hvl]
    rw [hnm, hvl, ba_size', ba_size'] at hm
    refine Ev.bind (refName nm) ?_
    by_cases h1 : name8 nm = true
    · refine Ev.if_pos h1 (Ev.bind (refValue vl (by omega)) ?_)
      by_cases h2 : value8 vl = true
      · refine Ev.if_pos h2 ?_
        rw [h1, h2]; exact hn
      · refine Ev.if_neg h2 ?_
        rw [Bool.not_eq_true] at h2
        rw [h2]; simpa using Ev.now _
    · refine Ev.if_neg h1 ?_
      rw [Bool.not_eq_true] at h1
      rw [h1]; simpa using Ev.now _
theorem refGood (l : List S29) (h : hdrSum l ≤ 1099511627776) : Ev (fun k => pursuivantref09_Good.f k l) (goodHs l) := by
  have := refGood_go l [] h
  unfold pursuivantref09_Good.f goodHs
  simpa using this
/-! Set -/
/-! Drop -/
/-! Get -/
/-! Same -/
end Go.Proofs.YtmnpkiehagedcaaDoor.Hand
