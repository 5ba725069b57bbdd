/- What package head and its reference compute. Condition: names and values of at most 2^40 bytes together. -/
import Derived.Test.YtmnpkiehagedcaaDoorFB2
import Derived.Test.YtmnpkiehagedcaaDoorAsciiF
import Derived.Test.YtmnpkiehagedcaaDoorHeadV
import Derived.Test.YtmnpkiehagedcaaDoorHeadD
import Derived.Laws.RangeAny
import Derived.Laws.RangeString
namespace Go.Proofs.YtmnpkiehagedcaaDoor.Hand
open Go.RowKit Go.Proofs.YtmnpkiehagedcaaDoorW.PrintWords Go.Proofs.YtmnpkiehagedcaaDoorW.PrintLast Go.Proofs.YtmnpkiehagedcaaDoorW.PrintMore
set_option linter.unusedVariables false
set_option linter.unusedSimpArgs false

theorem rd_mid (p q : List S29) (x : S29) : rd_T29 (p ++ x :: q) (p.length : Int) = x := by simp [rd_T29, List.getD_eq_getElem?_getD]
theorem refAlike (a b : ByteArray) (ha : a.size ≤ 1099511627776) (hb : b.size ≤ 1099511627776) : Ev (fun k => pursuivantref09_Alike.f k a b) ((lowBA a).toList == (lowBA b).toList) := by
  obtain ⟨a, rfl⟩ := ba_of a
  obtain ⟨b, rfl⟩ := ba_of b
  rw [ba_size'] at ha hb
  unfold pursuivantref09_Alike.f
  rw [lowBA_ba, lowBA_ba]
  exact Ev.bind (refLowerE a ha) (Ev.bind (refLowerE b hb) (Ev.now _))
/-! Set -/
def setR (q : S29 → Bool) (h : S29) : List S29 → List S29
  | [] => [h]
  | x :: l => if q x = true then h :: l.filter (fun y => !q y) else x :: setR q h l
def setGo (low : ByteArray) (h : S29) (n : Int) : Nat → List S29 → List S29
  | _, [] => []
  | i, x :: l => (if (i : Int) = n then [h] else if alikeB low x = true then [] else [x]) ++ setGo low h n (i + 1) l
theorem setK_go (low : ByteArray) (h : S29) (n : Int) : ∀ (q p : List S29), setK low h n (p ++ q) (p ++ q).length = setK low h n (p ++ q) p.length ++ setGo low h n p.length q := by
  intro q
  induction q with
  | nil => intro p; simp [setGo]
  | cons x q ih =>
    intro p
    have := ih (p ++ [x])
    rw [List.append_assoc, List.singleton_append, show (p ++ [x]).length = p.length + 1 from by simp] at this
    rw [this, setK, rd_mid, setGo, List.append_assoc]
theorem setGo_past (low : ByteArray) (h : S29) (n : Int) : ∀ (l : List S29) (i : Nat), n < (i : Int) → setGo low h n i l = l.filter (fun y => !alikeB low y)
  | [], _, _ => rfl
  | x :: l, i, hi => by
    rw [setGo, setGo_past low h n l (i + 1) (by omega), if_neg (by omega)]
    by_cases hx : alikeB low x = true
    · simp [hx]
    · simp [hx]
theorem setGo_R (low : ByteArray) (h : S29) : ∀ (l : List S29) (i : Nat), l.any (alikeB low) = true → setGo low h ((i + l.findIdx (alikeB low) : Nat) : Int) i l = setR (alikeB low) h l
  | [], _, ha => by simp at ha
  | x :: l, i, ha => by
    by_cases hx : alikeB low x = true
    · rw [setGo, setR, if_pos hx, List.findIdx_cons, hx, if_pos (by simp)]
      rw [setGo_past _ _ _ _ _ (by simp; omega)]; rfl
    · rw [Bool.not_eq_true] at hx
      have ha' : l.any (alikeB low) = true := by simpa [hx] using ha
      have e : (x :: l).findIdx (alikeB low) = l.findIdx (alikeB low) + 1 := by rw [List.findIdx_cons, hx]; rfl
      rw [e, setGo, if_neg (by omega), if_neg (by simp [hx]), setR, if_neg (by simp [hx])]
      have := setGo_R low h l (i + 1) ha'
      rw [show (i + (List.findIdx (alikeB low) l + 1) : Nat) = i + 1 + List.findIdx (alikeB low) l from by omega, this]; rfl
theorem setR_none (q : S29 → Bool) (h : S29) : ∀ l : List S29, ¬l.any q = true → setR q h l = l.filter (fun y => !q y) ++ [h]
  | [], _ => rfl
  | x :: l, ha => by
    rw [List.any_cons, Bool.or_eq_true, not_or] at ha
    rw [setR, if_neg ha.1, setR_none q h l ha.2]
    simp [ha.1]
theorem setV_R (h : S29) (l : List S29) : setV h l = setR (alikeB (lowBA h.f0)) h l := by
  unfold setV
  have := setK_go (lowBA h.f0) h (firstOf (alikeB (lowBA h.f0)) l) l []
  rw [List.nil_append] at this
  rw [this, show setK (lowBA h.f0) h (firstOf (alikeB (lowBA h.f0)) l) l ([] : List S29).length = [] from rfl, List.nil_append]
  unfold firstOf
  by_cases ha : l.any (alikeB (lowBA h.f0)) = true
  · rw [if_pos ha, if_neg (by omega), List.append_nil]
    have := setGo_R (lowBA h.f0) h l 0 ha
    rw [Nat.zero_add] at this
    exact this
  · rw [if_neg ha, if_pos (by omega), setR_none _ _ _ ha, setGo_past _ _ _ _ _ (by simp)]
theorem progSet (l : List S29) (h : S29) (hs : hdrSum l + h.f0.size ≤ 1099511627776) : head_Set.f l h.f0 h.f1 = some (setV h l) := by
  unfold head_Set.f; rw [if_pos hs]

/-! Drop -/
theorem dropL_filter : ∀ (names : List ByteArray) (l : List S29), dropL l names = l.filter (fun x => !names.any (fun n => alikeB (lowBA n) x))
  | [], l => (List.filter_eq_self.2 (fun _ _ => rfl)).symm
  | n :: r, l => by
    have := dropL_filter r (dropOne l n)
    rw [show dropL l (n :: r) = dropL (dropOne l n) r from rfl, this]
    unfold dropOne
    rw [List.filter_filter]
    refine List.filter_congr fun x _ => ?_
    rw [List.any_cons, Bool.not_or, Bool.and_comm]
theorem progDrop (l : List S29) (names : List ByteArray) (hs : hdrSum l ≤ 1099511627776) (hz : ∀ n ∈ names, n.size ≤ 1099511627776) : head_Drop.f l names = some (dropL l names) := by
  unfold head_Drop.f; rw [if_pos ⟨hs, fun n hn => by have := hz n hn; omega⟩]

/-! Get -/
def getBA (nm : ByteArray) (l : List S29) : ByteArray := ba (Lib.join ((getV nm l).map (·.data.toList)) [44, 32])
theorem progGet (l : List S29) (nm : ByteArray) (hs : hdrSum l + nm.size ≤ 1099511627776) : head_Get.f l nm = some (getBA nm l, decide (0 < (getV nm l).length)) := by
  unfold head_Get.f
  rw [if_pos hs]; rfl
/-! Same -/
theorem refSame9_go (xs : List S29) : ∀ (q p : List S29), xs = p ++ q → xs.length ≤ 1099511627776 →
    Ev (fun k => pursuivantref09_Same.l0 k xs xs (p.length : Int)) true := by
  intro q
  induction q with
  | nil =>
    intro p e h
    refine Ev.step (fun k => by rw [pursuivantref09_Same.l0]) ?_
    exact Ev.if_neg (by rw [e]; simp) (Ev.now _)
  | cons c q ih =>
    intro p e h
    have hl : p.length < xs.length := by rw [e]; simp
    refine Ev.step (fun k => by rw [pursuivantref09_Same.l0]) ?_
    refine Ev.if_pos (by omega) (Ev.if_pos (by omega) (Ev.if_pos (by omega) (Ev.if_neg (by simp) ?_)))
    rw [wrap_nat _ (by omega)]
    have := ih (p ++ [c]) (by rw [e]; simp) h
    simpa using this
theorem refSame9 (xs : List S29) (h : xs.length ≤ 1099511627776) : Ev (fun k => pursuivantref09_Same.f k xs xs) true := by
  unfold pursuivantref09_Same.f
  exact Ev.if_pos rfl (refSame9_go xs xs [] rfl h)
end Go.Proofs.YtmnpkiehagedcaaDoor.Hand
