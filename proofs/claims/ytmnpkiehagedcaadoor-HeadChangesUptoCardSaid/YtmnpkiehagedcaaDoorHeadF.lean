/- What package head and its reference compute. Condition: names and values of at most 2^40 bytes together. -/
import Derived.Test.YtmnpkiehagedcaaDoorFB2
import Derived.Test.YtmnpkiehagedcaaDoorAsciiF
import Derived.Test.YtmnpkiehagedcaaDoorHeadV
import Derived.Test.YtmnpkiehagedcaaDoorHeadD
import Derived.Laws.RangeAny
import Derived.Laws.RangeString
namespace Go.Proofs.YtmnpkiehagedcaaDoor.Hand
open Go.RowKit Go.Proofs.YtmnpkiehagedcaaDoorW.PrintWords Go.Proofs.YtmnpkiehagedcaaDoorW.PrintLast Go.Proofs.YtmnpkiehagedcaaDoorW.PrintMore
set_option linter.unusedVariables false
set_option linter.unusedSimpArgs false

theorem rd_mid (p q : List S29) (x : S29) : rd_T29 (p ++ x :: q) (p.length : Int) = x := by simp [rd_T29, List.getD_eq_getElem?_getD]
theorem refAlike (a b : ByteArray) (ha : a.size ≤ 1099511627776) (hb : b.size ≤ 1099511627776) : Ev (fun k => pursuivantref09_Alike.f k a b) ((lowBA a).toList == (lowBA b).toList) := by
  obtain ⟨a, rfl⟩ := ba_of a
  obtain ⟨b, rfl⟩ := ba_of b
  rw [ba_size'] at ha hb
  unfold pursuivantref09_Alike.f
  rw [lowBA_ba, lowBA_ba]
  exact Ev.bind (refLowerE a ha) (Ev.bind (refLowerE b hb) (Ev.now _))
theorem refAlikeB (x : S29) (b : ByteArray) (ha : x.f0.size ≤ 1099511627776) (hb : b.size ≤ 1099511627776) : Ev (fun k => pursuivantref09_Alike.f k x.f0 b) (alikeB (lowBA b) x) := refAlike _ _ ha hb

/-! Set -/
def setR (q : S29 → Bool) (h : S29) : List S29 → List S29
  | [] => [h]
  | x :: l => if q x = true then h :: l.filter (fun y => !q y) else x :: setR q h l
def setGo (low : ByteArray) (h : S29) (n : Int) : Nat → List S29 → List S29
  | _, [] => []
  | i, x :: l => (if (i : Int) = n then [h] else if alikeB low x = true then [] else [x]) ++ setGo low h n (i + 1) l
theorem setK_go (low : ByteArray) (h : S29) (n : Int) : ∀ (q p : List S29), setK low h n (p ++ q) (p ++ q).length = setK low h n (p ++ q) p.length ++ setGo low h n p.length q := by
  intro q
  induction q with
  | nil => intro p; simp [setGo]
  | cons x q ih =>
    intro p
    have := ih (p ++ [x])
    rw [List.append_assoc, List.singleton_append, show (p ++ [x]).length = p.length + 1 from by simp] at this
    rw [this, setK, rd_mid, setGo, List.append_assoc]
theorem setGo_past (low : ByteArray) (h : S29) (n : Int) : ∀ (l : List S29) (i : Nat), n < (i : Int) → setGo low h n i l = l.filter (fun y => !alikeB low y)
  | [], _, _ => rfl
  | x :: l, i, hi => by
    rw [setGo, setGo_past low h n l (i + 1) (by omega), if_neg (by omega)]
    by_cases hx : alikeB low x = true
    · simp [hx]
    · simp [hx]
theorem setGo_R (low : ByteArray) (h : S29) : ∀ (l : List S29) (i : Nat), l.any (alikeB low) = true → setGo low h ((i + l.findIdx (alikeB low) : Nat) : Int) i l = setR (alikeB low) h l
  | [], _, ha => by simp at ha
  | x :: l, i, ha => by
    by_cases hx : alikeB low x = true
    · rw [setGo, setR, if_pos hx, List.findIdx_cons, hx, if_pos (by simp)]
      rw [setGo_past _ _ _ _ _ (by simp; omega)]; rfl
    · rw [Bool.not_eq_true] at hx
      have ha' : l.any (alikeB low) = true := by simpa [hx] using ha
      have e : (x :: l).findIdx (alikeB low) = l.findIdx (alikeB low) + 1 := by rw [List.findIdx_cons, hx]; rfl
      rw [e, setGo, if_neg (by omega), if_neg (by simp [hx]), setR, if_neg (by simp [hx])]
      have := setGo_R low h l (i + 1) ha'
      rw [show (i + (List.findIdx (alikeB low) l + 1) : Nat) = i + 1 + List.findIdx (alikeB low) l from by omega, this]; rfl
theorem setR_none (q : S29 → Bool) (h : S29) : ∀ l : List S29, ¬l.any q = true → setR q h l = l.filter (fun y => !q y) ++ [h]
  | [], _ => rfl
  | x :: l, ha => by
    rw [List.any_cons, Bool.or_eq_true, not_or] at ha
    rw [setR, if_neg ha.1, setR_none q h l ha.2]
    simp [ha.1]
theorem setV_R (h : S29) (l : List S29) : setV h l = setR (alikeB (lowBA h.f0)) h l := by
  unfold setV
  have := setK_go (lowBA h.f0) h (firstOf (alikeB (lowBA h.f0)) l) l []
  rw [List.nil_append] at this
  rw [this, show setK (lowBA h.f0) h (firstOf (alikeB (lowBA h.f0)) l) l ([] : List S29).length = [] from rfl, List.nil_append]
  unfold firstOf
  by_cases ha : l.any (alikeB (lowBA h.f0)) = true
  · rw [if_pos ha, if_neg (by omega), List.append_nil]
    have := setGo_R (lowBA h.f0) h l 0 ha
    rw [Nat.zero_add] at this
    exact this
  · rw [if_neg ha, if_pos (by omega), setR_none _ _ _ ha, setGo_past _ _ _ _ _ (by simp)]
theorem refSet_go (h : S29) (hh : h.f0.size ≤ 1099511627776) : ∀ (q p out : List S29) (done : Bool), hdrSum (p ++ q) ≤ 1099511627776 → out.length ≤ p.length →
    Ev (fun k => pursuivantref09_Set.l0 k (p ++ q) out done (p.length : Int) h.f0 h.f1) (out ++ (if done = true then q.filter (fun y => !alikeB (lowBA h.f0) y) else setR (alikeB (lowBA h.f0)) h q)) := by
  intro q
  induction q with
  | nil =>
    intro p out done hs ho
    have hlen := hdrSum_length (p ++ [])
    rw [List.append_nil] at hlen hs
    refine Ev.step (fun k => by rw [pursuivantref09_Set.l0]) ?_
    refine Ev.if_neg (by simp) ?_
    cases done with
    | true => refine Ev.if_pos rfl ?_; simpa using Ev.now _
    | false => refine Ev.if_neg (by simp) (Ev.if_pos (by omega) ?_); simpa [setR] using Ev.now _
  | cons x q ih =>
    intro p out done hs ho
    have hlen := hdrSum_length (p ++ x :: q)
    have hm := hdrSum_mem (l := p ++ x :: q) (x := x) (by simp)
    have hpl : p.length < (p ++ x :: q).length := by simp
    refine Ev.step (fun k => by rw [pursuivantref09_Set.l0]) ?_
    refine Ev.if_pos (by omega) (Ev.if_pos (by omega) ?_)
    simp only [rd_mid, wrap_nat _ (show p.length < 9223372036854775807 by omega)]
    have hn := fun out' done' ho' => ih (p ++ [x]) out' done' (by rw [List.append_assoc, List.singleton_append]; exact hs) ho'
    rw [List.append_assoc, List.singleton_append, show (p ++ [x]).length = p.length + 1 from by simp] at hn
    refine Ev.bind (refAlikeB x h.f0 (by omega) hh) ?_
    by_cases ha : alikeB (lowBA h.f0) x = true
    · refine Ev.if_pos ha ?_
      cases done with
      | true =>
        refine Ev.if_pos rfl ?_
        have := hn out true (by omega)
        simpa [ha] using this
      | false =>
        refine Ev.if_neg (by simp) (Ev.if_pos (by omega) ?_)
        have := hn (out ++ [⟨h.f0, h.f1⟩]) true (by (first | omega | (simp only [ba_size', List.length_append, List.length_cons, List.length_nil]; omega) | (simp; omega) | (simp; done)))
        simpa [ha, setR] using this
    · refine Ev.if_neg ha (Ev.if_pos (by omega) ?_)
      have := hn (out ++ [⟨x.f0, x.f1⟩]) done (by (first | omega | (simp only [ba_size', List.length_append, List.length_cons, List.length_nil]; omega) | (simp; omega) | (simp; done)))
      cases done with
      | true => simpa [ha] using this
      | false => simpa [ha, setR] using this
theorem refSet (l : List S29) (h : S29) (hs : hdrSum l ≤ 1099511627776) (hh : h.f0.size ≤ 1099511627776) : Ev (fun k => pursuivantref09_Set.f k l h.f0 h.f1) (setV h l) := by
  have := refSet_go h hh l [] [] false hs (by simp)
  unfold pursuivantref09_Set.f
  rw [setV_R]
  simpa using this
theorem progSet (l : List S29) (h : S29) (hs : hdrSum l + h.f0.size ≤ 1099511627776) : head_Set.f l h.f0 h.f1 = some (setV h l) := by
  unfold head_Set.f; rw [if_pos hs]

/-! Drop -/
theorem dropL_filter : ∀ (names : List ByteArray) (l : List S29), dropL l names = l.filter (fun x => !names.any (fun n => alikeB (lowBA n) x))
  | [], l => (List.filter_eq_self.2 (fun _ _ => rfl)).symm
  | n :: r, l => by
    have := dropL_filter r (dropOne l n)
    rw [show dropL l (n :: r) = dropL (dropOne l n) r from rfl, this]
    unfold dropOne
    rw [List.filter_filter]
    refine List.filter_congr fun x _ => ?_
    rw [List.any_cons, Bool.not_or, Bool.and_comm]
theorem refDrop_in (l : List S29) (out : List S29) (i : Nat) (hi : i < l.length) (names : List ByteArray) (hl : hdrSum l ≤ 1099511627776) (hz : ∀ n ∈ names, n.size ≤ 1099511627776) (hnl : names.length ≤ 1099511627776) (R : List S29) :
    ∀ (q p : List ByteArray) (is : Bool), names = p ++ q →
    Ev (fun k => if (is || q.any (fun n => alikeB (lowBA n) (rd_T29 l i))) = true then pursuivantref09_Drop.l0 k l names out (wrap64 ((i : Int) + 1)) else (if 0 ≤ (i : Int) then (if (i : Int) < (l.length : Int) then (if out.length < 4398046511104 then (pursuivantref09_Drop.l0 k l names (out ++ [(⟨(rd_T29 l i).f0, (rd_T29 l i).f1⟩ : S29)]) (wrap64 ((i : Int) + 1))) else none) else none) else none)) R →
    Ev (fun k => pursuivantref09_Drop.l1 k l names out (i : Int) is (p.length : Int)) R := by
  have hm := hdrSum_mem (rd_mem hi)
  intro q
  induction q with
  | nil =>
    intro p is e h
    refine Ev.step (fun k => by rw [pursuivantref09_Drop.l1]) ?_
    refine Ev.if_neg (by rw [e]; simp) ?_
    simpa using h
  | cons n q ih =>
    intro p is e h
    have hpl : p.length < names.length := by rw [e]; simp
    have hn := hz n (by rw [e]; simp)
    have hr : rdOf ByteArray.empty names (p.length : Int) = n := by rw [e]; simp [rdOf, List.getD_eq_getElem?_getD]
    have hnx := fun is' h' => ih (p ++ [n]) is' (by rw [e]; simp) h'
    rw [show (p ++ [n]).length = p.length + 1 from by simp] at hnx
    refine Ev.step (fun k => by rw [pursuivantref09_Drop.l1]) ?_
    simp only [hr, wrap_nat _ (show p.length < 9223372036854775807 by omega)]
    refine Ev.if_pos (by omega) ?_
    cases is with
    | true =>
      refine Ev.if_pos rfl (hnx true ?_)
      simpa using h
    | false =>
      refine Ev.if_neg (by simp) (Ev.if_pos (by omega) (Ev.if_pos (by omega) (Ev.if_pos (by omega) ?_)))
      refine Ev.bind (refAlikeB _ n (by omega) hn) (hnx _ ?_)
      simpa using h
theorem refDrop_go (names : List ByteArray) (hz : ∀ n ∈ names, n.size ≤ 1099511627776) (hnl : names.length ≤ 1099511627776) : ∀ (q p out : List S29), hdrSum (p ++ q) ≤ 1099511627776 → out.length ≤ p.length →
    Ev (fun k => pursuivantref09_Drop.l0 k (p ++ q) names out (p.length : Int)) (out ++ q.filter (fun x => !names.any (fun n => alikeB (lowBA n) x))) := by
  intro q
  induction q with
  | nil =>
    intro p out hs ho
    refine Ev.step (fun k => by rw [pursuivantref09_Drop.l0]) ?_
    refine Ev.if_neg (by simp) ?_
    simpa using Ev.now _
  | cons x q ih =>
    intro p out hs ho
    have hlen := hdrSum_length (p ++ x :: q)
    have hpl : p.length < (p ++ x :: q).length := by simp
    refine Ev.step (fun k => by rw [pursuivantref09_Drop.l0]) ?_
    refine Ev.if_pos (by omega) ?_
    refine refDrop_in (p ++ x :: q) out p.length hpl names hs hz hnl _ names [] false rfl ?_
    have hn := fun out' ho' => ih (p ++ [x]) out' (by rw [List.append_assoc, List.singleton_append]; exact hs) ho'
    rw [List.append_assoc, List.singleton_append, show (p ++ [x]).length = p.length + 1 from by simp] at hn
    simp only [rd_mid, wrap_nat _ (show p.length < 9223372036854775807 by omega), Bool.false_or]
    by_cases ha : names.any (fun n => alikeB (lowBA n) x) = true
    · refine Ev.if_pos ha ?_
      have := hn out (by omega)
      rw [List.filter_cons, if_neg (by simp only [ha]; simp)]; exact this
    · refine Ev.if_neg ha (Ev.if_pos (by omega) (Ev.if_pos (by omega) (Ev.if_pos (by omega) ?_)))
      have := hn (out ++ [⟨x.f0, x.f1⟩]) (by (first | omega | (simp only [ba_size', List.length_append, List.length_cons, List.length_nil]; omega) | (simp; omega) | (simp; done)))
      rw [List.filter_cons, if_pos (by simp only [Bool.not_eq_true] at ha; simp only [ha]; rfl)]
      simpa using this
theorem refDrop (l : List S29) (names : List ByteArray) (hs : hdrSum l ≤ 1099511627776) (hz : ∀ n ∈ names, n.size ≤ 1099511627776) (hnl : names.length ≤ 1099511627776) : Ev (fun k => pursuivantref09_Drop.f k l names) (dropL l names) := by
  have := refDrop_go names hz hnl l [] [] hs (by simp)
  unfold pursuivantref09_Drop.f
  rw [dropL_filter]
  simpa using this
theorem progDrop (l : List S29) (names : List ByteArray) (hs : hdrSum l ≤ 1099511627776) (hz : ∀ n ∈ names, n.size ≤ 1099511627776) : head_Drop.f l names = some (dropL l names) := by
  unfold head_Drop.f; rw [if_pos ⟨hs, fun n hn => by have := hz n hn; omega⟩]

/-! Get -/
theorem join_snoc (xs : List (List UInt8)) (x sep : List UInt8) : Lib.join (xs ++ [x]) sep = if xs = [] then x else Lib.join xs sep ++ sep ++ x := by
  cases xs with
  | nil => simp [Lib.join_one]
  | cons y r => rw [List.cons_append, Lib.join_cons, Lib.join_cons, if_neg (by simp)]; simp [Lib.joinTail]
def getBA (nm : ByteArray) (l : List S29) : ByteArray := ba (Lib.join ((getV nm l).map (·.data.toList)) [44, 32])
theorem getV_app (nm : ByteArray) (p : List S29) (x : S29) : getV nm (p ++ [x]) = if alikeB (lowBA nm) x = true then getV nm p ++ [x.f1] else getV nm p := by
  unfold getV
  rw [List.filter_append]
  by_cases h : alikeB (lowBA nm) x = true
  · rw [if_pos h, List.map_append]
    congr 1
    have h' : ((lowBA x.f0).toList == (lowBA nm).toList) = true := h
    simp [List.filter_cons, h']
  · rw [if_neg h]
    have h' : ¬((lowBA x.f0).toList == (lowBA nm).toList) = true := h
    simp [List.filter_cons, h']
theorem refGet_go (nm : ByteArray) (hnm : nm.size ≤ 1099511627776) : ∀ (q p : List S29), hdrSum (p ++ q) ≤ 1099511627776 →
    Ev (fun k => pursuivantref09_Get.l0 k (p ++ q) nm (getBA nm p) (decide (0 < (getV nm p).length)) (p.length : Int)) (getBA nm (p ++ q), decide (0 < (getV nm (p ++ q)).length)) := by
  intro q
  induction q with
  | nil =>
    intro p hs
    refine Ev.step (fun k => by rw [pursuivantref09_Get.l0]) ?_
    refine Ev.if_neg (by simp) ?_
    rw [List.append_nil]; exact Ev.now _
  | cons x q ih =>
    intro p hs
    have hlen := hdrSum_length (p ++ x :: q)
    have hm := hdrSum_mem (l := p ++ x :: q) (x := x) (by simp)
    have hpl : p.length < (p ++ x :: q).length := by simp
    have hJ := getV_join nm p
    have hJ2 := hdrSum_take (p ++ x :: q) p.length
    rw [List.take_left] at hJ2
    have hbs : (getBA nm p).size = (Lib.join ((getV nm p).map (·.data.toList)) [44, 32]).length := by unfold getBA; rw [ba_size']
    refine Ev.step (fun k => by rw [pursuivantref09_Get.l0]) ?_
    refine Ev.if_pos (by omega) (Ev.if_pos (by omega) ?_)
    simp only [rd_mid, wrap_nat _ (show p.length < 9223372036854775807 by omega)]
    have hn := ih (p ++ [x]) (by rw [List.append_assoc, List.singleton_append]; exact hs)
    rw [List.append_assoc, List.singleton_append, show (p ++ [x]).length = p.length + 1 from by simp] at hn
    refine Ev.bind (refAlikeB x nm (by omega) hnm) ?_
    unfold getBA at hn hbs ⊢
    rw [getV_app] at hn
    by_cases ha : alikeB (lowBA nm) x = true
    · refine Ev.if_pos ha ?_
      rw [if_pos ha] at hn
      rw [List.map_append, List.map_cons, List.map_nil, join_snoc] at hn
      rw [show decide (0 < (getV nm p ++ [x.f1]).length) = true from by simp] at hn
      obtain ⟨v, hv⟩ := ba_of x.f1
      rw [hv, ba_data] at hn
      rw [hv, ba_size'] at hm
      rw [hv]
      by_cases h0 : getV nm p = []
      · rw [h0] at hn ⊢
        refine Ev.if_neg (by simp) (Ev.if_pos (by simp [Lib.join_nil]; omega) ?_)
        rw [if_pos (by simp)] at hn
        rw [ba_app]
        exact hn
      · have hpos : decide (0 < (getV nm p).length) = true := decide_eq_true (List.length_pos_iff.2 h0)
        rw [if_neg (by simpa using h0)] at hn
        rw [show (⟨#[44, 32]⟩ : ByteArray) = ba [44, 32] from rfl, ba_app, ba_app]
        refine Ev.if_pos hpos (Ev.if_pos (by omega) (Ev.if_pos (by rw [ba_size', ba_size', List.length_append]; simp only [List.length_cons, List.length_nil]; omega) hn))
    · refine Ev.if_neg ha ?_
      rw [if_neg ha] at hn
      exact hn
theorem refGet (l : List S29) (nm : ByteArray) (hs : hdrSum l ≤ 1099511627776) (hnm : nm.size ≤ 1099511627776) : Ev (fun k => pursuivantref09_Get.f k l nm) (getBA nm l, decide (0 < (getV nm l).length)) := by
  have := refGet_go nm hnm l [] hs
  unfold pursuivantref09_Get.f
  have e0 : getBA nm [] = (⟨#[]⟩ : ByteArray) := rfl
  rw [e0] at this
  exact this
theorem progGet (l : List S29) (nm : ByteArray) (hs : hdrSum l + nm.size ≤ 1099511627776) : head_Get.f l nm = some (getBA nm l, decide (0 < (getV nm l).length)) := by
  unfold head_Get.f
  rw [if_pos hs]; rfl
/-! Same -/
theorem refSame9_go (xs : List S29) : ∀ (q p : List S29), xs = p ++ q → xs.length ≤ 1099511627776 →
    Ev (fun k => pursuivantref09_Same.l0 k xs xs (p.length : Int)) true := by
  intro q
  induction q with
  | nil =>
    intro p e h
    refine Ev.step (fun k => by rw [pursuivantref09_Same.l0]) ?_
    exact Ev.if_neg (by rw [e]; simp) (Ev.now _)
  | cons c q ih =>
    intro p e h
    have hl : p.length < xs.length := by rw [e]; simp
    refine Ev.step (fun k => by rw [pursuivantref09_Same.l0]) ?_
    refine Ev.if_pos (by omega) (Ev.if_pos (by omega) (Ev.if_pos (by omega) (Ev.if_neg (by simp) ?_)))
    rw [wrap_nat _ (by omega)]
    have := ih (p ++ [c]) (by rw [e]; simp) h
    simpa using this
theorem refSame9 (xs : List S29) (h : xs.length ≤ 1099511627776) : Ev (fun k => pursuivantref09_Same.f k xs xs) true := by
  unfold pursuivantref09_Same.f
  exact Ev.if_pos rfl (refSame9_go xs xs [] rfl h)
end Go.Proofs.YtmnpkiehagedcaaDoor.Hand
