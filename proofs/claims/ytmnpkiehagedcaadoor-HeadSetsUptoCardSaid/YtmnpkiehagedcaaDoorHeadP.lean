/- The plain laws of head. -/
import Derived.Test.YtmnpkiehagedcaaDoorHeadF
import Derived.Test.YtmnpkiehagedcaaDoorFC1
import Derived.Test.YtmnpkiehagedcaaDoorFC2
import Derived.Test.YtmnpkiehagedcaaDoorFC3
import Derived.Test.YtmnpkiehagedcaaDoorOpens
namespace Go.Proofs.YtmnpkiehagedcaaDoor.Hand
open Go.RowKit Go.Proofs.YtmnpkiehagedcaaDoorW.PrintWords Go.Proofs.YtmnpkiehagedcaaDoorW.PrintLast Go.Proofs.YtmnpkiehagedcaaDoorW.PrintMore
set_option linter.unusedVariables false
set_option linter.unusedSimpArgs false

theorem hdrSum_sz (l : List S29) : (l.map sz29).sum = hdrSum l := by
  unfold hdrSum
  congr 1
  exact List.map_congr_left fun x _ => by simp [sz29]; omega
theorem few9 (l : List S29) : pursuivantlaw09_few.f l = some (l.take 30) := by
  unfold pursuivantlaw09_few.f
  by_cases h : (l.length : Int) > 30
  · rw [if_pos h, if_pos (by omega)]
  · rw [if_neg h, List.take_of_length_le (by omega)]
theorem awake9 : Ev (fun k => pursuivantlaw09_awake.f k) true := Ev.of (k := 30) pursuivantlaw09_awake.mono (by decide +kernel)
theorem dropL_length (l : List S29) (names : List ByteArray) : (dropL l names).length ≤ l.length := by
  rw [dropL_filter]; exact List.length_filter_le _ _
/-! What was set is got, once -/
theorem alike_self (h : S29) : alikeB (lowBA h.f0) h = true := by simp [alikeB]
theorem setR_drop (q : S29 → Bool) (h : S29) (hq : q h = true) : ∀ l, (setR q h l).filter (fun y => !q y) = l.filter (fun y => !q y)
  | [] => by simp [setR, hq]
  | x :: l => by
    rw [setR]
    split
    · rename_i hx; rw [List.filter_cons, if_neg (by simp [hq]), List.filter_filter, List.filter_cons, if_neg (by simp [hx])]; exact List.filter_congr fun y _ => by simp
    · rename_i hx; rw [List.filter_cons, if_pos (by simp [hx]), List.filter_cons, if_pos (by simp [hx]), setR_drop q h hq l]
theorem setR_own (q : S29 → Bool) (h : S29) (hq : q h = true) : ∀ l, (setR q h l).filter q = [h]
  | [] => by simp [setR, hq]
  | x :: l => by
    rw [setR]
    split
    · rw [List.filter_cons, if_pos hq, List.filter_filter]
      congr 1
      rw [List.filter_eq_nil_iff]; intro y _; simp
    · rename_i hx; rw [List.filter_cons, if_neg hx, setR_own q h hq l]
theorem setR_setR (q : S29 → Bool) (h : S29) (hq : q h = true) : ∀ l, setR q h (setR q h l) = setR q h l
  | [] => by simp [setR, hq]
  | x :: l => by
    by_cases hx : q x = true
    · simp only [setR, if_pos hx]
      rw [if_pos hq, List.filter_filter]
      congr 1; exact List.filter_congr fun y _ => by simp
    · simp only [setR, if_neg hx]
      rw [setR_setR q h hq l]
theorem setR_others (q q' : S29 → Bool) (h : S29) (hh : q' h = false) (hd : ∀ x, q x = true → q' x = false) : ∀ l, (setR q h l).filter q' = l.filter q'
  | [] => by simp [setR, hh]
  | x :: l => by
    rw [setR]
    split
    · rename_i hx
      rw [List.filter_cons, if_neg (by simp [hh]), List.filter_filter, List.filter_cons, if_neg (by simp [hd x hx])]
      refine List.filter_congr fun y _ => ?_
      cases hy : q y with
      | true => rw [hd y hy]; rfl
      | false => simp
    · rw [List.filter_cons, List.filter_cons, setR_others q q' h hh hd l]
theorem hdrSum_cons (x : S29) (l : List S29) : hdrSum (x :: l) = x.f0.size + x.f1.size + 3 + hdrSum l := by simp [hdrSum]
theorem hdrSum_filter (p : S29 → Bool) : ∀ l, hdrSum (l.filter p) ≤ hdrSum l
  | [] => Nat.le_refl _
  | x :: l => by
    have := hdrSum_filter p l
    rw [List.filter_cons, hdrSum_cons]
    split
    · rw [hdrSum_cons]; omega
    · omega
theorem hdrSum_setR (q : S29 → Bool) (h : S29) : ∀ l, hdrSum (setR q h l) ≤ hdrSum l + (h.f0.size + h.f1.size + 3)
  | [] => by simp [setR, hdrSum]
  | x :: l => by
    rw [setR]
    split
    · have := hdrSum_filter (fun y => !q y) l; rw [hdrSum_cons, hdrSum_cons]; omega
    · have := hdrSum_setR q h l; rw [hdrSum_cons, hdrSum_cons]; omega
theorem getV_alike (nm : ByteArray) (l : List S29) : getV nm l = (l.filter (alikeB (lowBA nm))).map (·.f1) := rfl
theorem dropL_one (l : List S29) (nm : ByteArray) : dropL l [nm] = l.filter (fun x => !alikeB (lowBA nm) x) := rfl
theorem getBA_congr {nm : ByteArray} {a b : List S29} (h : getV nm a = getV nm b) : getBA nm a = getBA nm b := by unfold getBA; rw [h]
theorem headSets_pure (x0 : List S29) (x1 : S29) (x2 : ByteArray) (hb : (fun l => (l.map sz29).sum + 1) x0 + sz29 x1 + (fun s : ByteArray => s.size + 1) x2 ≤ 1048576) (hw0 : (fun l => ∀ x ∈ l, wf29 x) x0) (hw1 : wf29 x1) (hw2 : (fun _ => True) x2) : ∃ k, pursuivantlaw09_HeadSets.f k x0 (x1.f0) (x1.f1) x2 = some true := by
  have hb1 : (x0.map sz29).sum + 1 + sz29 x1 + (x2.size + 1) ≤ 1048576 := hb
  rw [hdrSum_sz] at hb1
  have hs1 : sz29 x1 = x1.f0.size + x1.f1.size + 3 := by simp [sz29]; omega
  have ht := hdrSum_take x0 30
  apply Ev.rounds
  unfold pursuivantlaw09_HeadSets.f
  refine Ev.some_bind (fun _ => few9 x0) ?_
  generalize x0.take 30 = l at *
  have hlen := hdrSum_length l
  refine Ev.some_bind (fun _ => progSet l x1 (by omega)) ?_
  have hset : setV x1 (setV x1 l) = setV x1 l := by rw [setV_R, setV_R, setR_setR _ _ (alike_self x1)]
  have hts : hdrSum (setV x1 l) ≤ hdrSum l + (x1.f0.size + x1.f1.size + 3) := by rw [setV_R]; exact hdrSum_setR _ _ _
  have hown : getV x1.f0 (setV x1 l) = [x1.f1] := by rw [getV_alike, setV_R, setR_own _ _ (alike_self x1)]; rfl
  have hdrop : dropL (setV x1 l) [x1.f0] = dropL l [x1.f0] := by rw [dropL_one, dropL_one, setV_R, setR_drop _ _ (alike_self x1)]
  have hoth : alikeB (lowBA x1.f0) ⟨x2, ByteArray.empty⟩ = false → getV x2 (setV x1 l) = getV x2 l := by
    intro hne
    rw [getV_alike, getV_alike, setV_R, setR_others]
    · have : ¬(lowBA x2).toList = (lowBA x1.f0).toList := by simpa [alikeB] using hne
      simp only [alikeB, beq_eq_false_iff_ne]
      exact fun e => this e.symm
    · intro x hx
      have : ¬(lowBA x2).toList = (lowBA x1.f0).toList := by simpa [alikeB] using hne
      have hx' : (lowBA x.f0).toList = (lowBA x1.f0).toList := by simpa [alikeB] using hx
      simp only [alikeB, beq_eq_false_iff_ne]
      exact fun e => this (e.symm.trans hx')
  generalize setV x1 l = t at *
  have htl := hdrSum_length t
  refine Ev.some_bind (fun _ => progGet t x1.f0 (by omega)) ?_
  rw [hown]
  have hg : getBA x1.f0 t = x1.f1 := by unfold getBA; rw [hown]; simp [Lib.join_one, ba]
  rw [hg]
  refine Ev.if_pos rfl (Ev.if_pos (by simp) ?_)
  refine Ev.some_bind (fun _ => progSet t x1 (by omega)) ?_
  rw [hset]
  refine Ev.bind (refSame9 t (by omega)) (Ev.if_pos rfl ?_)
  have hd1 : ∀ a : List S29, ∀ nm : ByteArray, hdrSum a ≤ 1099511627776 → nm.size ≤ 1099511627776 → head_Drop.f a ([nm] : List ByteArray) = some (dropL a [nm]) := fun a nm h1 h2 => progDrop a [nm] h1 (fun n hn => by rw [List.mem_singleton.1 hn]; exact h2)
  refine Ev.some_bind (fun _ => hd1 t x1.f0 (by omega) (by omega)) (Ev.some_bind (fun _ => hd1 l x1.f0 (by omega) (by omega)) ?_)
  rw [hdrop]
  have hdl := dropL_length l [x1.f0]
  refine Ev.bind (refSame9 _ (by omega)) ?_
  refine Ev.step (fun k => by rw [pursuivantlaw09_HeadSets.j0]) ?_
  refine Ev.if_neg (by simp) ?_
  refine Ev.some_bind (fun _ => hd1 l x2 (by omega) (by omega)) ?_
  have hds : hdrSum (dropL l [x2]) ≤ hdrSum l := by rw [dropL_one]; exact hdrSum_filter _ _
  have hno : getV x2 (dropL l [x2]) = [] := by
    rw [getV_alike, dropL_one, List.filter_filter, List.filter_eq_nil_iff.2 (by intro y _; simp)]; rfl
  refine Ev.some_bind (fun _ => progGet _ x2 (by omega)) (Ev.some_bind (fun _ => progGet l x2 (by omega)) (Ev.some_bind (fun _ => progGet t x2 (by omega)) (Ev.bind awake9 (Ev.if_pos rfl ?_))))
  rw [hno]
  refine Ev.if_neg (by simp) ?_
  refine Ev.bind (refAlike x2 x1.f0 (by omega) (by omega)) ?_
  by_cases he : ((lowBA x2).toList == (lowBA x1.f0).toList) = true
  · exact Ev.if_pos he (Ev.now _)
  · refine Ev.if_neg he ?_
    have h2 := hoth (by simpa [alikeB] using he)
    rw [getBA_congr h2, h2]
    refine Ev.if_pos rfl ?_
    simpa using Ev.now _
end Go.Proofs.YtmnpkiehagedcaaDoor.Hand
