/- The plain laws of head. -/
import Derived.Test.YtmnpkiehagedcaaDoorHeadF
import Derived.Test.YtmnpkiehagedcaaDoorFC1
import Derived.Test.YtmnpkiehagedcaaDoorFC2
import Derived.Test.YtmnpkiehagedcaaDoorFC3
import Derived.Test.YtmnpkiehagedcaaDoorOpens
namespace Go.Proofs.YtmnpkiehagedcaaDoor.Hand
open Go.RowKit Go.Proofs.YtmnpkiehagedcaaDoorW.PrintWords Go.Proofs.YtmnpkiehagedcaaDoorW.PrintLast Go.Proofs.YtmnpkiehagedcaaDoorW.PrintMore
set_option linter.unusedVariables false
set_option linter.unusedSimpArgs false

theorem hdrSum_sz (l : List S29) : (l.map sz29).sum = hdrSum l := by
  unfold hdrSum
  congr 1
  exact List.map_congr_left fun x _ => by simp [sz29]; omega
theorem few9 (l : List S29) : pursuivantlaw09_few.f l = some (l.take 30) := by
  unfold pursuivantlaw09_few.f
  by_cases h : (l.length : Int) > 30
  · rw [if_pos h, if_pos (by omega)]
  · rw [if_neg h, List.take_of_length_le (by omega)]
theorem awake9 : Ev (fun k => pursuivantlaw09_awake.f k) true := Ev.of (k := 30) pursuivantlaw09_awake.mono (by decide +kernel)
theorem names_sz {l : List ByteArray} {n : Nat} (h : (l.map (fun s : ByteArray => s.size + 1)).sum ≤ n) : (∀ x ∈ l, x.size ≤ n) ∧ l.length ≤ n := by
  induction l generalizing n with
  | nil => simp
  | cons y r ih =>
    simp only [List.map_cons, List.sum_cons] at h
    have := ih (n := n - (y.size + 1)) (by omega)
    refine ⟨fun x hx => ?_, by simp; omega⟩
    rcases List.mem_cons.1 hx with rfl | hx
    · omega
    · have := this.1 x hx; omega
theorem setR_length (q : S29 → Bool) (h : S29) : ∀ l, (setR q h l).length ≤ l.length + 1
  | [] => by simp [setR]
  | x :: l => by
    rw [setR]
    split
    · have := List.length_filter_le (fun y => !q y) l; simp; omega
    · have := setR_length q h l; simp; omega
theorem dropL_length (l : List S29) (names : List ByteArray) : (dropL l names).length ≤ l.length := by
  rw [dropL_filter]; exact List.length_filter_le _ _
theorem headChanges_pure (x0 : List S29) (x1 : S29) (x2 : List ByteArray) (hb : (fun l => (l.map sz29).sum + 1) x0 + sz29 x1 + (fun l => (l.map (fun s : ByteArray => s.size + 1)).sum + 1) x2 ≤ 1048576) (hw0 : (fun l => ∀ x ∈ l, wf29 x) x0) (hw1 : wf29 x1) (hw2 : (fun l => ∀ x ∈ l, (fun _ => True) x) x2) : ∃ k, pursuivantlaw09_HeadChanges.f k x0 (x1.f0) (x1.f1) x2 = some true := by
  have hb1 : (x0.map sz29).sum + 1 + sz29 x1 + ((x2.map (fun s : ByteArray => s.size + 1)).sum + 1) ≤ 1048576 := hb
  rw [hdrSum_sz] at hb1
  have hs1 : sz29 x1 = x1.f0.size + x1.f1.size + 3 := by simp [sz29]; omega
  have ht := hdrSum_take x0 30
  obtain ⟨hz, hnl⟩ := names_sz (l := x2) (n := 1048576) (by omega)
  have hlen := hdrSum_length (x0.take 30)
  apply Ev.rounds
  unfold pursuivantlaw09_HeadChanges.f
  refine Ev.some_bind (fun _ => few9 x0) ?_
  have main : ∀ names : List ByteArray, (∀ x ∈ names, x.size ≤ 1048576) → names.length ≤ 1048576 → Ev (fun k => pursuivantlaw09_HeadChanges.j0 k (x0.take 30) names x1.f0 x1.f1) true := by
    intro names hz hnl
    refine Ev.step (fun k => by rw [pursuivantlaw09_HeadChanges.j0]) ?_
    refine Ev.some_bind (fun _ => progGet _ _ (by omega)) (Ev.bind (refGet _ _ (by omega) (by omega)) (Ev.bind awake9 (Ev.if_pos rfl (Ev.if_pos rfl (Ev.if_pos (by simp) ?_)))))
    refine Ev.some_bind (fun _ => progSet _ x1 (by omega)) (Ev.bind (refSet _ x1 (by omega) (by omega)) (Ev.bind (refSame9 _ ?_) (Ev.if_pos rfl ?_)))
    · rw [setV_R]; have := setR_length (alikeB (lowBA x1.f0)) x1 (x0.take 30); omega
    refine Ev.some_bind (fun _ => progDrop _ names (by omega) (fun n hn => by have := hz n hn; omega)) (Ev.bind (refDrop _ names (by omega) (fun n hn => by have := hz n hn; omega) (by omega)) (Ev.bind (refSame9 _ ?_) (Ev.now _)))
    have := dropL_length (x0.take 30) names; omega
  by_cases h6 : (x2.length : Int) > 6
  · exact Ev.if_pos h6 (Ev.if_pos (by omega) (main _ (fun x hx => hz x (List.mem_of_mem_take hx)) (by rw [List.length_take]; omega)))
  · exact Ev.if_neg h6 (main _ hz hnl)
/-! What was set is got, once -/
end Go.Proofs.YtmnpkiehagedcaaDoor.Hand
