/- The plain laws of head. -/
import Derived.Test.YtmnpkiehagedcaaDoorHeadF
import Derived.Test.YtmnpkiehagedcaaDoorFC1
import Derived.Test.YtmnpkiehagedcaaDoorFC2
import Derived.Test.YtmnpkiehagedcaaDoorFC3
import Derived.Test.YtmnpkiehagedcaaDoorOpens
namespace Go.Proofs.YtmnpkiehagedcaaDoor.Hand
open Go.RowKit Go.Proofs.YtmnpkiehagedcaaDoorW.PrintWords Go.Proofs.YtmnpkiehagedcaaDoorW.PrintLast Go.Proofs.YtmnpkiehagedcaaDoorW.PrintMore
set_option linter.unusedVariables false
set_option linter.unusedSimpArgs false

theorem hdrSum_sz (l : List S29) : (l.map sz29).sum = hdrSum l := by
  unfold hdrSum
  congr 1
  exact List.map_congr_left fun x _ => by simp [sz29]; omega
theorem few9 (l : List S29) : pursuivantlaw09_few.f l = some (l.take 30) := by
  unfold pursuivantlaw09_few.f
  by_cases h : (l.length : Int) > 30
  · rw [if_pos h, if_pos (by omega)]
  · rw [if_neg h, List.take_of_length_le (by omega)]
theorem awake9 : Ev (fun k => pursuivantlaw09_awake.f k) true := Ev.of (k := 30) pursuivantlaw09_awake.mono (by decide +kernel)
theorem headGoods_pure (x0 : List S29) (x1 : ByteArray) (hb : (fun l => (l.map sz29).sum + 1) x0 + (fun s : ByteArray => s.size + 1) x1 ≤ 1048576) (hw0 : (fun l => ∀ x ∈ l, wf29 x) x0) (hw1 : (fun _ => True) x1) : ∃ k, pursuivantlaw09_HeadGoods.f k x0 x1 = some true := by
  have hb1 : (x0.map sz29).sum + 1 + (x1.size + 1) ≤ 1048576 := hb
  rw [hdrSum_sz] at hb1
  obtain ⟨s, rfl⟩ := ba_of x1
  rw [ba_size'] at hb1
  have ht := hdrSum_take x0 30
  apply Ev.rounds
  unfold pursuivantlaw09_HeadGoods.f
  refine Ev.bind awake9 (Ev.if_pos rfl ?_)
  refine Ev.some_bind (fun _ => few9 x0) (Ev.some_bind (a := goodHs (x0.take 30)) (fun _ => rfl) ?_)
  refine Ev.some_bind (fun _ => few9 x0) (Ev.bind (refGood _ (by omega)) (Ev.if_pos (by simp) ?_))
  refine Ev.bind (progName s) (Ev.bind (refName s) (Ev.if_pos (by simp) ?_))
  refine Ev.some_bind (a := valueB (ba s)) (fun _ => rfl) (Ev.bind (refValue s (by omega)) ?_)
  rw [valueB_ba]
  simpa using Ev.now _
/-! What was set is got, once -/
end Go.Proofs.YtmnpkiehagedcaaDoor.Hand
