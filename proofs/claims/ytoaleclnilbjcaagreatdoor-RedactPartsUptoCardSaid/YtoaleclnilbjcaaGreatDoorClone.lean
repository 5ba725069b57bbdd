/- slices.Clone at each flat element type: a row of the call's own with the same elements. Condition: at most 2^40 elements. -/
import Derived.Test.YtoaleclnilbjcaaGreatDoorLow
import Derived.Test.YtoaleclnilbjcaaGreatDoorK
import Derived.Test.YtoaleclnilbjcaaGreatDoorShelf
import Derived.Deep.AppendLies
import Derived.Maps.AppendAt
import Derived.Laws.MakeOwn
import Derived.Laws.OwnMore
import Derived.Deep.OwnRows
import Derived.Deep.LoopGhost
import Derived.Deep.QuietTactic
import Derived.BigQuiet
import Derived.WideLaws
import Derived.Deep.DeepCutAuto
import Derived.Deep.CutBlock
import Derived.Deep.RegionHeld3
import Derived.Laws.Rows
import Derived.Lib.AppendStr
import Derived.ArgAppend
import Derived.OrdersHeld
import Derived.Deep.DeepFit
import Derived.Test.YtoaleclnilbjcaaGreatDoorWMore
import Derived.Test.YtoaleclnilbjcaaGreatDoorRow
import Derived.Lib.SliceRun
namespace Go.Proofs.YtoaleclnilbjcaaGreatDoor.Hand
open Go.RowKit Go.Proofs.YtoaleclnilbjcaaGreatDoorW.PrintWords Go.Proofs.YtoaleclnilbjcaaGreatDoorW.PrintLast Go.Proofs.YtoaleclnilbjcaaGreatDoorW.PrintMore
set_option linter.unusedVariables false
set_option linter.unusedSimpArgs false

theorem R_base {α : Type} {d : Kd α} {enc : α → List Value} (hf : Flat d enc) {e base : Nat} {ok : Nat → Prop} {W : World} {v : Value} {ys : List α} (h : Kd.R d e W base ok v ys) (hs : 0 < d.sz) : Kd.R d e W base (fun k_ => base ≤ k_) v ys := by
 rcases RowAt.ofR hf h with ⟨rfl, rfl⟩ | ⟨g, cap, rfl, hb, _, hR⟩
 ·exact Kd.R_nil _ _ _ _ _
 ·exact hR.toR hf hb hb hs
set_option maxHeartbeats 1000000 in
set_option maxRecDepth 100000 in
theorem cloneH {enc : _ → List Value} (hf : Flat k58 enc) (A0 : Option Addr) (c0 : Nat) (l0 : List _) (w : World) (hr0 : Kd.C k58 w A0 l0.length l0) (hc0 : l0.length ≤ c0) (hm : l0.length ≤ 1099511627776) :
  Calls Tryz.prog 33 #[.slice A0 l0.length c0] w fun e w' => ∃ v, e = .returned v ∧ Kd.R k58 58 w' w.heap.size (fun k_ => w.heap.size ≤ k_) v l0 ∧ Below w.heap.size w w' := by
 have he : ∀ (w : World) (a : Option Addr) (n c : Nat), (binOp .eql 33 (.slice a n c) (.slice none 0 0)).run Tryz.prog w = .ok (.bool a.isNone) w := fun w a n c => Lib.run_eql_slice_nil w 33 58 a n c 0 0 Tryz.underlying33
 cases A0 with
 | none =>
  have hl : l0 = [] := by
   rcases Nat.eq_zero_or_pos l0.length with h | h
   ·exact List.length_eq_zero_iff.1 h
   ·obtain ⟨ad, e, _⟩ := hr0.2.2 h; cases e
  subst hl
  go_enter Tryz.func33, Tryz.ntmps33
  go_wp2_with fail
  go_ret
  exact ⟨_, rfl, Kd.R_nil _ _ _ _ _, Below.refl _ _⟩
 | some ad0 =>
  have HR := Lib.hid hr0
  have HM := Lib.hid hm
  clear hr0 hm
  go_enter Tryz.func33, Tryz.ntmps33
  go_wp2_with (first | ((with_reducible refine gate_dst (N := 5) rfl ?_); refine Kd.R_lit k58 _ 58 ?hg (N := 5) ?hd (xs := []) (inner := []) (ok := fun _ => True) (okp := fun _ => True) ?hr ?hp (fun _ hk => hk) trivial (Below.refl _ _) (Nat.le_refl _) (by simp) ?_; (case hd => rfl); (case hg => rfl); (case hr => first | (go_simp; done) | (go_simp; rfl)); (case hp => exact (Reps.none _ _)); intro v1 w1 ho hb hg_ hnew_; clear hg_ hnew_; have HO := Aside0.mk ho; have HB := Aside0.mk hb; have HC := Aside0.mk (Kd.C_below HR.out hb); clear ho hb) | ((with_reducible refine gate_builtin (b := .append) (xs := #[.tmp 5, .tmp 6]) rfl ?_); at_builtin; refine Kd.R_append_rows k58 (Rr := (k58).K w1) (w0 := w) w.heap.size rfl (.tmp 5) (.tmp 6) 33 58 (.agg #[(.string ⟨#[]⟩), (.string ⟨#[]⟩)]) 32 rfl Tryz.underlying33 info58 rfl (by decide) (by omega) v1 [] l0 (some ad0) l0.length c0 (fun _ => True) (fun _ => False) rfl rfl ?aO ?aR ?aK (fun _ hk => hk.elim) (fun _ _ => trivial) ?aB ?aS ?aL ?_; (case aO => exact HO.out); (case aR => exact HC.out); (case aK => exact fun x cs hK => by rw [hf.K hK]; exact hf.mkM _ _ _ _); (case aB => exact HB.out); (case aS => exact below_size HB.out); (case aL => have := HM.out; simp only [List.length_nil]; omega); intro v3 w3 ho3 hb3 hg3 hat3; rw [List.nil_append] at ho3; have HO3 := Aside0.mk ho3; have HB3 := Aside0.mk hb3; clear ho3 hb3 hg3 hat3))
  go_ret
  exact ⟨_, rfl, R_base hf HO3.out (by decide), HB3.out⟩
end Go.Proofs.YtoaleclnilbjcaaGreatDoor.Hand
