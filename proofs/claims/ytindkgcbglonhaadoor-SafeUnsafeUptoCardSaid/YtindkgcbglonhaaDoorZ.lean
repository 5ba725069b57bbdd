/- Proof blocks that stand often in the printed texts: each is a lemma's default proof. No condition. -/
import Derived.Test.YtindkgcbglonhaaDoorK
namespace Go.Proofs.YtindkgcbglonhaaDoor.Hand
open Go.RowKit Go.Proofs.YtindkgcbglonhaaDoorW.PrintWords Go.Proofs.YtindkgcbglonhaaDoorW.PrintLast Go.Proofs.YtindkgcbglonhaaDoorW.PrintMore
attribute [local go_sem] max2_int min2_int max_two min_two max_three min_three max_four min_four   -- for this text's walks alone
set_option linter.unusedVariables false
set_option linter.unusedSimpArgs false
theorem z0_ {P_ : Prop} (h_ : P_ := by repeat (first | (with_reducible first | exact HB.out | apply below_alloc | apply pw_below_drewN | apply below_drew1 | refine below_set ?_ GE118.out) | exact HB.out)) : P_ := h_
theorem z1_ {P_ : Prop} (h_ : P_ := by repeat (first | (with_reducible first | exact HB.out | apply below_alloc | apply pw_below_drewN | apply below_drew1 | refine below_set ?_ GE168.out) | exact HB.out)) : P_ := h_
theorem z2_ {P_ : Prop} (h_ : P_ := by (try simp only [List.map_toArray, List.map_cons, List.map_nil]); first | done | rfl | (simp only [List.length_drop, List.length_take]; rfl)) : P_ := h_
theorem z3_ {P_ : Prop} (h_ : P_ := by repeat (first | (with_reducible first | exact HB.out | apply below_alloc | apply pw_below_drewN | apply below_drew1) | exact HB.out)) : P_ := h_
theorem z4_ {P_ : Prop} (h_ : P_ := by first | rfl | (simp [nil_bne, nil_beq]; done) | (simp [errW_none, errW_some] <;> rfl) | (simp [*, errW_none, errW_some] <;> rfl)) : P_ := h_
theorem z5_ {P_ : Prop} (h_ : P_ := by first | rfl | (simp [nil_bne, nil_beq]; done) | (simp; done) | (simp only [← hji12] <;> (first | rfl | simp)) | (simp [*]; done)) : P_ := h_
theorem z6_ {P_ : Prop} (h_ : P_ := by (with_reducible repeat (first | refine blk_drewN ?_ _ | refine blk_drew ?_ | refine blk_alloc ?_ _)); exact BK118.out) : P_ := h_
theorem z7_ {P_ : Prop} (h_ : P_ := by (with_reducible repeat (first | refine blk_drewN ?_ _ | refine blk_drew ?_ | refine blk_alloc ?_ _)); exact BK168.out) : P_ := h_
theorem z8_ {P_ : Prop} (h_ : P_ := by (with_reducible repeat (first | apply Kd.R_alloc | apply Kd.R_drewN | apply Kd.R_drew)); exact HO103.out) : P_ := h_
theorem z9_ {P_ : Prop} (h_ : P_ := by (with_reducible repeat (first | apply Kd.R_alloc | apply Kd.R_drewN | apply Kd.R_drew)); exact HO146.out) : P_ := h_
theorem z10_ {P_ : Prop} (h_ : P_ := by (with_reducible repeat (first | apply Kd.V_alloc | apply Kd.V_drewN | apply Kd.V_drew)); exact HO155.out) : P_ := h_
theorem z11_ {P_ : Prop} (h_ : P_ := by (with_reducible repeat (first | apply Kd.R_alloc | apply Kd.R_drewN | apply Kd.R_drew)); exact HO_3.out) : P_ := h_
theorem z12_ {P_ : Prop} (h_ : P_ := by (with_reducible repeat (first | apply Kd.V_alloc | apply Kd.V_drewN | apply Kd.V_drew)); exact HO_3.out) : P_ := h_
theorem z13_ {P_ : Prop} (h_ : P_ := by (with_reducible repeat (first | apply Kd.R_alloc | apply Kd.R_drewN | apply Kd.R_drew)); exact HO_5.out) : P_ := h_
theorem z14_ {P_ : Prop} (h_ : P_ := by (with_reducible repeat (first | apply Kd.R_alloc | apply Kd.R_drewN | apply Kd.R_drew)); exact HO_4.out) : P_ := h_
theorem z15_ {P_ : Prop} (h_ : P_ := by first | rfl | (simp [nil_bne, nil_beq]; done) | (simp; done) | (simp [*]; done)) : P_ := h_
theorem z16_ {P_ : Prop} (h_ : P_ := by have := HJ2.out; have := HJ8.out; first | omega | exact Nat.le_refl _) : P_ := h_
theorem z17_ {P_ : Prop} (h_ : P_ := by repeat (first | exact Drawn0.refl _ | apply Drawn0.step)) : P_ := h_
theorem z18_ {P_ : Prop} (h_ : P_ := by have := HJ2.out; first | omega | exact Nat.le_refl _) : P_ := h_
theorem z19_ {P_ : Prop} (h_ : P_ := by first | (with_reducible assumption) | assumption) : P_ := h_
theorem z20_ {P_ : Prop} (h_ : P_ := by have := HJ1.out; have := HK2.out; omega) : P_ := h_
theorem z21_ {P_ : Prop} (h_ : P_ := by first | omega | exact Nat.le_refl _) : P_ := h_
theorem z22_ {P_ : Prop} (h_ : P_ := by have := HK1.out; omega) : P_ := h_
end Go.Proofs.YtindkgcbglonhaaDoor.Hand
