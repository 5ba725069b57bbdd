/- What each Go function here computes, and that its call computes it, over contracts proved by hand (written by this project's xprint.py, which drives the kit's print). -/
import Derived.Test.YtindkgcbglonhaaDoorZ
import Derived.Test.YtindkgcbglonhaaDoorK
import Derived.Test.YtindkgcbglonhaaDoorLib
import Derived.Test.YtindkgcbglonhaaDoorLow
import Derived.Test.YtindkgcbglonhaaDoorFA1
import Derived.Test.YtindkgcbglonhaaDoorFA2
namespace Go.Proofs.YtindkgcbglonhaaDoor.Hand
open Go.RowKit Go.Proofs.YtindkgcbglonhaaDoorW.PrintWords Go.Proofs.YtindkgcbglonhaaDoorW.PrintLast Go.Proofs.YtindkgcbglonhaaDoorW.PrintMore
attribute [local go_sem] max2_int min2_int max_two min_two max_three min_three max_four min_four   -- for this text's walks alone
set_option linter.unusedVariables false
set_option linter.unusedSimpArgs false

def pursuivantref08_Good.f (k : Nat) (a0_0 a0_1 : ByteArray) (a0_2 : Int) : Option (Bool) := (pursuivantref08_Nobody.f a0_0 a0_1 a0_2).bind fun t203 => (if t203 = true then (some true) else ((pursuivantref05_Default.f a0_0).bind fun t204 => (if t204 > 0 then ((pursuivantref05_Good.f k a0_1).bind fun t205 => (if t205 = true then (if a0_2 > 0 then (some (decide (a0_2 < 65536))) else (some false)) else (some false))) else (some false))))
set_option maxHeartbeats 8000000 in
set_option maxRecDepth 100000 in
theorem pursuivantref08_Good.calls (k : Nat) (a0_0 a0_1 : ByteArray) (a0_2 : Int) (r : Bool) (w : World) (hG_ : GW w) (h : pursuivantref08_Good.f k a0_0 a0_1 a0_2 = some r) :
  Calls Tryd.prog 49 #[.agg #[.string a0_0, .string a0_1, .int .i64 a0_2]] w fun e w' => e = .returned (.bool r) ∧ Below w.heap.size w w' := by
 have hu50 := Tryd.underlying50
 have HB := Aside0.mk (Below.refl w.heap.size w)
 have H : ((pursuivantref08_Nobody.f a0_0 a0_1 a0_2).bind fun t203 => (if t203 = true then (some true) else ((pursuivantref05_Default.f a0_0).bind fun t204 => (if t204 > 0 then ((pursuivantref05_Good.f k a0_1).bind fun t205 => (if t205 = true then (if a0_2 > 0 then (some (decide (a0_2 < 65536))) else (some false)) else (some false))) else (some false))))) = some r := h
 clear h
 replace H := Option.bind_eq_some_iff.mp H
 obtain ⟨t203, A20, H⟩ := H
 replace H : (if t203 = true then (some true) else ((pursuivantref05_Default.f a0_0).bind fun t204 => (if t204 > 0 then ((pursuivantref05_Good.f k a0_1).bind fun t205 => (if t205 = true then (if a0_2 > 0 then (some (decide (a0_2 < 65536))) else (some false)) else (some false))) else (some false)))) = some r := H
 have A2 := Aside0.mk A20; clear A20
 by_cases c3 : t203 = true
 ·subst c3
  have H1 : (some true) = some r := by rw [if_pos rfl] at H; exact H
  clear H
  have H := H1
  clear H1
  obtain rfl := Option.some.inj H
  go_enter Tryd.func49, Tryd.ntmps49
  go_wp2_with (first | ((with_reducible refine gate_dst (N := 1) rfl ?_); refine box_event ?hg (N := 1) ?hd (cs := #[.string a0_0, .string a0_1, .int .i64 a0_2]) (t := 50) ?hr ?_; (case hd => rfl); (case hg => rfl); (case hr => first | (go_simp; done) | (go_simp; rfl)); intro gb202 hg w4 hbox hb; have n0_ := Aside0.mk (below_step z39_ hb); have n1_ := Aside0.mk (hbox); have n2_ := Aside0.mk ((by rw [hg]; exact (below_size z39_) : w.heap.size ≤ gb202)); have n3_ := Aside0.mk ((by rw [hg]; exact (below_size z39_) : w.heap.size ≤ gb202)); clear HB; have HB := n0_; have BK202 := n1_; have GW202 := n2_; have GE202 := n3_; clear n0_ n1_ n2_ n3_; clear hb hbox hg; have hcz5_0 : w4.cell? ⟨gb202, 0, none⟩ = some (.string a0_0) := (blk_cell BK202.out 0).trans rfl; have hcz5_1 : w4.cell? ⟨gb202, 1, none⟩ = some (.string a0_1) := (blk_cell BK202.out 1).trans rfl; have hcz5_2 : w4.cell? ⟨gb202, 2, none⟩ = some (.int .i64 a0_2) := (blk_cell BK202.out 2).trans rfl; have hfz5_0 := blk_frozen BK202.out 0; have hfz5_1 := blk_frozen BK202.out 1; have hfz5_2 := blk_frozen BK202.out 2) | ((with_reducible refine gate_callee (f := 88) rfl ?_); refine goesL_ (some 4) rfl rfl Tryd.func88 (by kernel_rfl) rfl #[.agg #[.string a0_0, .string a0_1, .int .i64 a0_2]] rfl z38_ ?_; (with_reducible refine (pursuivantref08_Nobody.calls a0_0 a0_1 a0_2 true _ ?gw86_ A2.out).mono ?_); (case gw86_ => first | exact hG_ | (refine GW.below hG_ ?_; first | (with_reducible exact HB.out) | (repeat (first | (with_reducible first | exact HB.out | apply below_alloc | apply pw_below_drewN | apply below_drew1 | apply below_drew | exact Below.refl _ _) | exact HB.out))) | (apply GW.drewN; exact hG_) | (apply GW.drew; exact hG_)); rintro e w6 ⟨rfl, hb⟩; refine ⟨_, rfl, ?_⟩; have n0_ := Aside0.mk (blk_below (g := gb202) (o := .cells #[.string a0_0, .string a0_1, .int .i64 a0_2] 50 (0, 0)) z42_ hb); have n1_ := Aside0.mk (below_step z24_ hb); clear BK202; clear HB; have BK202 := n0_; have HB := n1_; clear n0_ n1_; (try clear hb); (try clear hb2); (try clear hk); (try clear hi)))
  go_ret
  exact ⟨z40_, z24_⟩
 ·replace c3 := Bool.eq_false_iff.mpr c3
  subst c3
  have H1 : ((pursuivantref05_Default.f a0_0).bind fun t204 => (if t204 > 0 then ((pursuivantref05_Good.f k a0_1).bind fun t205 => (if t205 = true then (if a0_2 > 0 then (some (decide (a0_2 < 65536))) else (some false)) else (some false))) else (some false))) = some r := by rw [if_neg (show ¬ (false = true) by decide)] at H; exact H
  clear H
  have H := H1
  clear H1
  replace H := Option.bind_eq_some_iff.mp H
  obtain ⟨t204, A70, H⟩ := H
  replace H : (if t204 > 0 then ((pursuivantref05_Good.f k a0_1).bind fun t205 => (if t205 = true then (if a0_2 > 0 then (some (decide (a0_2 < 65536))) else (some false)) else (some false))) else (some false)) = some r := H
  have A7 := Aside0.mk A70; clear A70
  by_cases c8 : t204 > 0
  ·rw [if_pos c8] at H
   have c8b0 : decide (0 < t204) = true := decide_eq_true c8; clear c8
   replace H := Option.bind_eq_some_iff.mp H
   obtain ⟨t205, A90, H⟩ := H
   replace H : (if t205 = true then (if a0_2 > 0 then (some (decide (a0_2 < 65536))) else (some false)) else (some false)) = some r := H
   have A9 := Aside0.mk A90; clear A90
   by_cases c10 : t205 = true
   ·subst c10
    have H1 : (if a0_2 > 0 then (some (decide (a0_2 < 65536))) else (some false)) = some r := by rw [if_pos rfl] at H; exact H
    clear H
    have H := H1
    clear H1
    by_cases c11 : a0_2 > 0
    ·rw [if_pos c11] at H
     have c11b0 : decide (0 < a0_2) = true := decide_eq_true c11; clear c11
     obtain rfl := Option.some.inj H
     go_enter Tryd.func49, Tryd.ntmps49
     go_wp2_with (first | ((with_reducible refine gate_dst (N := 1) rfl ?_); refine box_event ?hg (N := 1) ?hd (cs := #[.string a0_0, .string a0_1, .int .i64 a0_2]) (t := 50) ?hr ?_; (case hd => rfl); (case hg => rfl); (case hr => first | (go_simp; done) | (go_simp; rfl)); intro gb202 hg w12 hbox hb; have n0_ := Aside0.mk (below_step z39_ hb); have n1_ := Aside0.mk (hbox); have n2_ := Aside0.mk ((by rw [hg]; exact (below_size z39_) : w.heap.size ≤ gb202)); have n3_ := Aside0.mk ((by rw [hg]; exact (below_size z39_) : w.heap.size ≤ gb202)); clear HB; have HB := n0_; have BK202 := n1_; have GW202 := n2_; have GE202 := n3_; clear n0_ n1_ n2_ n3_; clear hb hbox hg; have hcz13_0 : w12.cell? ⟨gb202, 0, none⟩ = some (.string a0_0) := (blk_cell BK202.out 0).trans rfl; have hcz13_1 : w12.cell? ⟨gb202, 1, none⟩ = some (.string a0_1) := (blk_cell BK202.out 1).trans rfl; have hcz13_2 : w12.cell? ⟨gb202, 2, none⟩ = some (.int .i64 a0_2) := (blk_cell BK202.out 2).trans rfl; have hfz13_0 := blk_frozen BK202.out 0; have hfz13_1 := blk_frozen BK202.out 1; have hfz13_2 := blk_frozen BK202.out 2) | ((with_reducible refine gate_callee (f := 88) rfl ?_); refine goesL_ (some 4) rfl rfl Tryd.func88 (by kernel_rfl) rfl #[.agg #[.string a0_0, .string a0_1, .int .i64 a0_2]] rfl z38_ ?_; (with_reducible refine (pursuivantref08_Nobody.calls a0_0 a0_1 a0_2 false _ ?gw87_ A2.out).mono ?_); (case gw87_ => first | exact hG_ | (refine GW.below hG_ ?_; first | (with_reducible exact HB.out) | (repeat (first | (with_reducible first | exact HB.out | apply below_alloc | apply pw_below_drewN | apply below_drew1 | apply below_drew | exact Below.refl _ _) | exact HB.out))) | (apply GW.drewN; exact hG_) | (apply GW.drew; exact hG_)); rintro e w14 ⟨rfl, hb⟩; refine ⟨_, rfl, ?_⟩; have n0_ := Aside0.mk (blk_below (g := gb202) (o := .cells #[.string a0_0, .string a0_1, .int .i64 a0_2] 50 (0, 0)) z42_ hb); have n1_ := Aside0.mk (below_step z24_ hb); clear BK202; clear HB; have BK202 := n0_; have HB := n1_; clear n0_ n1_; (try clear hb); (try clear hb2); (try clear hk); (try clear hi); have hcz15_0 : w14.cell? ⟨gb202, 0, none⟩ = some (.string a0_0) := (blk_cell BK202.out 0).trans rfl; have hcz15_1 : w14.cell? ⟨gb202, 1, none⟩ = some (.string a0_1) := (blk_cell BK202.out 1).trans rfl; have hcz15_2 : w14.cell? ⟨gb202, 2, none⟩ = some (.int .i64 a0_2) := (blk_cell BK202.out 2).trans rfl; have hfz15_0 := blk_frozen BK202.out 0; have hfz15_1 := blk_frozen BK202.out 1; have hfz15_2 := blk_frozen BK202.out 2) | (go_at_call 23; (fail_if_success (have z_ := U_22)); have U_22 := trivial; (with_reducible refine (pursuivantref05_Default.calls a0_0 t204 _ ?gw88_ A7.out).mono ?_); (case gw88_ => first | exact hG_ | (refine GW.below hG_ ?_; first | (with_reducible exact HB.out) | (repeat (first | (with_reducible first | exact HB.out | apply below_alloc | apply pw_below_drewN | apply below_drew1 | apply below_drew | exact Below.refl _ _) | exact HB.out))) | (apply GW.drewN; exact hG_) | (apply GW.drew; exact hG_)); rintro e w' ⟨rfl, ⟨nd, rfl⟩⟩) | (go_at_call 17; (fail_if_success (have z_ := U_23)); have U_23 := trivial; (with_reducible refine (pursuivantref05_Good.calls k a0_1 true _ ?gw89_ A9.out).mono ?_); (case gw89_ => first | exact hG_ | (refine GW.below hG_ ?_; first | (with_reducible exact HB.out) | (repeat (first | (with_reducible first | exact HB.out | apply below_alloc | apply pw_below_drewN | apply below_drew1 | apply below_drew | exact Below.refl _ _) | exact HB.out))) | (apply GW.drewN; exact hG_) | (apply GW.drew; exact hG_)); rintro e w' ⟨rfl, ⟨nd, rfl⟩⟩))
     go_ret
     exact ⟨z40_, z24_⟩
    ·rw [if_neg c11] at H
     have c11b0 : decide (0 < a0_2) = false := decide_eq_false c11; clear c11
     obtain rfl := Option.some.inj H
     go_enter Tryd.func49, Tryd.ntmps49
     go_wp2_with (first | ((with_reducible refine gate_dst (N := 1) rfl ?_); refine box_event ?hg (N := 1) ?hd (cs := #[.string a0_0, .string a0_1, .int .i64 a0_2]) (t := 50) ?hr ?_; (case hd => rfl); (case hg => rfl); (case hr => first | (go_simp; done) | (go_simp; rfl)); intro gb202 hg w16 hbox hb; have n0_ := Aside0.mk (below_step z39_ hb); have n1_ := Aside0.mk (hbox); have n2_ := Aside0.mk ((by rw [hg]; exact (below_size z39_) : w.heap.size ≤ gb202)); have n3_ := Aside0.mk ((by rw [hg]; exact (below_size z39_) : w.heap.size ≤ gb202)); clear HB; have HB := n0_; have BK202 := n1_; have GW202 := n2_; have GE202 := n3_; clear n0_ n1_ n2_ n3_; clear hb hbox hg; have hcz17_0 : w16.cell? ⟨gb202, 0, none⟩ = some (.string a0_0) := (blk_cell BK202.out 0).trans rfl; have hcz17_1 : w16.cell? ⟨gb202, 1, none⟩ = some (.string a0_1) := (blk_cell BK202.out 1).trans rfl; have hcz17_2 : w16.cell? ⟨gb202, 2, none⟩ = some (.int .i64 a0_2) := (blk_cell BK202.out 2).trans rfl; have hfz17_0 := blk_frozen BK202.out 0; have hfz17_1 := blk_frozen BK202.out 1; have hfz17_2 := blk_frozen BK202.out 2) | ((with_reducible refine gate_callee (f := 88) rfl ?_); refine goesL_ (some 4) rfl rfl Tryd.func88 (by kernel_rfl) rfl #[.agg #[.string a0_0, .string a0_1, .int .i64 a0_2]] rfl z38_ ?_; (with_reducible refine (pursuivantref08_Nobody.calls a0_0 a0_1 a0_2 false _ ?gw90_ A2.out).mono ?_); (case gw90_ => first | exact hG_ | (refine GW.below hG_ ?_; first | (with_reducible exact HB.out) | (repeat (first | (with_reducible first | exact HB.out | apply below_alloc | apply pw_below_drewN | apply below_drew1 | apply below_drew | exact Below.refl _ _) | exact HB.out))) | (apply GW.drewN; exact hG_) | (apply GW.drew; exact hG_)); rintro e w18 ⟨rfl, hb⟩; refine ⟨_, rfl, ?_⟩; have n0_ := Aside0.mk (blk_below (g := gb202) (o := .cells #[.string a0_0, .string a0_1, .int .i64 a0_2] 50 (0, 0)) z42_ hb); have n1_ := Aside0.mk (below_step z24_ hb); clear BK202; clear HB; have BK202 := n0_; have HB := n1_; clear n0_ n1_; (try clear hb); (try clear hb2); (try clear hk); (try clear hi); have hcz19_0 : w18.cell? ⟨gb202, 0, none⟩ = some (.string a0_0) := (blk_cell BK202.out 0).trans rfl; have hcz19_1 : w18.cell? ⟨gb202, 1, none⟩ = some (.string a0_1) := (blk_cell BK202.out 1).trans rfl; have hcz19_2 : w18.cell? ⟨gb202, 2, none⟩ = some (.int .i64 a0_2) := (blk_cell BK202.out 2).trans rfl; have hfz19_0 := blk_frozen BK202.out 0; have hfz19_1 := blk_frozen BK202.out 1; have hfz19_2 := blk_frozen BK202.out 2) | (go_at_call 23; (fail_if_success (have z_ := U_24)); have U_24 := trivial; (with_reducible refine (pursuivantref05_Default.calls a0_0 t204 _ ?gw91_ A7.out).mono ?_); (case gw91_ => first | exact hG_ | (refine GW.below hG_ ?_; first | (with_reducible exact HB.out) | (repeat (first | (with_reducible first | exact HB.out | apply below_alloc | apply pw_below_drewN | apply below_drew1 | apply below_drew | exact Below.refl _ _) | exact HB.out))) | (apply GW.drewN; exact hG_) | (apply GW.drew; exact hG_)); rintro e w' ⟨rfl, ⟨nd, rfl⟩⟩) | (go_at_call 17; (fail_if_success (have z_ := U_25)); have U_25 := trivial; (with_reducible refine (pursuivantref05_Good.calls k a0_1 true _ ?gw92_ A9.out).mono ?_); (case gw92_ => first | exact hG_ | (refine GW.below hG_ ?_; first | (with_reducible exact HB.out) | (repeat (first | (with_reducible first | exact HB.out | apply below_alloc | apply pw_below_drewN | apply below_drew1 | apply below_drew | exact Below.refl _ _) | exact HB.out))) | (apply GW.drewN; exact hG_) | (apply GW.drew; exact hG_)); rintro e w' ⟨rfl, ⟨nd, rfl⟩⟩))
     go_ret
     exact ⟨z40_, z24_⟩
   ·replace c10 := Bool.eq_false_iff.mpr c10
    subst c10
    have H1 : (some false) = some r := by rw [if_neg (show ¬ (false = true) by decide)] at H; exact H
    clear H
    have H := H1
    clear H1
    obtain rfl := Option.some.inj H
    go_enter Tryd.func49, Tryd.ntmps49
    go_wp2_with (first | ((with_reducible refine gate_dst (N := 1) rfl ?_); refine box_event ?hg (N := 1) ?hd (cs := #[.string a0_0, .string a0_1, .int .i64 a0_2]) (t := 50) ?hr ?_; (case hd => rfl); (case hg => rfl); (case hr => first | (go_simp; done) | (go_simp; rfl)); intro gb202 hg w20 hbox hb; have n0_ := Aside0.mk (below_step z39_ hb); have n1_ := Aside0.mk (hbox); have n2_ := Aside0.mk ((by rw [hg]; exact (below_size z39_) : w.heap.size ≤ gb202)); have n3_ := Aside0.mk ((by rw [hg]; exact (below_size z39_) : w.heap.size ≤ gb202)); clear HB; have HB := n0_; have BK202 := n1_; have GW202 := n2_; have GE202 := n3_; clear n0_ n1_ n2_ n3_; clear hb hbox hg; have hcz21_0 : w20.cell? ⟨gb202, 0, none⟩ = some (.string a0_0) := (blk_cell BK202.out 0).trans rfl; have hcz21_1 : w20.cell? ⟨gb202, 1, none⟩ = some (.string a0_1) := (blk_cell BK202.out 1).trans rfl; have hcz21_2 : w20.cell? ⟨gb202, 2, none⟩ = some (.int .i64 a0_2) := (blk_cell BK202.out 2).trans rfl; have hfz21_0 := blk_frozen BK202.out 0; have hfz21_1 := blk_frozen BK202.out 1; have hfz21_2 := blk_frozen BK202.out 2) | ((with_reducible refine gate_callee (f := 88) rfl ?_); refine goesL_ (some 4) rfl rfl Tryd.func88 (by kernel_rfl) rfl #[.agg #[.string a0_0, .string a0_1, .int .i64 a0_2]] rfl z38_ ?_; (with_reducible refine (pursuivantref08_Nobody.calls a0_0 a0_1 a0_2 false _ ?gw93_ A2.out).mono ?_); (case gw93_ => first | exact hG_ | (refine GW.below hG_ ?_; first | (with_reducible exact HB.out) | (repeat (first | (with_reducible first | exact HB.out | apply below_alloc | apply pw_below_drewN | apply below_drew1 | apply below_drew | exact Below.refl _ _) | exact HB.out))) | (apply GW.drewN; exact hG_) | (apply GW.drew; exact hG_)); rintro e w22 ⟨rfl, hb⟩; refine ⟨_, rfl, ?_⟩; have n0_ := Aside0.mk (blk_below (g := gb202) (o := .cells #[.string a0_0, .string a0_1, .int .i64 a0_2] 50 (0, 0)) z42_ hb); have n1_ := Aside0.mk (below_step z24_ hb); clear BK202; clear HB; have BK202 := n0_; have HB := n1_; clear n0_ n1_; (try clear hb); (try clear hb2); (try clear hk); (try clear hi); have hcz23_0 : w22.cell? ⟨gb202, 0, none⟩ = some (.string a0_0) := (blk_cell BK202.out 0).trans rfl; have hcz23_1 : w22.cell? ⟨gb202, 1, none⟩ = some (.string a0_1) := (blk_cell BK202.out 1).trans rfl; have hcz23_2 : w22.cell? ⟨gb202, 2, none⟩ = some (.int .i64 a0_2) := (blk_cell BK202.out 2).trans rfl; have hfz23_0 := blk_frozen BK202.out 0; have hfz23_1 := blk_frozen BK202.out 1; have hfz23_2 := blk_frozen BK202.out 2) | (go_at_call 23; (fail_if_success (have z_ := U_26)); have U_26 := trivial; (with_reducible refine (pursuivantref05_Default.calls a0_0 t204 _ ?gw94_ A7.out).mono ?_); (case gw94_ => first | exact hG_ | (refine GW.below hG_ ?_; first | (with_reducible exact HB.out) | (repeat (first | (with_reducible first | exact HB.out | apply below_alloc | apply pw_below_drewN | apply below_drew1 | apply below_drew | exact Below.refl _ _) | exact HB.out))) | (apply GW.drewN; exact hG_) | (apply GW.drew; exact hG_)); rintro e w' ⟨rfl, ⟨nd, rfl⟩⟩) | (go_at_call 17; (fail_if_success (have z_ := U_27)); have U_27 := trivial; (with_reducible refine (pursuivantref05_Good.calls k a0_1 false _ ?gw95_ A9.out).mono ?_); (case gw95_ => first | exact hG_ | (refine GW.below hG_ ?_; first | (with_reducible exact HB.out) | (repeat (first | (with_reducible first | exact HB.out | apply below_alloc | apply pw_below_drewN | apply below_drew1 | apply below_drew | exact Below.refl _ _) | exact HB.out))) | (apply GW.drewN; exact hG_) | (apply GW.drew; exact hG_)); rintro e w' ⟨rfl, ⟨nd, rfl⟩⟩))
    go_ret
    exact ⟨z40_, z24_⟩
  ·rw [if_neg c8] at H
   have c8b0 : decide (0 < t204) = false := decide_eq_false c8; clear c8
   obtain rfl := Option.some.inj H
   go_enter Tryd.func49, Tryd.ntmps49
   go_wp2_with (first | ((with_reducible refine gate_dst (N := 1) rfl ?_); refine box_event ?hg (N := 1) ?hd (cs := #[.string a0_0, .string a0_1, .int .i64 a0_2]) (t := 50) ?hr ?_; (case hd => rfl); (case hg => rfl); (case hr => first | (go_simp; done) | (go_simp; rfl)); intro gb202 hg w24 hbox hb; have n0_ := Aside0.mk (below_step z39_ hb); have n1_ := Aside0.mk (hbox); have n2_ := Aside0.mk ((by rw [hg]; exact (below_size z39_) : w.heap.size ≤ gb202)); have n3_ := Aside0.mk ((by rw [hg]; exact (below_size z39_) : w.heap.size ≤ gb202)); clear HB; have HB := n0_; have BK202 := n1_; have GW202 := n2_; have GE202 := n3_; clear n0_ n1_ n2_ n3_; clear hb hbox hg; have hcz25_0 : w24.cell? ⟨gb202, 0, none⟩ = some (.string a0_0) := (blk_cell BK202.out 0).trans rfl; have hcz25_1 : w24.cell? ⟨gb202, 1, none⟩ = some (.string a0_1) := (blk_cell BK202.out 1).trans rfl; have hcz25_2 : w24.cell? ⟨gb202, 2, none⟩ = some (.int .i64 a0_2) := (blk_cell BK202.out 2).trans rfl; have hfz25_0 := blk_frozen BK202.out 0; have hfz25_1 := blk_frozen BK202.out 1; have hfz25_2 := blk_frozen BK202.out 2) | ((with_reducible refine gate_callee (f := 88) rfl ?_); refine goesL_ (some 4) rfl rfl Tryd.func88 (by kernel_rfl) rfl #[.agg #[.string a0_0, .string a0_1, .int .i64 a0_2]] rfl z38_ ?_; (with_reducible refine (pursuivantref08_Nobody.calls a0_0 a0_1 a0_2 false _ ?gw96_ A2.out).mono ?_); (case gw96_ => first | exact hG_ | (refine GW.below hG_ ?_; first | (with_reducible exact HB.out) | (repeat (first | (with_reducible first | exact HB.out | apply below_alloc | apply pw_below_drewN | apply below_drew1 | apply below_drew | exact Below.refl _ _) | exact HB.out))) | (apply GW.drewN; exact hG_) | (apply GW.drew; exact hG_)); rintro e w26 ⟨rfl, hb⟩; refine ⟨_, rfl, ?_⟩; have n0_ := Aside0.mk (blk_below (g := gb202) (o := .cells #[.string a0_0, .string a0_1, .int .i64 a0_2] 50 (0, 0)) z42_ hb); have n1_ := Aside0.mk (below_step z24_ hb); clear BK202; clear HB; have BK202 := n0_; have HB := n1_; clear n0_ n1_; (try clear hb); (try clear hb2); (try clear hk); (try clear hi); have hcz27_0 : w26.cell? ⟨gb202, 0, none⟩ = some (.string a0_0) := (blk_cell BK202.out 0).trans rfl; have hcz27_1 : w26.cell? ⟨gb202, 1, none⟩ = some (.string a0_1) := (blk_cell BK202.out 1).trans rfl; have hcz27_2 : w26.cell? ⟨gb202, 2, none⟩ = some (.int .i64 a0_2) := (blk_cell BK202.out 2).trans rfl; have hfz27_0 := blk_frozen BK202.out 0; have hfz27_1 := blk_frozen BK202.out 1; have hfz27_2 := blk_frozen BK202.out 2) | (go_at_call 23; (fail_if_success (have z_ := U_28)); have U_28 := trivial; (with_reducible refine (pursuivantref05_Default.calls a0_0 t204 _ ?gw97_ A7.out).mono ?_); (case gw97_ => first | exact hG_ | (refine GW.below hG_ ?_; first | (with_reducible exact HB.out) | (repeat (first | (with_reducible first | exact HB.out | apply below_alloc | apply pw_below_drewN | apply below_drew1 | apply below_drew | exact Below.refl _ _) | exact HB.out))) | (apply GW.drewN; exact hG_) | (apply GW.drew; exact hG_)); rintro e w' ⟨rfl, ⟨nd, rfl⟩⟩))
   go_ret
   exact ⟨z40_, z24_⟩

def pursuivantref06_Digits.f : Nat → Int → Option (ByteArray)
 | 0, _ => none
 | k + 1, a0 => if a0 < 10 then (some (strOfNums (([(wrap64 (48 + a0)) % 256] : List Int)))) else ((pursuivantref06_Digits.f k (wrap64 (Int.tdiv a0 10))).bind fun t213 => ((some (([(wrap64 (48 + (Int.tmod a0 10))) % 256] : List Int) : List Int)).bind fun y214 => (if t213.size + (strOfNums y214).size ≤ 9223372036854775807 then (some (t213 ++ (strOfNums y214))) else (none))))
def pursuivantref06_Digits.T3 : Bool × List (List Nat × List Nat) := (true, [([], []), ([0], [0]), ([1], [1]), ([], []), ([3], [3]), ([4], [4]), ([5], [5]), ([6], [6]), ([7], [7]), ([2, 8], [2, 8]), ([9, 2, 0, 1, 2, 3, 4, 5, 6, 7, 8, 9], [9])])
def pursuivantref06_Digits.B3 : List Nat := [0, 1, 3, 0, 8, 24, 56, 120, 248, 511, 1023]
theorem pursuivantref06_Digits.tab3 : rtab .any (opsOf Tryd.f90 3) = pursuivantref06_Digits.T3 := by kernel_rfl
theorem pursuivantref06_Digits.bits3 : waitsOk pursuivantref06_Digits.T3.2 pursuivantref06_Digits.B3 = true := by kernel_rfl
set_option maxHeartbeats 8000000 in
set_option maxRecDepth 100000 in
theorem pursuivantref06_Digits.calls (k : Nat) : ∀ (a0 : Int) (r : ByteArray) (w : World) (hG_ : GW w) (h : pursuivantref06_Digits.f k a0 = some r),
  Calls Tryd.prog 90 #[.int .i64 a0] w fun e w' => e = .returned (.string r) ∧ Below w.heap.size w w' := by
 induction k using Nat.strongRecOn with
 | _ k ih =>
 intro a0 r w hG_ h
 cases k with
 | zero => exact absurd h (by simp [pursuivantref06_Digits.f])
 | succ k =>
 simp only [pursuivantref06_Digits.f] at h
 have HB := Aside0.mk (Below.refl w.heap.size w)
 have H : (if a0 < 10 then (some (strOfNums (([(wrap64 (48 + a0)) % 256] : List Int)))) else ((pursuivantref06_Digits.f k (wrap64 (Int.tdiv a0 10))).bind fun t213 => ((some (([(wrap64 (48 + (Int.tmod a0 10))) % 256] : List Int) : List Int)).bind fun y214 => (if t213.size + (strOfNums y214).size ≤ 9223372036854775807 then (some (t213 ++ (strOfNums y214))) else (none))))) = some r := h
 clear h
 by_cases c2 : a0 < 10
 ·rw [if_pos c2] at H
  have c2b0 : decide (a0 < 10) = true := decide_eq_true c2; clear c2
  obtain ⟨y210, hy210⟩ : ∃ y_ : List Int, y_ = (([(wrap64 (48 + a0)) % 256] : List Int)) := ⟨_, rfl⟩
  replace H : (some (strOfNums y210)) = some r := by first | (rw [hy210]; with_reducible exact H) | (have H2_ := (Option.bind_some _ _).symm.trans H; rw [hy210]; with_reducible exact H2_) | (have H2_ := (Option.bind_some _ _).symm.trans H; with_reducible exact H2_) | with_reducible exact H | (rw [hy210]; exact H) | exact H
  have Ny210 := Aside0.mk hy210; clear hy210
  obtain rfl := Option.some.inj H
  go_enter Tryd.func90, Tryd.ntmps90
  go_wp2_with (first | ((with_reducible refine gate_dst (N := 8) rfl ?_); refine Kd.R_lit (Kd.int .u8) _ 5 ?hg (N := 8) ?hd (xs := ([(wrap64 (48 + a0)) % 256] : List Int)) (inner := [.int .u8 ((wrap64 (48 + a0)) % 256)]) (ok := fun _ => True) (okp := fun _ => True) ?hr ?hp (fun _ hk => hk) trivial (Below.refl _ _) (Nat.le_refl _) (by simp) ?_; (case hd => rfl); (case hg => rfl); (case hr => first | (go_simp; done) | (go_simp; rfl)); (case hp => exact (Reps.one (show Kd.M (Kd.int .u8) _ _ _ ((wrap64 (48 + a0)) % 256) [.int .u8 ((wrap64 (48 + a0)) % 256)] from rfl) (Reps.none _ _))); intro v211 w3 ho4 hb hg_ hnew_; clear hg_ hnew_; (first | rw [← Ny210.out] at ho4 | (simp only [Int.reduceToNat] at ho4; rw [← Ny210.out] at ho4)); have n0_ := Aside0.mk (Kd.R_lower ho4 (below_size z39_)); have n1_ := Aside0.mk (below_step z39_ hb); clear HB; have HO212 := n0_; have HB := n1_; clear n0_ n1_; clear hb ho4; have hcv5 := own_string (P := Tryd.prog) Tryd.underlying84 Tryd.underlying5 Tryd.underlying9 (Kd.own_of_R HO212.out)))
  go_ret
  exact ⟨z40_, z39_⟩
 ·rw [if_neg c2] at H
  have c2b0 : decide (a0 < 10) = false := decide_eq_false c2; clear c2
  replace H := Option.bind_eq_some_iff.mp H
  obtain ⟨t213, A60, H⟩ := H
  replace H : ((some (([(wrap64 (48 + (Int.tmod a0 10))) % 256] : List Int) : List Int)).bind fun y214 => (if t213.size + (strOfNums y214).size ≤ 9223372036854775807 then (some (t213 ++ (strOfNums y214))) else (none))) = some r := H
  have A6 := Aside0.mk A60; clear A60
  obtain ⟨y214, hy214⟩ : ∃ y_ : List Int, y_ = (([(wrap64 (48 + (Int.tmod a0 10))) % 256] : List Int)) := ⟨_, rfl⟩
  replace H : (if t213.size + (strOfNums y214).size ≤ 9223372036854775807 then (some (t213 ++ (strOfNums y214))) else (none)) = some r := by first | (rw [hy214]; with_reducible exact H) | (have H2_ := (Option.bind_some _ _).symm.trans H; rw [hy214]; with_reducible exact H2_) | (have H2_ := (Option.bind_some _ _).symm.trans H; with_reducible exact H2_) | with_reducible exact H | (rw [hy214]; exact H) | exact H
  have Ny214 := Aside0.mk hy214; clear hy214
  by_cases c7 : t213.size + (strOfNums y214).size ≤ 9223372036854775807
  ·rw [if_pos c7] at H
   have c7b0 := eq_true c7; have c7b1 : decide (t213.size + (strOfNums y214).size ≤ 9223372036854775807) = true := decide_eq_true c7
   try have c7b2 : (9223372036854775807 < t213.size + (strOfNums y214).size) = False := eq_false (Nat.not_lt.2 c7)
   obtain rfl := Option.some.inj H
   go_enter Tryd.func90, Tryd.ntmps90
   try go_wp2
   have n0_ := Aside0.mk (below_drew1 HB.out)
   clear HB
   have HB := n0_
   clear n0_
   refine start_ (n := 11) (S := fun w' => True) (ds := []) #[false, false, false, false, false, false, false, false, false, false, false] (by kernel_rfl) rfl rfl trivial (fun hHeld => ?_); refine with_tabW pursuivantref06_Digits.tab3 pursuivantref06_Digits.bits3 (fun HT_ HW_ => ?_)
   generalize w.drew = w8 at HB hHeld ⊢
   refine pure_ (i := 0) (N := some 10) (v := ?_) (a' := ?_) #[true, false, false, false, false, false, false, false, false, false, false] rfl rfl (any_of HT_.out (by kernel_rfl)) (fun _ _ _ h => h) (Or.inl ⟨by rfl, ?_⟩) ?_ ?_
   rotate_left
   ·intro w'
    go_simp
    with_reducible rfl
   rotate_left
   ·simp only [Act.put, List.setIfInBounds_toArray, List.set_cons_zero, List.set_cons_succ, i64_w, i32_w]
    rfl
   refine pure_ (i := 1) (N := some 11) (v := ?_) (a' := ?_) #[true, true, false, false, false, false, false, false, false, false, false] rfl rfl (any_of HT_.out (by kernel_rfl)) (fun _ _ _ h => h) (Or.inl ⟨by rfl, ?_⟩) ?_ ?_
   rotate_left
   ·intro w'
    go_simp
    with_reducible rfl
   rotate_left
   ·simp only [Act.put, List.setIfInBounds_toArray, List.set_cons_zero, List.set_cons_succ, i64_w, i32_w]
    rfl
   refine pure_ (i := 3) (N := some 13) (v := ?_) (a' := ?_) #[true, true, false, true, false, false, false, false, false, false, false] rfl rfl (any_of HT_.out (by kernel_rfl)) (fun _ _ _ h => h) (Or.inl ⟨by rfl, ?_⟩) ?_ ?_
   rotate_left
   ·intro w'
    go_simp
    with_reducible rfl
   rotate_left
   ·simp only [Act.put, List.setIfInBounds_toArray, List.set_cons_zero, List.set_cons_succ, i64_w, i32_w]
    rfl
   refine pure_ (i := 4) (N := some 14) (v := ?_) (a' := ?_) #[true, true, false, true, true, false, false, false, false, false, false] rfl rfl (any_of HT_.out (by kernel_rfl)) (fun _ _ _ h => h) (Or.inl ⟨by rfl, ?_⟩) ?_ ?_
   rotate_left
   ·intro w'
    go_simp
    with_reducible rfl
   rotate_left
   ·simp only [Act.put, List.setIfInBounds_toArray, List.set_cons_zero, List.set_cons_succ, i64_w, i32_w]
    rfl
   refine pure_ (i := 5) (N := some 15) (v := ?_) (a' := ?_) #[true, true, false, true, true, true, false, false, false, false, false] rfl rfl (any_of HT_.out (by kernel_rfl)) (fun _ _ _ h => h) (Or.inl ⟨by rfl, ?_⟩) ?_ ?_
   rotate_left
   ·intro w'
    go_simp
    with_reducible rfl
   rotate_left
   ·simp only [Act.put, List.setIfInBounds_toArray, List.set_cons_zero, List.set_cons_succ, i64_w, i32_w]
    rfl
   refine pure_ (i := 6) (N := some 16) (v := ?_) (a' := ?_) #[true, true, false, true, true, true, true, false, false, false, false] rfl rfl (any_of HT_.out (by kernel_rfl)) (fun _ _ _ h => h) (Or.inl ⟨by rfl, ?_⟩) ?_ ?_
   rotate_left
   ·intro w'
    go_simp
    with_reducible rfl
   rotate_left
   ·simp only [Act.put, List.setIfInBounds_toArray, List.set_cons_zero, List.set_cons_succ, i64_w, i32_w]
    rfl
   refine join_ (σ := Value) 2 #[true, true, true, true, true, true, true, true, true, false, false] (fun s_ => [(12, .string t213), (17, s_), (18, .string (strOfNums y214))]) (fun s_ w' => (Kd.R (Kd.int .u8) 5 w' w.heap.size (fun _ => True) s_ y214) ∧ (Below w.heap.size w w')) ?_ ?_
   rotate_left
   ·intro hCont
    refine two_ (i := 2) (j := 7) (Ni := some 12) (Nj := some 17) #[true, true, true, true, true, true, true, false, false, false, false] #[true, true, false, true, true, true, true, true, false, false, false] rfl rfl rfl rfl (two_of HT_.out (by kernel_rfl)) (by decide) (by decide) (fun K hK => ?_) (fun K hK => ?_)
    ·skip
     refine goes_ Tryd.func90 (by kernel_rfl) rfl #[.int .i64 (wrap64 (Int.tdiv a0 10))] (by rfl) rfl rfl z38_ ?_
     with_reducible refine (ih k (by omega) (wrap64 (Int.tdiv a0 10)) t213 _ ?gw140_ A6.out).mono ?_
     case gw140_ => first | exact hG_ | (refine GW.below hG_ ?_; first | (with_reducible exact HB.out) | (repeat (first | (with_reducible first | exact HB.out | apply below_alloc | apply pw_below_drewN | apply below_drew1 | apply below_drew | exact Below.refl _ _) | exact HB.out))) | (apply GW.drewN; exact hG_) | (apply GW.drew; exact hG_)
     rintro e w9 ⟨rfl, hb⟩
     refine ⟨_, rfl, ?_⟩
     have n0_ := Aside0.mk (below_step z39_ hb)
     clear HB
     have HB := n0_
     clear n0_
     (try clear hb)
     (try clear hb2)
     (try clear hk)
     (try clear hi)
     refine hK.out _ _ trivial (fun hHeld => ?_)
     clear hK K
     refine norm_ (a' := ?_) ?_ ?_
     rotate_left
     ·show Act.put _ (some 12) _ = _
      simp only [Act.put, List.setIfInBounds_toArray, List.set_cons_zero, List.set_cons_succ, i64_w, i32_w]
      rfl
     refine one_ (i := 7) (N := some 17) #[true, true, true, true, true, true, true, true, false, false, false] rfl rfl (one_of HT_.out (by kernel_rfl)) (by decide) (fun K hK => ?_)
     refine Kd.R_lit_step (Kd.int .u8) _ 5 ?hg (N := 17) ?hd (xs := ([(wrap64 (48 + (Int.tmod a0 10))) % 256] : List Int)) (inner := [.int .u8 ((wrap64 (48 + (Int.tmod a0 10))) % 256)]) (ok := fun _ => True) (okp := fun _ => True) ?hr ?hp (fun _ hk => hk) trivial (Below.refl _ _) (Nat.le_refl _) (by simp) ?_; (case hd => rfl); (case hg => rfl); (case hr => first | (go_simp; done) | (go_simp; rfl)); (case hp => exact (Reps.one (show Kd.M (Kd.int .u8) _ _ _ ((wrap64 (48 + (Int.tmod a0 10))) % 256) [.int .u8 ((wrap64 (48 + (Int.tmod a0 10))) % 256)] from rfl) (Reps.none _ _)))
     intro v215 w10 ho11 hb hg_ hnew_
     clear hg_ hnew_
     (first | rw [← Ny214.out] at ho11 | (simp only [Int.reduceToNat] at ho11; rw [← Ny214.out] at ho11))
     have n0_ := Aside0.mk (Kd.R_lower ho11 (below_size z39_))
     have n1_ := Aside0.mk (below_step z39_ hb)
     clear HB
     have HO216 := n0_
     have HB := n1_
     clear n0_ n1_; clear hb ho11
     refine hK.out _ _ trivial (fun hHeld => ?_)
     clear hK K
     refine norm_ (a' := ?_) ?_ ?_
     rotate_left
     ·show Act.put _ (some 17) _ = _
      simp only [Act.put, List.setIfInBounds_toArray, List.set_cons_zero, List.set_cons_succ, i64_w, i32_w]
      rfl
     refine one_ (i := 8) (N := some 18) #[true, true, true, true, true, true, true, true, true, false, false] rfl rfl (one_of HT_.out (by kernel_rfl)) (by decide) (fun K hK => ?_)
     have hcv12 := own_string (P := Tryd.prog) Tryd.underlying84 Tryd.underlying5 Tryd.underlying9 (Kd.own_of_R HO216.out)
     refine value_ (w1 := ?_) (v := ?_) (by rfl) rfl ?_ ?_
     rotate_left 2
     ·go_simp
      constructor
      ·rfl
      ·rfl
     clear hcv12
     refine hK.out _ _ trivial (fun hHeld => ?_)
     clear hK K
     refine norm_ (a' := ?_) ?_ ?_
     rotate_left
     ·show Act.put _ (some 18) _ = _
      simp only [Act.put, List.setIfInBounds_toArray, List.set_cons_zero, List.set_cons_succ, i64_w, i32_w]
      rfl
     exact norm_ z61_ (hCont (v215) _ ⟨z59_, z39_⟩)
    ·skip
     refine Kd.R_lit_step (Kd.int .u8) _ 5 ?hg (N := 17) ?hd (xs := ([(wrap64 (48 + (Int.tmod a0 10))) % 256] : List Int)) (inner := [.int .u8 ((wrap64 (48 + (Int.tmod a0 10))) % 256)]) (ok := fun _ => True) (okp := fun _ => True) ?hr ?hp (fun _ hk => hk) trivial (Below.refl _ _) (Nat.le_refl _) (by simp) ?_; (case hd => rfl); (case hg => rfl); (case hr => first | (go_simp; done) | (go_simp; rfl)); (case hp => exact (Reps.one (show Kd.M (Kd.int .u8) _ _ _ ((wrap64 (48 + (Int.tmod a0 10))) % 256) [.int .u8 ((wrap64 (48 + (Int.tmod a0 10))) % 256)] from rfl) (Reps.none _ _)))
     intro v215 w9 ho10 hb hg_ hnew_
     clear hg_ hnew_
     (first | rw [← Ny214.out] at ho10 | (simp only [Int.reduceToNat] at ho10; rw [← Ny214.out] at ho10))
     have n0_ := Aside0.mk (Kd.R_lower ho10 (below_size z39_))
     have n1_ := Aside0.mk (below_step z39_ hb)
     clear HB
     have HO216 := n0_
     have HB := n1_
     clear n0_ n1_; clear hb ho10
     refine hK.out _ _ trivial (fun hHeld => ?_)
     clear hK K
     refine norm_ (a' := ?_) ?_ ?_
     rotate_left
     ·show Act.put _ (some 17) _ = _
      simp only [Act.put, List.setIfInBounds_toArray, List.set_cons_zero, List.set_cons_succ, i64_w, i32_w]
      rfl
     refine two_ (i := 2) (j := 8) (Ni := some 12) (Nj := some 18) #[true, true, true, true, true, true, true, true, false, false, false] #[true, true, false, true, true, true, true, true, true, false, false] rfl rfl rfl rfl (two_of HT_.out (by kernel_rfl)) (by decide) (by decide) (fun K hK => ?_) (fun K hK => ?_)
     ·skip
      refine goes_ Tryd.func90 (by kernel_rfl) rfl #[.int .i64 (wrap64 (Int.tdiv a0 10))] (by rfl) rfl rfl z38_ ?_
      with_reducible refine (ih k (by omega) (wrap64 (Int.tdiv a0 10)) t213 _ ?gw141_ A6.out).mono ?_
      case gw141_ => first | exact hG_ | (refine GW.below hG_ ?_; first | (with_reducible exact HB.out) | (repeat (first | (with_reducible first | exact HB.out | apply below_alloc | apply pw_below_drewN | apply below_drew1 | apply below_drew | exact Below.refl _ _) | exact HB.out))) | (apply GW.drewN; exact hG_) | (apply GW.drew; exact hG_)
      rintro e w11 ⟨rfl, hb⟩
      refine ⟨_, rfl, ?_⟩
      have n0_ := Aside0.mk (Kd.R_below z59_ hb)
      have n1_ := Aside0.mk (below_step z39_ hb)
      clear HO216; clear HB
      have HO216 := n0_
      have HB := n1_
      clear n0_ n1_
      (try clear hb)
      (try clear hb2)
      (try clear hk)
      (try clear hi)
      refine hK.out _ _ trivial (fun hHeld => ?_)
      clear hK K
      refine norm_ (a' := ?_) ?_ ?_
      rotate_left
      ·show Act.put _ (some 12) _ = _
       simp only [Act.put, List.setIfInBounds_toArray, List.set_cons_zero, List.set_cons_succ, i64_w, i32_w]
       rfl
      refine one_ (i := 8) (N := some 18) #[true, true, true, true, true, true, true, true, true, false, false] rfl rfl (one_of HT_.out (by kernel_rfl)) (by decide) (fun K hK => ?_)
      have hcv12 := own_string (P := Tryd.prog) Tryd.underlying84 Tryd.underlying5 Tryd.underlying9 (Kd.own_of_R HO216.out)
      refine value_ (w1 := ?_) (v := ?_) (by rfl) rfl ?_ ?_
      rotate_left 2
      ·go_simp
       constructor
       ·rfl
       ·rfl
      clear hcv12
      refine hK.out _ _ trivial (fun hHeld => ?_)
      clear hK K
      refine norm_ (a' := ?_) ?_ ?_
      rotate_left
      ·show Act.put _ (some 18) _ = _
       simp only [Act.put, List.setIfInBounds_toArray, List.set_cons_zero, List.set_cons_succ, i64_w, i32_w]
       rfl
      exact norm_ z61_ (hCont (v215) _ ⟨z59_, z39_⟩)
     ·skip
      have hcv11 := own_string (P := Tryd.prog) Tryd.underlying84 Tryd.underlying5 Tryd.underlying9 (Kd.own_of_R HO216.out)
      refine value_ (w1 := ?_) (v := ?_) (by rfl) rfl ?_ ?_
      rotate_left 2
      ·go_simp
       constructor
       ·rfl
       ·rfl
      clear hcv11
      refine hK.out _ _ trivial (fun hHeld => ?_)
      clear hK K
      refine norm_ (a' := ?_) ?_ ?_
      rotate_left
      ·show Act.put _ (some 18) _ = _
       simp only [Act.put, List.setIfInBounds_toArray, List.set_cons_zero, List.set_cons_succ, i64_w, i32_w]
       rfl
      refine one_ (i := 2) (N := some 12) #[true, true, true, true, true, true, true, true, true, false, false] rfl rfl (one_of HT_.out (by kernel_rfl)) (by decide) (fun K hK => ?_)
      refine goes_ Tryd.func90 (by kernel_rfl) rfl #[.int .i64 (wrap64 (Int.tdiv a0 10))] (by rfl) rfl rfl z38_ ?_
      with_reducible refine (ih k (by omega) (wrap64 (Int.tdiv a0 10)) t213 _ ?gw142_ A6.out).mono ?_
      case gw142_ => first | exact hG_ | (refine GW.below hG_ ?_; first | (with_reducible exact HB.out) | (repeat (first | (with_reducible first | exact HB.out | apply below_alloc | apply pw_below_drewN | apply below_drew1 | apply below_drew | exact Below.refl _ _) | exact HB.out))) | (apply GW.drewN; exact hG_) | (apply GW.drew; exact hG_)
      rintro e w12 ⟨rfl, hb⟩
      refine ⟨_, rfl, ?_⟩
      have n0_ := Aside0.mk (Kd.R_below z59_ hb)
      have n1_ := Aside0.mk (below_step z39_ hb)
      clear HO216; clear HB
      have HO216 := n0_
      have HB := n1_
      clear n0_ n1_
      (try clear hb)
      (try clear hb2)
      (try clear hk)
      (try clear hi)
      refine hK.out _ _ trivial (fun hHeld => ?_)
      clear hK K
      refine norm_ (a' := ?_) ?_ ?_
      rotate_left
      ·show Act.put _ (some 12) _ = _
       simp only [Act.put, List.setIfInBounds_toArray, List.set_cons_zero, List.set_cons_succ, i64_w, i32_w]
       rfl
      exact norm_ z61_ (hCont (v215) _ ⟨z59_, z39_⟩)
   rintro v215 w13 ⟨h0_, h1_⟩
   have n0_ : Aside0 (Kd.R (Kd.int .u8) 5 w13 w.heap.size (fun _ => True) v215 y214) := ⟨h0_⟩
   have n1_ : Aside0 (Below w.heap.size w w13) := ⟨h1_⟩
   clear HB; clear h0_ h1_
   have HO216 := n0_
   have HB := n1_
   clear n0_ n1_
   have hHeld := trivial
   refine norm_ (a' := ?_) ?_ ?_
   rotate_left
   ·simp only [putAll, Act.put, List.setIfInBounds_toArray, List.set_cons_zero, List.set_cons_succ]
    rfl
   refine pure_ (i := 9) (N := some 19) (v := ?_) (a' := ?_) #[true, true, true, true, true, true, true, true, true, true, false] rfl rfl (any_of HT_.out (by kernel_rfl)) (fun _ _ _ h => h) (Or.inl ⟨by rfl, ?_⟩) ?_ ?_
   rotate_left
   ·intro w'
    go_simp
    with_reducible rfl
   rotate_left
   ·simp only [Act.put, List.setIfInBounds_toArray, List.set_cons_zero, List.set_cons_succ, i64_w, i32_w]
    rfl
   refine pure_ (i := 10) (N := some 2) (v := ?_) (a' := ?_) #[true, true, true, true, true, true, true, true, true, true, true] rfl rfl (any_of HT_.out (by kernel_rfl)) (fun _ _ _ h => h) (Or.inl ⟨by rfl, ?_⟩) ?_ ?_
   rotate_left
   ·intro w'
    go_simp
    with_reducible rfl
   rotate_left
   ·simp only [Act.put, List.setIfInBounds_toArray, List.set_cons_zero, List.set_cons_succ, i64_w, i32_w]
    rfl
   refine done_ (done_of HT_.out (by kernel_rfl)) ?_
   try go_wp2
   go_ret
   exact ⟨z40_, z39_⟩
  ·rw [if_neg c7] at H
   exact absurd H (by simp)

def pursuivantref08_Text.f (k : Nat) (a0_0 a0_1 : ByteArray) (a0_2 : Int) : Option (ByteArray) := (pursuivantref08_Nobody.f a0_0 a0_1 a0_2).bind fun t218 => (if t218 = true then (some (⟨#[110, 117, 108, 108]⟩ : ByteArray)) else ((pursuivantref08_Good.f k a0_0 a0_1 a0_2).bind fun t219 => (if t219 = true then (if a0_0.size + 3 ≤ 9223372036854775807 then (if (a0_0 ++ (⟨#[58, 47, 47]⟩ : ByteArray)).size + a0_1.size ≤ 9223372036854775807 then ((pursuivantref05_Default.f a0_0).bind fun t220 => (if a0_2 = t220 then (some ((a0_0 ++ (⟨#[58, 47, 47]⟩ : ByteArray)) ++ a0_1)) else ((pursuivantref06_Digits.f k a0_2).bind fun t221 => (if 1 + t221.size ≤ 9223372036854775807 then (if ((a0_0 ++ (⟨#[58, 47, 47]⟩ : ByteArray)) ++ a0_1).size + ((⟨#[58]⟩ : ByteArray) ++ t221).size ≤ 9223372036854775807 then (some (((a0_0 ++ (⟨#[58, 47, 47]⟩ : ByteArray)) ++ a0_1) ++ ((⟨#[58]⟩ : ByteArray) ++ t221))) else (none)) else (none))))) else (none)) else (none)) else (some (⟨#[]⟩ : ByteArray)))))
set_option maxHeartbeats 8000000 in
set_option maxRecDepth 100000 in
theorem pursuivantref08_Text.calls (k : Nat) (a0_0 a0_1 : ByteArray) (a0_2 : Int) (r : ByteArray) (w : World) (hG_ : GW w) (h : pursuivantref08_Text.f k a0_0 a0_1 a0_2 = some r) :
  Calls Tryd.prog 51 #[.agg #[.string a0_0, .string a0_1, .int .i64 a0_2]] w fun e w' => e = .returned (.string r) ∧ Below w.heap.size w w' := by
 have hu50 := Tryd.underlying50
 have HB := Aside0.mk (Below.refl w.heap.size w)
 have H : ((pursuivantref08_Nobody.f a0_0 a0_1 a0_2).bind fun t218 => (if t218 = true then (some (⟨#[110, 117, 108, 108]⟩ : ByteArray)) else ((pursuivantref08_Good.f k a0_0 a0_1 a0_2).bind fun t219 => (if t219 = true then (if a0_0.size + 3 ≤ 9223372036854775807 then (if (a0_0 ++ (⟨#[58, 47, 47]⟩ : ByteArray)).size + a0_1.size ≤ 9223372036854775807 then ((pursuivantref05_Default.f a0_0).bind fun t220 => (if a0_2 = t220 then (some ((a0_0 ++ (⟨#[58, 47, 47]⟩ : ByteArray)) ++ a0_1)) else ((pursuivantref06_Digits.f k a0_2).bind fun t221 => (if 1 + t221.size ≤ 9223372036854775807 then (if ((a0_0 ++ (⟨#[58, 47, 47]⟩ : ByteArray)) ++ a0_1).size + ((⟨#[58]⟩ : ByteArray) ++ t221).size ≤ 9223372036854775807 then (some (((a0_0 ++ (⟨#[58, 47, 47]⟩ : ByteArray)) ++ a0_1) ++ ((⟨#[58]⟩ : ByteArray) ++ t221))) else (none)) else (none))))) else (none)) else (none)) else (some (⟨#[]⟩ : ByteArray)))))) = some r := h
 clear h
 replace H := Option.bind_eq_some_iff.mp H
 obtain ⟨t218, A20, H⟩ := H
 replace H : (if t218 = true then (some (⟨#[110, 117, 108, 108]⟩ : ByteArray)) else ((pursuivantref08_Good.f k a0_0 a0_1 a0_2).bind fun t219 => (if t219 = true then (if a0_0.size + 3 ≤ 9223372036854775807 then (if (a0_0 ++ (⟨#[58, 47, 47]⟩ : ByteArray)).size + a0_1.size ≤ 9223372036854775807 then ((pursuivantref05_Default.f a0_0).bind fun t220 => (if a0_2 = t220 then (some ((a0_0 ++ (⟨#[58, 47, 47]⟩ : ByteArray)) ++ a0_1)) else ((pursuivantref06_Digits.f k a0_2).bind fun t221 => (if 1 + t221.size ≤ 9223372036854775807 then (if ((a0_0 ++ (⟨#[58, 47, 47]⟩ : ByteArray)) ++ a0_1).size + ((⟨#[58]⟩ : ByteArray) ++ t221).size ≤ 9223372036854775807 then (some (((a0_0 ++ (⟨#[58, 47, 47]⟩ : ByteArray)) ++ a0_1) ++ ((⟨#[58]⟩ : ByteArray) ++ t221))) else (none)) else (none))))) else (none)) else (none)) else (some (⟨#[]⟩ : ByteArray))))) = some r := H
 have A2 := Aside0.mk A20; clear A20
 by_cases c3 : t218 = true
 ·subst c3
  have H1 : (some (⟨#[110, 117, 108, 108]⟩ : ByteArray)) = some r := by rw [if_pos rfl] at H; exact H
  clear H
  have H := H1
  clear H1
  obtain rfl := Option.some.inj H
  go_enter Tryd.func51, Tryd.ntmps51
  go_wp2_with (first | ((with_reducible refine gate_dst (N := 1) rfl ?_); refine box_event ?hg (N := 1) ?hd (cs := #[.string a0_0, .string a0_1, .int .i64 a0_2]) (t := 50) ?hr ?_; (case hd => rfl); (case hg => rfl); (case hr => first | (go_simp; done) | (go_simp; rfl)); intro gb217 hg w4 hbox hb; have n0_ := Aside0.mk (below_step z39_ hb); have n1_ := Aside0.mk (hbox); have n2_ := Aside0.mk ((by rw [hg]; exact (below_size z39_) : w.heap.size ≤ gb217)); have n3_ := Aside0.mk ((by rw [hg]; exact (below_size z39_) : w.heap.size ≤ gb217)); clear HB; have HB := n0_; have BK217 := n1_; have GW217 := n2_; have GE217 := n3_; clear n0_ n1_ n2_ n3_; clear hb hbox hg; have hcz5_0 : w4.cell? ⟨gb217, 0, none⟩ = some (.string a0_0) := (blk_cell BK217.out 0).trans rfl; have hcz5_1 : w4.cell? ⟨gb217, 1, none⟩ = some (.string a0_1) := (blk_cell BK217.out 1).trans rfl; have hcz5_2 : w4.cell? ⟨gb217, 2, none⟩ = some (.int .i64 a0_2) := (blk_cell BK217.out 2).trans rfl; have hfz5_0 := blk_frozen BK217.out 0; have hfz5_1 := blk_frozen BK217.out 1; have hfz5_2 := blk_frozen BK217.out 2) | (go_at_call 88; (fail_if_success (have z_ := U_33)); have U_33 := trivial; (with_reducible refine (pursuivantref08_Nobody.calls a0_0 a0_1 a0_2 true _ ?gw107_ A2.out).mono ?_); (case gw107_ => first | exact hG_ | (refine GW.below hG_ ?_; first | (with_reducible exact HB.out) | (repeat (first | (with_reducible first | exact HB.out | apply below_alloc | apply pw_below_drewN | apply below_drew1 | apply below_drew | exact Below.refl _ _) | exact HB.out))) | (apply GW.drewN; exact hG_) | (apply GW.drew; exact hG_)); rintro e w6 ⟨rfl, hb⟩; have n0_ := Aside0.mk (blk_below (g := gb217) (o := .cells #[.string a0_0, .string a0_1, .int .i64 a0_2] 50 (0, 0)) z43_ hb); have n1_ := Aside0.mk (below_step z25_ hb); clear BK217; clear HB; have BK217 := n0_; have HB := n1_; clear n0_ n1_; (try clear hb); (try clear hb2); (try clear hk); (try clear hi)))
  repeat (go_quiet (first | ((with_reducible refine gate_dst (N := 1) rfl ?_); refine box_event ?hg (N := 1) ?hd (cs := #[.string a0_0, .string a0_1, .int .i64 a0_2]) (t := 50) ?hr ?_; (case hd => rfl); (case hg => rfl); (case hr => first | (go_simp; done) | (go_simp; rfl)); intro gb217 hg w4 hbox hb; have n0_ := Aside0.mk (below_step z39_ hb); have n1_ := Aside0.mk (hbox); have n2_ := Aside0.mk ((by rw [hg]; exact (below_size z39_) : w.heap.size ≤ gb217)); have n3_ := Aside0.mk ((by rw [hg]; exact (below_size z39_) : w.heap.size ≤ gb217)); clear HB; have HB := n0_; have BK217 := n1_; have GW217 := n2_; have GE217 := n3_; clear n0_ n1_ n2_ n3_; clear hb hbox hg; have hcz5_0 : w4.cell? ⟨gb217, 0, none⟩ = some (.string a0_0) := (blk_cell BK217.out 0).trans rfl; have hcz5_1 : w4.cell? ⟨gb217, 1, none⟩ = some (.string a0_1) := (blk_cell BK217.out 1).trans rfl; have hcz5_2 : w4.cell? ⟨gb217, 2, none⟩ = some (.int .i64 a0_2) := (blk_cell BK217.out 2).trans rfl; have hfz5_0 := blk_frozen BK217.out 0; have hfz5_1 := blk_frozen BK217.out 1; have hfz5_2 := blk_frozen BK217.out 2) | (go_at_call 88; (fail_if_success (have z_ := U_34)); have U_34 := trivial; (with_reducible refine (pursuivantref08_Nobody.calls a0_0 a0_1 a0_2 true _ ?gw108_ A2.out).mono ?_); (case gw108_ => first | exact hG_ | (refine GW.below hG_ ?_; first | (with_reducible exact HB.out) | (repeat (first | (with_reducible first | exact HB.out | apply below_alloc | apply pw_below_drewN | apply below_drew1 | apply below_drew | exact Below.refl _ _) | exact HB.out))) | (apply GW.drewN; exact hG_) | (apply GW.drew; exact hG_)); rintro e w6 ⟨rfl, hb⟩; have n0_ := Aside0.mk (blk_below (g := gb217) (o := .cells #[.string a0_0, .string a0_1, .int .i64 a0_2] 50 (0, 0)) z43_ hb); have n1_ := Aside0.mk (below_step z25_ hb); clear BK217; clear HB; have BK217 := n0_; have HB := n1_; clear n0_ n1_; (try clear hb); (try clear hb2); (try clear hk); (try clear hi))); try go_wp2_with (first | ((with_reducible refine gate_dst (N := 1) rfl ?_); refine box_event ?hg (N := 1) ?hd (cs := #[.string a0_0, .string a0_1, .int .i64 a0_2]) (t := 50) ?hr ?_; (case hd => rfl); (case hg => rfl); (case hr => first | (go_simp; done) | (go_simp; rfl)); intro gb217 hg w4 hbox hb; have n0_ := Aside0.mk (below_step z39_ hb); have n1_ := Aside0.mk (hbox); have n2_ := Aside0.mk ((by rw [hg]; exact (below_size z39_) : w.heap.size ≤ gb217)); have n3_ := Aside0.mk ((by rw [hg]; exact (below_size z39_) : w.heap.size ≤ gb217)); clear HB; have HB := n0_; have BK217 := n1_; have GW217 := n2_; have GE217 := n3_; clear n0_ n1_ n2_ n3_; clear hb hbox hg; have hcz5_0 : w4.cell? ⟨gb217, 0, none⟩ = some (.string a0_0) := (blk_cell BK217.out 0).trans rfl; have hcz5_1 : w4.cell? ⟨gb217, 1, none⟩ = some (.string a0_1) := (blk_cell BK217.out 1).trans rfl; have hcz5_2 : w4.cell? ⟨gb217, 2, none⟩ = some (.int .i64 a0_2) := (blk_cell BK217.out 2).trans rfl; have hfz5_0 := blk_frozen BK217.out 0; have hfz5_1 := blk_frozen BK217.out 1; have hfz5_2 := blk_frozen BK217.out 2) | (go_at_call 88; (fail_if_success (have z_ := U_35)); have U_35 := trivial; (with_reducible refine (pursuivantref08_Nobody.calls a0_0 a0_1 a0_2 true _ ?gw109_ A2.out).mono ?_); (case gw109_ => first | exact hG_ | (refine GW.below hG_ ?_; first | (with_reducible exact HB.out) | (repeat (first | (with_reducible first | exact HB.out | apply below_alloc | apply pw_below_drewN | apply below_drew1 | apply below_drew | exact Below.refl _ _) | exact HB.out))) | (apply GW.drewN; exact hG_) | (apply GW.drew; exact hG_)); rintro e w6 ⟨rfl, hb⟩; have n0_ := Aside0.mk (blk_below (g := gb217) (o := .cells #[.string a0_0, .string a0_1, .int .i64 a0_2] 50 (0, 0)) z43_ hb); have n1_ := Aside0.mk (below_step z25_ hb); clear BK217; clear HB; have BK217 := n0_; have HB := n1_; clear n0_ n1_; (try clear hb); (try clear hb2); (try clear hk); (try clear hi))))
  go_ret
  exact ⟨z40_, z25_⟩
 ·replace c3 := Bool.eq_false_iff.mpr c3
  subst c3
  have H1 : ((pursuivantref08_Good.f k a0_0 a0_1 a0_2).bind fun t219 => (if t219 = true then (if a0_0.size + 3 ≤ 9223372036854775807 then (if (a0_0 ++ (⟨#[58, 47, 47]⟩ : ByteArray)).size + a0_1.size ≤ 9223372036854775807 then ((pursuivantref05_Default.f a0_0).bind fun t220 => (if a0_2 = t220 then (some ((a0_0 ++ (⟨#[58, 47, 47]⟩ : ByteArray)) ++ a0_1)) else ((pursuivantref06_Digits.f k a0_2).bind fun t221 => (if 1 + t221.size ≤ 9223372036854775807 then (if ((a0_0 ++ (⟨#[58, 47, 47]⟩ : ByteArray)) ++ a0_1).size + ((⟨#[58]⟩ : ByteArray) ++ t221).size ≤ 9223372036854775807 then (some (((a0_0 ++ (⟨#[58, 47, 47]⟩ : ByteArray)) ++ a0_1) ++ ((⟨#[58]⟩ : ByteArray) ++ t221))) else (none)) else (none))))) else (none)) else (none)) else (some (⟨#[]⟩ : ByteArray)))) = some r := by rw [if_neg (show ¬ (false = true) by decide)] at H; exact H
  clear H
  have H := H1
  clear H1
  replace H := Option.bind_eq_some_iff.mp H
  obtain ⟨t219, A70, H⟩ := H
  replace H : (if t219 = true then (if a0_0.size + 3 ≤ 9223372036854775807 then (if (a0_0 ++ (⟨#[58, 47, 47]⟩ : ByteArray)).size + a0_1.size ≤ 9223372036854775807 then ((pursuivantref05_Default.f a0_0).bind fun t220 => (if a0_2 = t220 then (some ((a0_0 ++ (⟨#[58, 47, 47]⟩ : ByteArray)) ++ a0_1)) else ((pursuivantref06_Digits.f k a0_2).bind fun t221 => (if 1 + t221.size ≤ 9223372036854775807 then (if ((a0_0 ++ (⟨#[58, 47, 47]⟩ : ByteArray)) ++ a0_1).size + ((⟨#[58]⟩ : ByteArray) ++ t221).size ≤ 9223372036854775807 then (some (((a0_0 ++ (⟨#[58, 47, 47]⟩ : ByteArray)) ++ a0_1) ++ ((⟨#[58]⟩ : ByteArray) ++ t221))) else (none)) else (none))))) else (none)) else (none)) else (some (⟨#[]⟩ : ByteArray))) = some r := H
  have A7 := Aside0.mk A70; clear A70
  by_cases c8 : t219 = true
  ·subst c8
   have H1 : (if a0_0.size + 3 ≤ 9223372036854775807 then (if (a0_0 ++ (⟨#[58, 47, 47]⟩ : ByteArray)).size + a0_1.size ≤ 9223372036854775807 then ((pursuivantref05_Default.f a0_0).bind fun t220 => (if a0_2 = t220 then (some ((a0_0 ++ (⟨#[58, 47, 47]⟩ : ByteArray)) ++ a0_1)) else ((pursuivantref06_Digits.f k a0_2).bind fun t221 => (if 1 + t221.size ≤ 9223372036854775807 then (if ((a0_0 ++ (⟨#[58, 47, 47]⟩ : ByteArray)) ++ a0_1).size + ((⟨#[58]⟩ : ByteArray) ++ t221).size ≤ 9223372036854775807 then (some (((a0_0 ++ (⟨#[58, 47, 47]⟩ : ByteArray)) ++ a0_1) ++ ((⟨#[58]⟩ : ByteArray) ++ t221))) else (none)) else (none))))) else (none)) else (none)) = some r := by rw [if_pos rfl] at H; exact H
   clear H
   have H := H1
   clear H1
   by_cases c9 : a0_0.size + 3 ≤ 9223372036854775807
   ·rw [if_pos c9] at H
    have c9b0 := eq_true c9; have c9b1 : decide (a0_0.size + 3 ≤ 9223372036854775807) = true := decide_eq_true c9
    try have c9b2 : (9223372036854775807 < a0_0.size + 3) = False := eq_false (Nat.not_lt.2 c9)
    by_cases c10 : (a0_0 ++ (⟨#[58, 47, 47]⟩ : ByteArray)).size + a0_1.size ≤ 9223372036854775807
    ·rw [if_pos c10] at H
     have c10b0 := eq_true c10
     try have c10m : ((a0_0.size + 3) + a0_1.size ≤ 9223372036854775807) = True := by first | exact c10b0 | (have h_ := c10; simp only [ByteArray.size_append, Int.natCast_add] at h_; exact eq_true h_)
     have c10b1 : decide ((a0_0 ++ (⟨#[58, 47, 47]⟩ : ByteArray)).size + a0_1.size ≤ 9223372036854775807) = true := decide_eq_true c10
     try have c10b1n : decide ((a0_0.size + 3) + a0_1.size ≤ 9223372036854775807) = true := by first | exact c10b1 | (have h_ := c10b1; simp only [ByteArray.size_append, Int.natCast_add] at h_; exact h_)
     try have c10b2 : (9223372036854775807 < (a0_0 ++ (⟨#[58, 47, 47]⟩ : ByteArray)).size + a0_1.size) = False := eq_false (Nat.not_lt.2 c10)
     try have c10b2n : (9223372036854775807 < (a0_0.size + 3) + a0_1.size) = False := by first | exact c10b2 | (have h_ := c10b2; simp only [ByteArray.size_append, Int.natCast_add] at h_; exact h_)
     replace H := Option.bind_eq_some_iff.mp H
     obtain ⟨t220, A110, H⟩ := H
     replace H : (if a0_2 = t220 then (some ((a0_0 ++ (⟨#[58, 47, 47]⟩ : ByteArray)) ++ a0_1)) else ((pursuivantref06_Digits.f k a0_2).bind fun t221 => (if 1 + t221.size ≤ 9223372036854775807 then (if ((a0_0 ++ (⟨#[58, 47, 47]⟩ : ByteArray)) ++ a0_1).size + ((⟨#[58]⟩ : ByteArray) ++ t221).size ≤ 9223372036854775807 then (some (((a0_0 ++ (⟨#[58, 47, 47]⟩ : ByteArray)) ++ a0_1) ++ ((⟨#[58]⟩ : ByteArray) ++ t221))) else (none)) else (none)))) = some r := H
     have A11 := Aside0.mk A110; clear A110
     by_cases c12 : a0_2 = t220
     ·rw [if_pos c12] at H
      have c12b0 : (a0_2 == t220) = true := beq_iff_eq.mpr c12
      have c12b1 : (a0_2 != t220) = false := bne_eq_false_iff_eq.mpr c12
      clear c12
      obtain rfl := Option.some.inj H
      go_enter Tryd.func51, Tryd.ntmps51
      go_wp2_with (first | ((with_reducible refine gate_dst (N := 1) rfl ?_); refine box_event ?hg (N := 1) ?hd (cs := #[.string a0_0, .string a0_1, .int .i64 a0_2]) (t := 50) ?hr ?_; (case hd => rfl); (case hg => rfl); (case hr => first | (go_simp; done) | (go_simp; rfl)); intro gb217 hg w13 hbox hb; have n0_ := Aside0.mk (below_step z39_ hb); have n1_ := Aside0.mk (hbox); have n2_ := Aside0.mk ((by rw [hg]; exact (below_size z39_) : w.heap.size ≤ gb217)); have n3_ := Aside0.mk ((by rw [hg]; exact (below_size z39_) : w.heap.size ≤ gb217)); clear HB; have HB := n0_; have BK217 := n1_; have GW217 := n2_; have GE217 := n3_; clear n0_ n1_ n2_ n3_; clear hb hbox hg; have hcz14_0 : w13.cell? ⟨gb217, 0, none⟩ = some (.string a0_0) := (blk_cell BK217.out 0).trans rfl; have hcz14_1 : w13.cell? ⟨gb217, 1, none⟩ = some (.string a0_1) := (blk_cell BK217.out 1).trans rfl; have hcz14_2 : w13.cell? ⟨gb217, 2, none⟩ = some (.int .i64 a0_2) := (blk_cell BK217.out 2).trans rfl; have hfz14_0 := blk_frozen BK217.out 0; have hfz14_1 := blk_frozen BK217.out 1; have hfz14_2 := blk_frozen BK217.out 2) | (go_at_call 88; (fail_if_success (have z_ := U_36)); have U_36 := trivial; (with_reducible refine (pursuivantref08_Nobody.calls a0_0 a0_1 a0_2 false _ ?gw110_ A2.out).mono ?_); (case gw110_ => first | exact hG_ | (refine GW.below hG_ ?_; first | (with_reducible exact HB.out) | (repeat (first | (with_reducible first | exact HB.out | apply below_alloc | apply pw_below_drewN | apply below_drew1 | apply below_drew | exact Below.refl _ _) | exact HB.out))) | (apply GW.drewN; exact hG_) | (apply GW.drew; exact hG_)); rintro e w15 ⟨rfl, hb⟩; have n0_ := Aside0.mk (blk_below (g := gb217) (o := .cells #[.string a0_0, .string a0_1, .int .i64 a0_2] 50 (0, 0)) z43_ hb); have n1_ := Aside0.mk (below_step z25_ hb); clear BK217; clear HB; have BK217 := n0_; have HB := n1_; clear n0_ n1_; (try clear hb); (try clear hb2); (try clear hk); (try clear hi); have hcz16_0 : w15.cell? ⟨gb217, 0, none⟩ = some (.string a0_0) := (blk_cell BK217.out 0).trans rfl; have hcz16_1 : w15.cell? ⟨gb217, 1, none⟩ = some (.string a0_1) := (blk_cell BK217.out 1).trans rfl; have hcz16_2 : w15.cell? ⟨gb217, 2, none⟩ = some (.int .i64 a0_2) := (blk_cell BK217.out 2).trans rfl; have hfz16_0 := blk_frozen BK217.out 0; have hfz16_1 := blk_frozen BK217.out 1; have hfz16_2 := blk_frozen BK217.out 2) | (go_at_call 49; (fail_if_success (have z_ := U_37)); have U_37 := trivial; (with_reducible refine (pursuivantref08_Good.calls k a0_0 a0_1 a0_2 true _ ?gw111_ A7.out).mono ?_); (case gw111_ => first | exact hG_ | (refine GW.below hG_ ?_; first | (with_reducible exact HB.out) | (repeat (first | (with_reducible first | exact HB.out | apply below_alloc | apply pw_below_drewN | apply below_drew1 | apply below_drew | exact Below.refl _ _) | exact HB.out))) | (apply GW.drewN; exact hG_) | (apply GW.drew; exact hG_)); rintro e w17 ⟨rfl, hb⟩; have n0_ := Aside0.mk (blk_below (g := gb217) (o := .cells #[.string a0_0, .string a0_1, .int .i64 a0_2] 50 (0, 0)) z43_ hb); have n1_ := Aside0.mk (below_step z25_ hb); clear BK217; clear HB; have BK217 := n0_; have HB := n1_; clear n0_ n1_; (try clear hb); (try clear hb2); (try clear hk); (try clear hi); have hcz18_0 : w17.cell? ⟨gb217, 0, none⟩ = some (.string a0_0) := (blk_cell BK217.out 0).trans rfl; have hcz18_1 : w17.cell? ⟨gb217, 1, none⟩ = some (.string a0_1) := (blk_cell BK217.out 1).trans rfl; have hcz18_2 : w17.cell? ⟨gb217, 2, none⟩ = some (.int .i64 a0_2) := (blk_cell BK217.out 2).trans rfl; have hfz18_0 := blk_frozen BK217.out 0; have hfz18_1 := blk_frozen BK217.out 1; have hfz18_2 := blk_frozen BK217.out 2) | (go_at_call 23; (fail_if_success (have z_ := U_38)); have U_38 := trivial; (with_reducible refine (pursuivantref05_Default.calls a0_0 t220 _ ?gw112_ A11.out).mono ?_); (case gw112_ => first | exact hG_ | (refine GW.below hG_ ?_; first | (with_reducible exact HB.out) | (repeat (first | (with_reducible first | exact HB.out | apply below_alloc | apply pw_below_drewN | apply below_drew1 | apply below_drew | exact Below.refl _ _) | exact HB.out))) | (apply GW.drewN; exact hG_) | (apply GW.drew; exact hG_)); rintro e w' ⟨rfl, ⟨nd, rfl⟩⟩; (try first | exact ⟨rfl, _, World.drewN_drewN _ _ _⟩ | exact ⟨rfl, _, Eq.trans (World.drewN_drewN _ _ _) (congrArg (World.drewN _) (Nat.add_assoc _ _ _))⟩)))
      repeat (go_quiet (first | ((with_reducible refine gate_dst (N := 1) rfl ?_); refine box_event ?hg (N := 1) ?hd (cs := #[.string a0_0, .string a0_1, .int .i64 a0_2]) (t := 50) ?hr ?_; (case hd => rfl); (case hg => rfl); (case hr => first | (go_simp; done) | (go_simp; rfl)); intro gb217 hg w13 hbox hb; have n0_ := Aside0.mk (below_step z39_ hb); have n1_ := Aside0.mk (hbox); have n2_ := Aside0.mk ((by rw [hg]; exact (below_size z39_) : w.heap.size ≤ gb217)); have n3_ := Aside0.mk ((by rw [hg]; exact (below_size z39_) : w.heap.size ≤ gb217)); clear HB; have HB := n0_; have BK217 := n1_; have GW217 := n2_; have GE217 := n3_; clear n0_ n1_ n2_ n3_; clear hb hbox hg; have hcz14_0 : w13.cell? ⟨gb217, 0, none⟩ = some (.string a0_0) := (blk_cell BK217.out 0).trans rfl; have hcz14_1 : w13.cell? ⟨gb217, 1, none⟩ = some (.string a0_1) := (blk_cell BK217.out 1).trans rfl; have hcz14_2 : w13.cell? ⟨gb217, 2, none⟩ = some (.int .i64 a0_2) := (blk_cell BK217.out 2).trans rfl; have hfz14_0 := blk_frozen BK217.out 0; have hfz14_1 := blk_frozen BK217.out 1; have hfz14_2 := blk_frozen BK217.out 2) | (go_at_call 88; (fail_if_success (have z_ := U_39)); have U_39 := trivial; (with_reducible refine (pursuivantref08_Nobody.calls a0_0 a0_1 a0_2 false _ ?gw113_ A2.out).mono ?_); (case gw113_ => first | exact hG_ | (refine GW.below hG_ ?_; first | (with_reducible exact HB.out) | (repeat (first | (with_reducible first | exact HB.out | apply below_alloc | apply pw_below_drewN | apply below_drew1 | apply below_drew | exact Below.refl _ _) | exact HB.out))) | (apply GW.drewN; exact hG_) | (apply GW.drew; exact hG_)); rintro e w15 ⟨rfl, hb⟩; have n0_ := Aside0.mk (blk_below (g := gb217) (o := .cells #[.string a0_0, .string a0_1, .int .i64 a0_2] 50 (0, 0)) z43_ hb); have n1_ := Aside0.mk (below_step z25_ hb); clear BK217; clear HB; have BK217 := n0_; have HB := n1_; clear n0_ n1_; (try clear hb); (try clear hb2); (try clear hk); (try clear hi); have hcz16_0 : w15.cell? ⟨gb217, 0, none⟩ = some (.string a0_0) := (blk_cell BK217.out 0).trans rfl; have hcz16_1 : w15.cell? ⟨gb217, 1, none⟩ = some (.string a0_1) := (blk_cell BK217.out 1).trans rfl; have hcz16_2 : w15.cell? ⟨gb217, 2, none⟩ = some (.int .i64 a0_2) := (blk_cell BK217.out 2).trans rfl; have hfz16_0 := blk_frozen BK217.out 0; have hfz16_1 := blk_frozen BK217.out 1; have hfz16_2 := blk_frozen BK217.out 2) | (go_at_call 49; (fail_if_success (have z_ := U_40)); have U_40 := trivial; (with_reducible refine (pursuivantref08_Good.calls k a0_0 a0_1 a0_2 true _ ?gw114_ A7.out).mono ?_); (case gw114_ => first | exact hG_ | (refine GW.below hG_ ?_; first | (with_reducible exact HB.out) | (repeat (first | (with_reducible first | exact HB.out | apply below_alloc | apply pw_below_drewN | apply below_drew1 | apply below_drew | exact Below.refl _ _) | exact HB.out))) | (apply GW.drewN; exact hG_) | (apply GW.drew; exact hG_)); rintro e w17 ⟨rfl, hb⟩; have n0_ := Aside0.mk (blk_below (g := gb217) (o := .cells #[.string a0_0, .string a0_1, .int .i64 a0_2] 50 (0, 0)) z43_ hb); have n1_ := Aside0.mk (below_step z25_ hb); clear BK217; clear HB; have BK217 := n0_; have HB := n1_; clear n0_ n1_; (try clear hb); (try clear hb2); (try clear hk); (try clear hi); have hcz18_0 : w17.cell? ⟨gb217, 0, none⟩ = some (.string a0_0) := (blk_cell BK217.out 0).trans rfl; have hcz18_1 : w17.cell? ⟨gb217, 1, none⟩ = some (.string a0_1) := (blk_cell BK217.out 1).trans rfl; have hcz18_2 : w17.cell? ⟨gb217, 2, none⟩ = some (.int .i64 a0_2) := (blk_cell BK217.out 2).trans rfl; have hfz18_0 := blk_frozen BK217.out 0; have hfz18_1 := blk_frozen BK217.out 1; have hfz18_2 := blk_frozen BK217.out 2) | (go_at_call 23; (fail_if_success (have z_ := U_41)); have U_41 := trivial; (with_reducible refine (pursuivantref05_Default.calls a0_0 t220 _ ?gw115_ A11.out).mono ?_); (case gw115_ => first | exact hG_ | (refine GW.below hG_ ?_; first | (with_reducible exact HB.out) | (repeat (first | (with_reducible first | exact HB.out | apply below_alloc | apply pw_below_drewN | apply below_drew1 | apply below_drew | exact Below.refl _ _) | exact HB.out))) | (apply GW.drewN; exact hG_) | (apply GW.drew; exact hG_)); rintro e w' ⟨rfl, ⟨nd, rfl⟩⟩; (try first | exact ⟨rfl, _, World.drewN_drewN _ _ _⟩ | exact ⟨rfl, _, Eq.trans (World.drewN_drewN _ _ _) (congrArg (World.drewN _) (Nat.add_assoc _ _ _))⟩))); try go_wp2_with (first | ((with_reducible refine gate_dst (N := 1) rfl ?_); refine box_event ?hg (N := 1) ?hd (cs := #[.string a0_0, .string a0_1, .int .i64 a0_2]) (t := 50) ?hr ?_; (case hd => rfl); (case hg => rfl); (case hr => first | (go_simp; done) | (go_simp; rfl)); intro gb217 hg w13 hbox hb; have n0_ := Aside0.mk (below_step z39_ hb); have n1_ := Aside0.mk (hbox); have n2_ := Aside0.mk ((by rw [hg]; exact (below_size z39_) : w.heap.size ≤ gb217)); have n3_ := Aside0.mk ((by rw [hg]; exact (below_size z39_) : w.heap.size ≤ gb217)); clear HB; have HB := n0_; have BK217 := n1_; have GW217 := n2_; have GE217 := n3_; clear n0_ n1_ n2_ n3_; clear hb hbox hg; have hcz14_0 : w13.cell? ⟨gb217, 0, none⟩ = some (.string a0_0) := (blk_cell BK217.out 0).trans rfl; have hcz14_1 : w13.cell? ⟨gb217, 1, none⟩ = some (.string a0_1) := (blk_cell BK217.out 1).trans rfl; have hcz14_2 : w13.cell? ⟨gb217, 2, none⟩ = some (.int .i64 a0_2) := (blk_cell BK217.out 2).trans rfl; have hfz14_0 := blk_frozen BK217.out 0; have hfz14_1 := blk_frozen BK217.out 1; have hfz14_2 := blk_frozen BK217.out 2) | (go_at_call 88; (fail_if_success (have z_ := U_42)); have U_42 := trivial; (with_reducible refine (pursuivantref08_Nobody.calls a0_0 a0_1 a0_2 false _ ?gw116_ A2.out).mono ?_); (case gw116_ => first | exact hG_ | (refine GW.below hG_ ?_; first | (with_reducible exact HB.out) | (repeat (first | (with_reducible first | exact HB.out | apply below_alloc | apply pw_below_drewN | apply below_drew1 | apply below_drew | exact Below.refl _ _) | exact HB.out))) | (apply GW.drewN; exact hG_) | (apply GW.drew; exact hG_)); rintro e w15 ⟨rfl, hb⟩; have n0_ := Aside0.mk (blk_below (g := gb217) (o := .cells #[.string a0_0, .string a0_1, .int .i64 a0_2] 50 (0, 0)) z43_ hb); have n1_ := Aside0.mk (below_step z25_ hb); clear BK217; clear HB; have BK217 := n0_; have HB := n1_; clear n0_ n1_; (try clear hb); (try clear hb2); (try clear hk); (try clear hi); have hcz16_0 : w15.cell? ⟨gb217, 0, none⟩ = some (.string a0_0) := (blk_cell BK217.out 0).trans rfl; have hcz16_1 : w15.cell? ⟨gb217, 1, none⟩ = some (.string a0_1) := (blk_cell BK217.out 1).trans rfl; have hcz16_2 : w15.cell? ⟨gb217, 2, none⟩ = some (.int .i64 a0_2) := (blk_cell BK217.out 2).trans rfl; have hfz16_0 := blk_frozen BK217.out 0; have hfz16_1 := blk_frozen BK217.out 1; have hfz16_2 := blk_frozen BK217.out 2) | (go_at_call 49; (fail_if_success (have z_ := U_43)); have U_43 := trivial; (with_reducible refine (pursuivantref08_Good.calls k a0_0 a0_1 a0_2 true _ ?gw117_ A7.out).mono ?_); (case gw117_ => first | exact hG_ | (refine GW.below hG_ ?_; first | (with_reducible exact HB.out) | (repeat (first | (with_reducible first | exact HB.out | apply below_alloc | apply pw_below_drewN | apply below_drew1 | apply below_drew | exact Below.refl _ _) | exact HB.out))) | (apply GW.drewN; exact hG_) | (apply GW.drew; exact hG_)); rintro e w17 ⟨rfl, hb⟩; have n0_ := Aside0.mk (blk_below (g := gb217) (o := .cells #[.string a0_0, .string a0_1, .int .i64 a0_2] 50 (0, 0)) z43_ hb); have n1_ := Aside0.mk (below_step z25_ hb); clear BK217; clear HB; have BK217 := n0_; have HB := n1_; clear n0_ n1_; (try clear hb); (try clear hb2); (try clear hk); (try clear hi); have hcz18_0 : w17.cell? ⟨gb217, 0, none⟩ = some (.string a0_0) := (blk_cell BK217.out 0).trans rfl; have hcz18_1 : w17.cell? ⟨gb217, 1, none⟩ = some (.string a0_1) := (blk_cell BK217.out 1).trans rfl; have hcz18_2 : w17.cell? ⟨gb217, 2, none⟩ = some (.int .i64 a0_2) := (blk_cell BK217.out 2).trans rfl; have hfz18_0 := blk_frozen BK217.out 0; have hfz18_1 := blk_frozen BK217.out 1; have hfz18_2 := blk_frozen BK217.out 2) | (go_at_call 23; (fail_if_success (have z_ := U_44)); have U_44 := trivial; (with_reducible refine (pursuivantref05_Default.calls a0_0 t220 _ ?gw118_ A11.out).mono ?_); (case gw118_ => first | exact hG_ | (refine GW.below hG_ ?_; first | (with_reducible exact HB.out) | (repeat (first | (with_reducible first | exact HB.out | apply below_alloc | apply pw_below_drewN | apply below_drew1 | apply below_drew | exact Below.refl _ _) | exact HB.out))) | (apply GW.drewN; exact hG_) | (apply GW.drew; exact hG_)); rintro e w' ⟨rfl, ⟨nd, rfl⟩⟩; (try first | exact ⟨rfl, _, World.drewN_drewN _ _ _⟩ | exact ⟨rfl, _, Eq.trans (World.drewN_drewN _ _ _) (congrArg (World.drewN _) (Nat.add_assoc _ _ _))⟩))))
      go_ret
      exact ⟨z40_, z25_⟩
     ·rw [if_neg c12] at H
      have c12b0 : (a0_2 == t220) = false := beq_eq_false_iff_ne.mpr c12
      have c12b1 : (a0_2 != t220) = true := bne_iff_ne.mpr c12
      replace H := Option.bind_eq_some_iff.mp H
      obtain ⟨t221, A190, H⟩ := H
      replace H : (if 1 + t221.size ≤ 9223372036854775807 then (if ((a0_0 ++ (⟨#[58, 47, 47]⟩ : ByteArray)) ++ a0_1).size + ((⟨#[58]⟩ : ByteArray) ++ t221).size ≤ 9223372036854775807 then (some (((a0_0 ++ (⟨#[58, 47, 47]⟩ : ByteArray)) ++ a0_1) ++ ((⟨#[58]⟩ : ByteArray) ++ t221))) else (none)) else (none)) = some r := H
      have A19 := Aside0.mk A190; clear A190
      by_cases c20 : 1 + t221.size ≤ 9223372036854775807
      ·rw [if_pos c20] at H
       have c20b0 := eq_true c20; have c20b1 : decide (1 + t221.size ≤ 9223372036854775807) = true := decide_eq_true c20
       try have c20b2 : (9223372036854775807 < 1 + t221.size) = False := eq_false (Nat.not_lt.2 c20)
       try have c20c0 : (9223372036854775807 ≤ t221.size) = False := eq_false (by omega)
       try have c20c1 : (t221.size < 9223372036854775807) = True := eq_true (by omega)
       by_cases c21 : ((a0_0 ++ (⟨#[58, 47, 47]⟩ : ByteArray)) ++ a0_1).size + ((⟨#[58]⟩ : ByteArray) ++ t221).size ≤ 9223372036854775807
       ·rw [if_pos c21] at H
        have c21b0 := eq_true c21
        try have c21m : ((a0_0.size + 3 + a0_1.size) + (1 + t221.size) ≤ 9223372036854775807) = True := by first | exact c21b0 | (have h_ := c21; simp only [ByteArray.size_append, Int.natCast_add] at h_; exact eq_true h_)
        have c21b1 : decide (((a0_0 ++ (⟨#[58, 47, 47]⟩ : ByteArray)) ++ a0_1).size + ((⟨#[58]⟩ : ByteArray) ++ t221).size ≤ 9223372036854775807) = true := decide_eq_true c21
        try have c21b1n : decide ((a0_0.size + 3 + a0_1.size) + (1 + t221.size) ≤ 9223372036854775807) = true := by first | exact c21b1 | (have h_ := c21b1; simp only [ByteArray.size_append, Int.natCast_add] at h_; exact h_)
        try have c21b2 : (9223372036854775807 < ((a0_0 ++ (⟨#[58, 47, 47]⟩ : ByteArray)) ++ a0_1).size + ((⟨#[58]⟩ : ByteArray) ++ t221).size) = False := eq_false (Nat.not_lt.2 c21)
        try have c21b2n : (9223372036854775807 < (a0_0.size + 3 + a0_1.size) + (1 + t221.size)) = False := by first | exact c21b2 | (have h_ := c21b2; simp only [ByteArray.size_append, Int.natCast_add] at h_; exact h_)
        obtain rfl := Option.some.inj H
        go_enter Tryd.func51, Tryd.ntmps51
        go_wp2_with (first | ((with_reducible refine gate_dst (N := 1) rfl ?_); refine box_event ?hg (N := 1) ?hd (cs := #[.string a0_0, .string a0_1, .int .i64 a0_2]) (t := 50) ?hr ?_; (case hd => rfl); (case hg => rfl); (case hr => first | (go_simp; done) | (go_simp; rfl)); intro gb217 hg w22 hbox hb; have n0_ := Aside0.mk (below_step z39_ hb); have n1_ := Aside0.mk (hbox); have n2_ := Aside0.mk ((by rw [hg]; exact (below_size z39_) : w.heap.size ≤ gb217)); have n3_ := Aside0.mk ((by rw [hg]; exact (below_size z39_) : w.heap.size ≤ gb217)); clear HB; have HB := n0_; have BK217 := n1_; have GW217 := n2_; have GE217 := n3_; clear n0_ n1_ n2_ n3_; clear hb hbox hg; have hcz23_0 : w22.cell? ⟨gb217, 0, none⟩ = some (.string a0_0) := (blk_cell BK217.out 0).trans rfl; have hcz23_1 : w22.cell? ⟨gb217, 1, none⟩ = some (.string a0_1) := (blk_cell BK217.out 1).trans rfl; have hcz23_2 : w22.cell? ⟨gb217, 2, none⟩ = some (.int .i64 a0_2) := (blk_cell BK217.out 2).trans rfl; have hfz23_0 := blk_frozen BK217.out 0; have hfz23_1 := blk_frozen BK217.out 1; have hfz23_2 := blk_frozen BK217.out 2) | (go_at_call 88; (fail_if_success (have z_ := U_45)); have U_45 := trivial; (with_reducible refine (pursuivantref08_Nobody.calls a0_0 a0_1 a0_2 false _ ?gw119_ A2.out).mono ?_); (case gw119_ => first | exact hG_ | (refine GW.below hG_ ?_; first | (with_reducible exact HB.out) | (repeat (first | (with_reducible first | exact HB.out | apply below_alloc | apply pw_below_drewN | apply below_drew1 | apply below_drew | exact Below.refl _ _) | exact HB.out))) | (apply GW.drewN; exact hG_) | (apply GW.drew; exact hG_)); rintro e w24 ⟨rfl, hb⟩; have n0_ := Aside0.mk (blk_below (g := gb217) (o := .cells #[.string a0_0, .string a0_1, .int .i64 a0_2] 50 (0, 0)) z43_ hb); have n1_ := Aside0.mk (below_step z25_ hb); clear BK217; clear HB; have BK217 := n0_; have HB := n1_; clear n0_ n1_; (try clear hb); (try clear hb2); (try clear hk); (try clear hi); have hcz25_0 : w24.cell? ⟨gb217, 0, none⟩ = some (.string a0_0) := (blk_cell BK217.out 0).trans rfl; have hcz25_1 : w24.cell? ⟨gb217, 1, none⟩ = some (.string a0_1) := (blk_cell BK217.out 1).trans rfl; have hcz25_2 : w24.cell? ⟨gb217, 2, none⟩ = some (.int .i64 a0_2) := (blk_cell BK217.out 2).trans rfl; have hfz25_0 := blk_frozen BK217.out 0; have hfz25_1 := blk_frozen BK217.out 1; have hfz25_2 := blk_frozen BK217.out 2) | (go_at_call 49; (fail_if_success (have z_ := U_46)); have U_46 := trivial; (with_reducible refine (pursuivantref08_Good.calls k a0_0 a0_1 a0_2 true _ ?gw120_ A7.out).mono ?_); (case gw120_ => first | exact hG_ | (refine GW.below hG_ ?_; first | (with_reducible exact HB.out) | (repeat (first | (with_reducible first | exact HB.out | apply below_alloc | apply pw_below_drewN | apply below_drew1 | apply below_drew | exact Below.refl _ _) | exact HB.out))) | (apply GW.drewN; exact hG_) | (apply GW.drew; exact hG_)); rintro e w26 ⟨rfl, hb⟩; have n0_ := Aside0.mk (blk_below (g := gb217) (o := .cells #[.string a0_0, .string a0_1, .int .i64 a0_2] 50 (0, 0)) z43_ hb); have n1_ := Aside0.mk (below_step z25_ hb); clear BK217; clear HB; have BK217 := n0_; have HB := n1_; clear n0_ n1_; (try clear hb); (try clear hb2); (try clear hk); (try clear hi); have hcz27_0 : w26.cell? ⟨gb217, 0, none⟩ = some (.string a0_0) := (blk_cell BK217.out 0).trans rfl; have hcz27_1 : w26.cell? ⟨gb217, 1, none⟩ = some (.string a0_1) := (blk_cell BK217.out 1).trans rfl; have hcz27_2 : w26.cell? ⟨gb217, 2, none⟩ = some (.int .i64 a0_2) := (blk_cell BK217.out 2).trans rfl; have hfz27_0 := blk_frozen BK217.out 0; have hfz27_1 := blk_frozen BK217.out 1; have hfz27_2 := blk_frozen BK217.out 2) | (go_at_call 23; (fail_if_success (have z_ := U_47)); have U_47 := trivial; (with_reducible refine (pursuivantref05_Default.calls a0_0 t220 _ ?gw121_ A11.out).mono ?_); (case gw121_ => first | exact hG_ | (refine GW.below hG_ ?_; first | (with_reducible exact HB.out) | (repeat (first | (with_reducible first | exact HB.out | apply below_alloc | apply pw_below_drewN | apply below_drew1 | apply below_drew | exact Below.refl _ _) | exact HB.out))) | (apply GW.drewN; exact hG_) | (apply GW.drew; exact hG_)); rintro e w' ⟨rfl, ⟨nd, rfl⟩⟩; (try first | exact ⟨rfl, _, World.drewN_drewN _ _ _⟩ | exact ⟨rfl, _, Eq.trans (World.drewN_drewN _ _ _) (congrArg (World.drewN _) (Nat.add_assoc _ _ _))⟩)) | (go_at_call 90; (fail_if_success (have z_ := U_48)); have U_48 := trivial; (with_reducible refine (pursuivantref06_Digits.calls k a0_2 t221 _ ?gw122_ A19.out).mono ?_); (case gw122_ => first | exact hG_ | (refine GW.below hG_ ?_; first | (with_reducible exact HB.out) | (repeat (first | (with_reducible first | exact HB.out | apply below_alloc | apply pw_below_drewN | apply below_drew1 | apply below_drew | exact Below.refl _ _) | exact HB.out))) | (apply GW.drewN; exact hG_) | (apply GW.drew; exact hG_)); rintro e w28 ⟨rfl, hb⟩; have n0_ := Aside0.mk (blk_below (g := gb217) (o := .cells #[.string a0_0, .string a0_1, .int .i64 a0_2] 50 (0, 0)) z43_ hb); have n1_ := Aside0.mk (below_step z25_ hb); clear BK217; clear HB; have BK217 := n0_; have HB := n1_; clear n0_ n1_; (try clear hb); (try clear hb2); (try clear hk); (try clear hi)))
        repeat (go_quiet (first | ((with_reducible refine gate_dst (N := 1) rfl ?_); refine box_event ?hg (N := 1) ?hd (cs := #[.string a0_0, .string a0_1, .int .i64 a0_2]) (t := 50) ?hr ?_; (case hd => rfl); (case hg => rfl); (case hr => first | (go_simp; done) | (go_simp; rfl)); intro gb217 hg w22 hbox hb; have n0_ := Aside0.mk (below_step z39_ hb); have n1_ := Aside0.mk (hbox); have n2_ := Aside0.mk ((by rw [hg]; exact (below_size z39_) : w.heap.size ≤ gb217)); have n3_ := Aside0.mk ((by rw [hg]; exact (below_size z39_) : w.heap.size ≤ gb217)); clear HB; have HB := n0_; have BK217 := n1_; have GW217 := n2_; have GE217 := n3_; clear n0_ n1_ n2_ n3_; clear hb hbox hg; have hcz23_0 : w22.cell? ⟨gb217, 0, none⟩ = some (.string a0_0) := (blk_cell BK217.out 0).trans rfl; have hcz23_1 : w22.cell? ⟨gb217, 1, none⟩ = some (.string a0_1) := (blk_cell BK217.out 1).trans rfl; have hcz23_2 : w22.cell? ⟨gb217, 2, none⟩ = some (.int .i64 a0_2) := (blk_cell BK217.out 2).trans rfl; have hfz23_0 := blk_frozen BK217.out 0; have hfz23_1 := blk_frozen BK217.out 1; have hfz23_2 := blk_frozen BK217.out 2) | (go_at_call 88; (fail_if_success (have z_ := U_49)); have U_49 := trivial; (with_reducible refine (pursuivantref08_Nobody.calls a0_0 a0_1 a0_2 false _ ?gw123_ A2.out).mono ?_); (case gw123_ => first | exact hG_ | (refine GW.below hG_ ?_; first | (with_reducible exact HB.out) | (repeat (first | (with_reducible first | exact HB.out | apply below_alloc | apply pw_below_drewN | apply below_drew1 | apply below_drew | exact Below.refl _ _) | exact HB.out))) | (apply GW.drewN; exact hG_) | (apply GW.drew; exact hG_)); rintro e w24 ⟨rfl, hb⟩; have n0_ := Aside0.mk (blk_below (g := gb217) (o := .cells #[.string a0_0, .string a0_1, .int .i64 a0_2] 50 (0, 0)) z43_ hb); have n1_ := Aside0.mk (below_step z25_ hb); clear BK217; clear HB; have BK217 := n0_; have HB := n1_; clear n0_ n1_; (try clear hb); (try clear hb2); (try clear hk); (try clear hi); have hcz25_0 : w24.cell? ⟨gb217, 0, none⟩ = some (.string a0_0) := (blk_cell BK217.out 0).trans rfl; have hcz25_1 : w24.cell? ⟨gb217, 1, none⟩ = some (.string a0_1) := (blk_cell BK217.out 1).trans rfl; have hcz25_2 : w24.cell? ⟨gb217, 2, none⟩ = some (.int .i64 a0_2) := (blk_cell BK217.out 2).trans rfl; have hfz25_0 := blk_frozen BK217.out 0; have hfz25_1 := blk_frozen BK217.out 1; have hfz25_2 := blk_frozen BK217.out 2) | (go_at_call 49; (fail_if_success (have z_ := U_50)); have U_50 := trivial; (with_reducible refine (pursuivantref08_Good.calls k a0_0 a0_1 a0_2 true _ ?gw124_ A7.out).mono ?_); (case gw124_ => first | exact hG_ | (refine GW.below hG_ ?_; first | (with_reducible exact HB.out) | (repeat (first | (with_reducible first | exact HB.out | apply below_alloc | apply pw_below_drewN | apply below_drew1 | apply below_drew | exact Below.refl _ _) | exact HB.out))) | (apply GW.drewN; exact hG_) | (apply GW.drew; exact hG_)); rintro e w26 ⟨rfl, hb⟩; have n0_ := Aside0.mk (blk_below (g := gb217) (o := .cells #[.string a0_0, .string a0_1, .int .i64 a0_2] 50 (0, 0)) z43_ hb); have n1_ := Aside0.mk (below_step z25_ hb); clear BK217; clear HB; have BK217 := n0_; have HB := n1_; clear n0_ n1_; (try clear hb); (try clear hb2); (try clear hk); (try clear hi); have hcz27_0 : w26.cell? ⟨gb217, 0, none⟩ = some (.string a0_0) := (blk_cell BK217.out 0).trans rfl; have hcz27_1 : w26.cell? ⟨gb217, 1, none⟩ = some (.string a0_1) := (blk_cell BK217.out 1).trans rfl; have hcz27_2 : w26.cell? ⟨gb217, 2, none⟩ = some (.int .i64 a0_2) := (blk_cell BK217.out 2).trans rfl; have hfz27_0 := blk_frozen BK217.out 0; have hfz27_1 := blk_frozen BK217.out 1; have hfz27_2 := blk_frozen BK217.out 2) | (go_at_call 23; (fail_if_success (have z_ := U_51)); have U_51 := trivial; (with_reducible refine (pursuivantref05_Default.calls a0_0 t220 _ ?gw125_ A11.out).mono ?_); (case gw125_ => first | exact hG_ | (refine GW.below hG_ ?_; first | (with_reducible exact HB.out) | (repeat (first | (with_reducible first | exact HB.out | apply below_alloc | apply pw_below_drewN | apply below_drew1 | apply below_drew | exact Below.refl _ _) | exact HB.out))) | (apply GW.drewN; exact hG_) | (apply GW.drew; exact hG_)); rintro e w' ⟨rfl, ⟨nd, rfl⟩⟩; (try first | exact ⟨rfl, _, World.drewN_drewN _ _ _⟩ | exact ⟨rfl, _, Eq.trans (World.drewN_drewN _ _ _) (congrArg (World.drewN _) (Nat.add_assoc _ _ _))⟩)) | (go_at_call 90; (fail_if_success (have z_ := U_52)); have U_52 := trivial; (with_reducible refine (pursuivantref06_Digits.calls k a0_2 t221 _ ?gw126_ A19.out).mono ?_); (case gw126_ => first | exact hG_ | (refine GW.below hG_ ?_; first | (with_reducible exact HB.out) | (repeat (first | (with_reducible first | exact HB.out | apply below_alloc | apply pw_below_drewN | apply below_drew1 | apply below_drew | exact Below.refl _ _) | exact HB.out))) | (apply GW.drewN; exact hG_) | (apply GW.drew; exact hG_)); rintro e w28 ⟨rfl, hb⟩; have n0_ := Aside0.mk (blk_below (g := gb217) (o := .cells #[.string a0_0, .string a0_1, .int .i64 a0_2] 50 (0, 0)) z43_ hb); have n1_ := Aside0.mk (below_step z25_ hb); clear BK217; clear HB; have BK217 := n0_; have HB := n1_; clear n0_ n1_; (try clear hb); (try clear hb2); (try clear hk); (try clear hi))); try go_wp2_with (first | ((with_reducible refine gate_dst (N := 1) rfl ?_); refine box_event ?hg (N := 1) ?hd (cs := #[.string a0_0, .string a0_1, .int .i64 a0_2]) (t := 50) ?hr ?_; (case hd => rfl); (case hg => rfl); (case hr => first | (go_simp; done) | (go_simp; rfl)); intro gb217 hg w22 hbox hb; have n0_ := Aside0.mk (below_step z39_ hb); have n1_ := Aside0.mk (hbox); have n2_ := Aside0.mk ((by rw [hg]; exact (below_size z39_) : w.heap.size ≤ gb217)); have n3_ := Aside0.mk ((by rw [hg]; exact (below_size z39_) : w.heap.size ≤ gb217)); clear HB; have HB := n0_; have BK217 := n1_; have GW217 := n2_; have GE217 := n3_; clear n0_ n1_ n2_ n3_; clear hb hbox hg; have hcz23_0 : w22.cell? ⟨gb217, 0, none⟩ = some (.string a0_0) := (blk_cell BK217.out 0).trans rfl; have hcz23_1 : w22.cell? ⟨gb217, 1, none⟩ = some (.string a0_1) := (blk_cell BK217.out 1).trans rfl; have hcz23_2 : w22.cell? ⟨gb217, 2, none⟩ = some (.int .i64 a0_2) := (blk_cell BK217.out 2).trans rfl; have hfz23_0 := blk_frozen BK217.out 0; have hfz23_1 := blk_frozen BK217.out 1; have hfz23_2 := blk_frozen BK217.out 2) | (go_at_call 88; (fail_if_success (have z_ := U_53)); have U_53 := trivial; (with_reducible refine (pursuivantref08_Nobody.calls a0_0 a0_1 a0_2 false _ ?gw127_ A2.out).mono ?_); (case gw127_ => first | exact hG_ | (refine GW.below hG_ ?_; first | (with_reducible exact HB.out) | (repeat (first | (with_reducible first | exact HB.out | apply below_alloc | apply pw_below_drewN | apply below_drew1 | apply below_drew | exact Below.refl _ _) | exact HB.out))) | (apply GW.drewN; exact hG_) | (apply GW.drew; exact hG_)); rintro e w24 ⟨rfl, hb⟩; have n0_ := Aside0.mk (blk_below (g := gb217) (o := .cells #[.string a0_0, .string a0_1, .int .i64 a0_2] 50 (0, 0)) z43_ hb); have n1_ := Aside0.mk (below_step z25_ hb); clear BK217; clear HB; have BK217 := n0_; have HB := n1_; clear n0_ n1_; (try clear hb); (try clear hb2); (try clear hk); (try clear hi); have hcz25_0 : w24.cell? ⟨gb217, 0, none⟩ = some (.string a0_0) := (blk_cell BK217.out 0).trans rfl; have hcz25_1 : w24.cell? ⟨gb217, 1, none⟩ = some (.string a0_1) := (blk_cell BK217.out 1).trans rfl; have hcz25_2 : w24.cell? ⟨gb217, 2, none⟩ = some (.int .i64 a0_2) := (blk_cell BK217.out 2).trans rfl; have hfz25_0 := blk_frozen BK217.out 0; have hfz25_1 := blk_frozen BK217.out 1; have hfz25_2 := blk_frozen BK217.out 2) | (go_at_call 49; (fail_if_success (have z_ := U_54)); have U_54 := trivial; (with_reducible refine (pursuivantref08_Good.calls k a0_0 a0_1 a0_2 true _ ?gw128_ A7.out).mono ?_); (case gw128_ => first | exact hG_ | (refine GW.below hG_ ?_; first | (with_reducible exact HB.out) | (repeat (first | (with_reducible first | exact HB.out | apply below_alloc | apply pw_below_drewN | apply below_drew1 | apply below_drew | exact Below.refl _ _) | exact HB.out))) | (apply GW.drewN; exact hG_) | (apply GW.drew; exact hG_)); rintro e w26 ⟨rfl, hb⟩; have n0_ := Aside0.mk (blk_below (g := gb217) (o := .cells #[.string a0_0, .string a0_1, .int .i64 a0_2] 50 (0, 0)) z43_ hb); have n1_ := Aside0.mk (below_step z25_ hb); clear BK217; clear HB; have BK217 := n0_; have HB := n1_; clear n0_ n1_; (try clear hb); (try clear hb2); (try clear hk); (try clear hi); have hcz27_0 : w26.cell? ⟨gb217, 0, none⟩ = some (.string a0_0) := (blk_cell BK217.out 0).trans rfl; have hcz27_1 : w26.cell? ⟨gb217, 1, none⟩ = some (.string a0_1) := (blk_cell BK217.out 1).trans rfl; have hcz27_2 : w26.cell? ⟨gb217, 2, none⟩ = some (.int .i64 a0_2) := (blk_cell BK217.out 2).trans rfl; have hfz27_0 := blk_frozen BK217.out 0; have hfz27_1 := blk_frozen BK217.out 1; have hfz27_2 := blk_frozen BK217.out 2) | (go_at_call 23; (fail_if_success (have z_ := U_55)); have U_55 := trivial; (with_reducible refine (pursuivantref05_Default.calls a0_0 t220 _ ?gw129_ A11.out).mono ?_); (case gw129_ => first | exact hG_ | (refine GW.below hG_ ?_; first | (with_reducible exact HB.out) | (repeat (first | (with_reducible first | exact HB.out | apply below_alloc | apply pw_below_drewN | apply below_drew1 | apply below_drew | exact Below.refl _ _) | exact HB.out))) | (apply GW.drewN; exact hG_) | (apply GW.drew; exact hG_)); rintro e w' ⟨rfl, ⟨nd, rfl⟩⟩; (try first | exact ⟨rfl, _, World.drewN_drewN _ _ _⟩ | exact ⟨rfl, _, Eq.trans (World.drewN_drewN _ _ _) (congrArg (World.drewN _) (Nat.add_assoc _ _ _))⟩)) | (go_at_call 90; (fail_if_success (have z_ := U_56)); have U_56 := trivial; (with_reducible refine (pursuivantref06_Digits.calls k a0_2 t221 _ ?gw130_ A19.out).mono ?_); (case gw130_ => first | exact hG_ | (refine GW.below hG_ ?_; first | (with_reducible exact HB.out) | (repeat (first | (with_reducible first | exact HB.out | apply below_alloc | apply pw_below_drewN | apply below_drew1 | apply below_drew | exact Below.refl _ _) | exact HB.out))) | (apply GW.drewN; exact hG_) | (apply GW.drew; exact hG_)); rintro e w28 ⟨rfl, hb⟩; have n0_ := Aside0.mk (blk_below (g := gb217) (o := .cells #[.string a0_0, .string a0_1, .int .i64 a0_2] 50 (0, 0)) z43_ hb); have n1_ := Aside0.mk (below_step z25_ hb); clear BK217; clear HB; have BK217 := n0_; have HB := n1_; clear n0_ n1_; (try clear hb); (try clear hb2); (try clear hk); (try clear hi))))
        go_ret
        exact ⟨z40_, z25_⟩
       ·rw [if_neg c21] at H
        exact absurd H (by simp)
      ·rw [if_neg c20] at H
       exact absurd H (by simp)
    ·rw [if_neg c10] at H
     exact absurd H (by simp)
   ·rw [if_neg c9] at H
    exact absurd H (by simp)
  ·replace c8 := Bool.eq_false_iff.mpr c8
   subst c8
   have H1 : (some (⟨#[]⟩ : ByteArray)) = some r := by rw [if_neg (show ¬ (false = true) by decide)] at H; exact H
   clear H
   have H := H1
   clear H1
   obtain rfl := Option.some.inj H
   go_enter Tryd.func51, Tryd.ntmps51
   go_wp2_with (first | ((with_reducible refine gate_dst (N := 1) rfl ?_); refine box_event ?hg (N := 1) ?hd (cs := #[.string a0_0, .string a0_1, .int .i64 a0_2]) (t := 50) ?hr ?_; (case hd => rfl); (case hg => rfl); (case hr => first | (go_simp; done) | (go_simp; rfl)); intro gb217 hg w29 hbox hb; have n0_ := Aside0.mk (below_step z39_ hb); have n1_ := Aside0.mk (hbox); have n2_ := Aside0.mk ((by rw [hg]; exact (below_size z39_) : w.heap.size ≤ gb217)); have n3_ := Aside0.mk ((by rw [hg]; exact (below_size z39_) : w.heap.size ≤ gb217)); clear HB; have HB := n0_; have BK217 := n1_; have GW217 := n2_; have GE217 := n3_; clear n0_ n1_ n2_ n3_; clear hb hbox hg; have hcz30_0 : w29.cell? ⟨gb217, 0, none⟩ = some (.string a0_0) := (blk_cell BK217.out 0).trans rfl; have hcz30_1 : w29.cell? ⟨gb217, 1, none⟩ = some (.string a0_1) := (blk_cell BK217.out 1).trans rfl; have hcz30_2 : w29.cell? ⟨gb217, 2, none⟩ = some (.int .i64 a0_2) := (blk_cell BK217.out 2).trans rfl; have hfz30_0 := blk_frozen BK217.out 0; have hfz30_1 := blk_frozen BK217.out 1; have hfz30_2 := blk_frozen BK217.out 2) | (go_at_call 88; (fail_if_success (have z_ := U_57)); have U_57 := trivial; (with_reducible refine (pursuivantref08_Nobody.calls a0_0 a0_1 a0_2 false _ ?gw131_ A2.out).mono ?_); (case gw131_ => first | exact hG_ | (refine GW.below hG_ ?_; first | (with_reducible exact HB.out) | (repeat (first | (with_reducible first | exact HB.out | apply below_alloc | apply pw_below_drewN | apply below_drew1 | apply below_drew | exact Below.refl _ _) | exact HB.out))) | (apply GW.drewN; exact hG_) | (apply GW.drew; exact hG_)); rintro e w31 ⟨rfl, hb⟩; have n0_ := Aside0.mk (blk_below (g := gb217) (o := .cells #[.string a0_0, .string a0_1, .int .i64 a0_2] 50 (0, 0)) z43_ hb); have n1_ := Aside0.mk (below_step z25_ hb); clear BK217; clear HB; have BK217 := n0_; have HB := n1_; clear n0_ n1_; (try clear hb); (try clear hb2); (try clear hk); (try clear hi); have hcz32_0 : w31.cell? ⟨gb217, 0, none⟩ = some (.string a0_0) := (blk_cell BK217.out 0).trans rfl; have hcz32_1 : w31.cell? ⟨gb217, 1, none⟩ = some (.string a0_1) := (blk_cell BK217.out 1).trans rfl; have hcz32_2 : w31.cell? ⟨gb217, 2, none⟩ = some (.int .i64 a0_2) := (blk_cell BK217.out 2).trans rfl; have hfz32_0 := blk_frozen BK217.out 0; have hfz32_1 := blk_frozen BK217.out 1; have hfz32_2 := blk_frozen BK217.out 2) | (go_at_call 49; (fail_if_success (have z_ := U_58)); have U_58 := trivial; (with_reducible refine (pursuivantref08_Good.calls k a0_0 a0_1 a0_2 false _ ?gw132_ A7.out).mono ?_); (case gw132_ => first | exact hG_ | (refine GW.below hG_ ?_; first | (with_reducible exact HB.out) | (repeat (first | (with_reducible first | exact HB.out | apply below_alloc | apply pw_below_drewN | apply below_drew1 | apply below_drew | exact Below.refl _ _) | exact HB.out))) | (apply GW.drewN; exact hG_) | (apply GW.drew; exact hG_)); rintro e w33 ⟨rfl, hb⟩; have n0_ := Aside0.mk (blk_below (g := gb217) (o := .cells #[.string a0_0, .string a0_1, .int .i64 a0_2] 50 (0, 0)) z43_ hb); have n1_ := Aside0.mk (below_step z25_ hb); clear BK217; clear HB; have BK217 := n0_; have HB := n1_; clear n0_ n1_; (try clear hb); (try clear hb2); (try clear hk); (try clear hi)))
   repeat (go_quiet (first | ((with_reducible refine gate_dst (N := 1) rfl ?_); refine box_event ?hg (N := 1) ?hd (cs := #[.string a0_0, .string a0_1, .int .i64 a0_2]) (t := 50) ?hr ?_; (case hd => rfl); (case hg => rfl); (case hr => first | (go_simp; done) | (go_simp; rfl)); intro gb217 hg w29 hbox hb; have n0_ := Aside0.mk (below_step z39_ hb); have n1_ := Aside0.mk (hbox); have n2_ := Aside0.mk ((by rw [hg]; exact (below_size z39_) : w.heap.size ≤ gb217)); have n3_ := Aside0.mk ((by rw [hg]; exact (below_size z39_) : w.heap.size ≤ gb217)); clear HB; have HB := n0_; have BK217 := n1_; have GW217 := n2_; have GE217 := n3_; clear n0_ n1_ n2_ n3_; clear hb hbox hg; have hcz30_0 : w29.cell? ⟨gb217, 0, none⟩ = some (.string a0_0) := (blk_cell BK217.out 0).trans rfl; have hcz30_1 : w29.cell? ⟨gb217, 1, none⟩ = some (.string a0_1) := (blk_cell BK217.out 1).trans rfl; have hcz30_2 : w29.cell? ⟨gb217, 2, none⟩ = some (.int .i64 a0_2) := (blk_cell BK217.out 2).trans rfl; have hfz30_0 := blk_frozen BK217.out 0; have hfz30_1 := blk_frozen BK217.out 1; have hfz30_2 := blk_frozen BK217.out 2) | (go_at_call 88; (fail_if_success (have z_ := U_59)); have U_59 := trivial; (with_reducible refine (pursuivantref08_Nobody.calls a0_0 a0_1 a0_2 false _ ?gw133_ A2.out).mono ?_); (case gw133_ => first | exact hG_ | (refine GW.below hG_ ?_; first | (with_reducible exact HB.out) | (repeat (first | (with_reducible first | exact HB.out | apply below_alloc | apply pw_below_drewN | apply below_drew1 | apply below_drew | exact Below.refl _ _) | exact HB.out))) | (apply GW.drewN; exact hG_) | (apply GW.drew; exact hG_)); rintro e w31 ⟨rfl, hb⟩; have n0_ := Aside0.mk (blk_below (g := gb217) (o := .cells #[.string a0_0, .string a0_1, .int .i64 a0_2] 50 (0, 0)) z43_ hb); have n1_ := Aside0.mk (below_step z25_ hb); clear BK217; clear HB; have BK217 := n0_; have HB := n1_; clear n0_ n1_; (try clear hb); (try clear hb2); (try clear hk); (try clear hi); have hcz32_0 : w31.cell? ⟨gb217, 0, none⟩ = some (.string a0_0) := (blk_cell BK217.out 0).trans rfl; have hcz32_1 : w31.cell? ⟨gb217, 1, none⟩ = some (.string a0_1) := (blk_cell BK217.out 1).trans rfl; have hcz32_2 : w31.cell? ⟨gb217, 2, none⟩ = some (.int .i64 a0_2) := (blk_cell BK217.out 2).trans rfl; have hfz32_0 := blk_frozen BK217.out 0; have hfz32_1 := blk_frozen BK217.out 1; have hfz32_2 := blk_frozen BK217.out 2) | (go_at_call 49; (fail_if_success (have z_ := U_60)); have U_60 := trivial; (with_reducible refine (pursuivantref08_Good.calls k a0_0 a0_1 a0_2 false _ ?gw134_ A7.out).mono ?_); (case gw134_ => first | exact hG_ | (refine GW.below hG_ ?_; first | (with_reducible exact HB.out) | (repeat (first | (with_reducible first | exact HB.out | apply below_alloc | apply pw_below_drewN | apply below_drew1 | apply below_drew | exact Below.refl _ _) | exact HB.out))) | (apply GW.drewN; exact hG_) | (apply GW.drew; exact hG_)); rintro e w33 ⟨rfl, hb⟩; have n0_ := Aside0.mk (blk_below (g := gb217) (o := .cells #[.string a0_0, .string a0_1, .int .i64 a0_2] 50 (0, 0)) z43_ hb); have n1_ := Aside0.mk (below_step z25_ hb); clear BK217; clear HB; have BK217 := n0_; have HB := n1_; clear n0_ n1_; (try clear hb); (try clear hb2); (try clear hk); (try clear hi))); try go_wp2_with (first | ((with_reducible refine gate_dst (N := 1) rfl ?_); refine box_event ?hg (N := 1) ?hd (cs := #[.string a0_0, .string a0_1, .int .i64 a0_2]) (t := 50) ?hr ?_; (case hd => rfl); (case hg => rfl); (case hr => first | (go_simp; done) | (go_simp; rfl)); intro gb217 hg w29 hbox hb; have n0_ := Aside0.mk (below_step z39_ hb); have n1_ := Aside0.mk (hbox); have n2_ := Aside0.mk ((by rw [hg]; exact (below_size z39_) : w.heap.size ≤ gb217)); have n3_ := Aside0.mk ((by rw [hg]; exact (below_size z39_) : w.heap.size ≤ gb217)); clear HB; have HB := n0_; have BK217 := n1_; have GW217 := n2_; have GE217 := n3_; clear n0_ n1_ n2_ n3_; clear hb hbox hg; have hcz30_0 : w29.cell? ⟨gb217, 0, none⟩ = some (.string a0_0) := (blk_cell BK217.out 0).trans rfl; have hcz30_1 : w29.cell? ⟨gb217, 1, none⟩ = some (.string a0_1) := (blk_cell BK217.out 1).trans rfl; have hcz30_2 : w29.cell? ⟨gb217, 2, none⟩ = some (.int .i64 a0_2) := (blk_cell BK217.out 2).trans rfl; have hfz30_0 := blk_frozen BK217.out 0; have hfz30_1 := blk_frozen BK217.out 1; have hfz30_2 := blk_frozen BK217.out 2) | (go_at_call 88; (fail_if_success (have z_ := U_61)); have U_61 := trivial; (with_reducible refine (pursuivantref08_Nobody.calls a0_0 a0_1 a0_2 false _ ?gw135_ A2.out).mono ?_); (case gw135_ => first | exact hG_ | (refine GW.below hG_ ?_; first | (with_reducible exact HB.out) | (repeat (first | (with_reducible first | exact HB.out | apply below_alloc | apply pw_below_drewN | apply below_drew1 | apply below_drew | exact Below.refl _ _) | exact HB.out))) | (apply GW.drewN; exact hG_) | (apply GW.drew; exact hG_)); rintro e w31 ⟨rfl, hb⟩; have n0_ := Aside0.mk (blk_below (g := gb217) (o := .cells #[.string a0_0, .string a0_1, .int .i64 a0_2] 50 (0, 0)) z43_ hb); have n1_ := Aside0.mk (below_step z25_ hb); clear BK217; clear HB; have BK217 := n0_; have HB := n1_; clear n0_ n1_; (try clear hb); (try clear hb2); (try clear hk); (try clear hi); have hcz32_0 : w31.cell? ⟨gb217, 0, none⟩ = some (.string a0_0) := (blk_cell BK217.out 0).trans rfl; have hcz32_1 : w31.cell? ⟨gb217, 1, none⟩ = some (.string a0_1) := (blk_cell BK217.out 1).trans rfl; have hcz32_2 : w31.cell? ⟨gb217, 2, none⟩ = some (.int .i64 a0_2) := (blk_cell BK217.out 2).trans rfl; have hfz32_0 := blk_frozen BK217.out 0; have hfz32_1 := blk_frozen BK217.out 1; have hfz32_2 := blk_frozen BK217.out 2) | (go_at_call 49; (fail_if_success (have z_ := U_62)); have U_62 := trivial; (with_reducible refine (pursuivantref08_Good.calls k a0_0 a0_1 a0_2 false _ ?gw136_ A7.out).mono ?_); (case gw136_ => first | exact hG_ | (refine GW.below hG_ ?_; first | (with_reducible exact HB.out) | (repeat (first | (with_reducible first | exact HB.out | apply below_alloc | apply pw_below_drewN | apply below_drew1 | apply below_drew | exact Below.refl _ _) | exact HB.out))) | (apply GW.drewN; exact hG_) | (apply GW.drew; exact hG_)); rintro e w33 ⟨rfl, hb⟩; have n0_ := Aside0.mk (blk_below (g := gb217) (o := .cells #[.string a0_0, .string a0_1, .int .i64 a0_2] 50 (0, 0)) z43_ hb); have n1_ := Aside0.mk (below_step z25_ hb); clear BK217; clear HB; have BK217 := n0_; have HB := n1_; clear n0_ n1_; (try clear hb); (try clear hb2); (try clear hk); (try clear hi))))
   go_ret
   exact ⟨z40_, z25_⟩

def url_clean.l0 : Nat → ByteArray → ByteArray → Int → Int → Option (Bool)
 | 0, _, _, _, _ => none
 | k + 1, x0, x1, x7, x8 => if x8 < x7 then (if 0 ≤ x8 then (if x8 < (x0.size : Int) then (if (bt x0 x8) < 33 then (some false) else (if (bt x0 x8) > 126 then (some false) else ((strings_IndexByte.f x1 (bt x0 x8)).bind fun t222 => (if t222 ≥ 0 then (some false) else (url_clean.l0 k x0 x1 x7 (wrap64 (x8 + 1))))))) else (none)) else (none)) else (some true)
def url_clean.f (k : Nat) (a0 a1 : ByteArray) : Option (Bool) := url_clean.l0 k a0 a1 (a0.size : Int) 0
set_option maxHeartbeats 8000000 in
set_option maxRecDepth 100000 in
theorem url_clean.calls (k : Nat) (a0 a1 : ByteArray) (r : Bool) (w : World) (hG_ : GW w) (h : url_clean.f k a0 a1 = some r) :
  Calls Tryd.prog 83 #[.string a0, .string a1] w fun e w' => e = .returned (.bool r) ∧ Drawn0 w w' := by
 have H : (url_clean.l0 k a0 a1 (a0.size : Int) 0) = some r := h
 clear h
 have H' := Aside0.mk H
 clear H
 go_enter Tryd.func83, Tryd.ntmps83
 go_wp2
 go_loopg [8] k (fun kq v8 w' => ∃ (x8_1 : Int), v8 = .int .i64 x8_1 ∧ Aside0 (url_clean.l0 kq a0 a1 (a0.size : Int) x8_1 = some r) ∧ Aside0 (kq ≤ k) ∧ Drawn0 w w')
 case atStart => exact ⟨(0), z62_, H', ⟨Nat.le_refl _⟩, z64_⟩
 case round =>
  clear H'; (try clear p2)
  obtain ⟨x8_1, rfl, HA, HK1, ⟨m1, rfl⟩⟩ := hrel
  cases gk with
  | zero => exact absurd HA.out (by simp [url_clean.l0])
  | succ k1 =>
   have H := HA.out
   clear HA
   simp only [url_clean.l0] at H
   by_cases c3 : x8_1 < (a0.size : Int)
   ·rw [if_pos c3] at H
    have c3b0 : decide (x8_1 < (a0.size : Int)) = true := decide_eq_true c3; clear c3
    by_cases c4 : 0 ≤ x8_1
    ·rw [if_pos c4] at H
     have c4b0 : decide (0 ≤ x8_1) = true := decide_eq_true c4; clear c4
     by_cases c5 : x8_1 < (a0.size : Int)
     ·rw [if_pos c5] at H
      have c5b0 : decide (x8_1 < (a0.size : Int)) = true := decide_eq_true c5; clear c5
      by_cases c7 : (bt a0 x8_1) < 33
      ·rw [if_pos c7] at H
       have c7b0 : decide ((bt a0 x8_1) < 33) = true := decide_eq_true c7; clear c7
       obtain rfl := Option.some.inj H
       have p6 : 0 ≤ (x8_1 : Int) := of_decide_eq_true z66_
       have q6 : x8_1 < (a0.size : Int) := of_decide_eq_true z66_
       have hx6 := bt_at a0 x8_1
       replace p6 := eq_true p6
       replace q6 := eq_true q6
       go_wp2
       go_ret
       exact ⟨z62_, z64_⟩
      ·rw [if_neg c7] at H
       have c7b0 : decide ((bt a0 x8_1) < 33) = false := decide_eq_false c7; clear c7
       by_cases c9 : (bt a0 x8_1) > 126
       ·rw [if_pos c9] at H
        have c9b0 : decide (126 < (bt a0 x8_1)) = true := decide_eq_true c9; clear c9
        obtain rfl := Option.some.inj H
        have p6 : 0 ≤ (x8_1 : Int) := of_decide_eq_true z66_
        have q6 : x8_1 < (a0.size : Int) := of_decide_eq_true z66_
        have hx6 := bt_at a0 x8_1
        replace p6 := eq_true p6
        replace q6 := eq_true q6
        have p8 : 0 ≤ (x8_1 : Int) := of_decide_eq_true z66_
        have q8 : x8_1 < (a0.size : Int) := of_decide_eq_true z66_
        have hx8 := bt_at a0 x8_1
        replace p8 := eq_true p8
        replace q8 := eq_true q8
        go_wp2
        go_ret
        exact ⟨z62_, z64_⟩
       ·rw [if_neg c9] at H
        have c9b0 : decide (126 < (bt a0 x8_1)) = false := decide_eq_false c9; clear c9
        replace H := Option.bind_eq_some_iff.mp H
        obtain ⟨t222, A110, H⟩ := H
        replace H : (if t222 ≥ 0 then (some false) else (url_clean.l0 k1 a0 a1 (a0.size : Int) (wrap64 (x8_1 + 1)))) = some r := H
        have A11 := Aside0.mk A110; clear A110
        by_cases c12 : t222 ≥ 0
        ·rw [if_pos c12] at H
         have c12b0 : decide (0 ≤ t222) = true := decide_eq_true c12; clear c12
         obtain rfl := Option.some.inj H
         have p6 : 0 ≤ (x8_1 : Int) := of_decide_eq_true z66_
         have q6 : x8_1 < (a0.size : Int) := of_decide_eq_true z66_
         have hx6 := bt_at a0 x8_1
         replace p6 := eq_true p6
         replace q6 := eq_true q6
         have p8 : 0 ≤ (x8_1 : Int) := of_decide_eq_true z66_
         have q8 : x8_1 < (a0.size : Int) := of_decide_eq_true z66_
         have hx8 := bt_at a0 x8_1
         replace p8 := eq_true p8
         replace q8 := eq_true q8
         have p10 : 0 ≤ (x8_1 : Int) := of_decide_eq_true z66_
         have q10 : x8_1 < (a0.size : Int) := of_decide_eq_true z66_
         have hx10 := bt_at a0 x8_1
         replace p10 := eq_true p10
         replace q10 := eq_true q10
         go_wp2_with (first | (go_at_call 80; (fail_if_success (have z_ := U_63)); have U_63 := trivial; (with_reducible refine (strings_IndexByte.calls a1 (bt a0 x8_1) t222 _ ?gw137_ A11.out).mono ?_); (case gw137_ => first | exact hG_ | (refine GW.below hG_ ?_; first | (with_reducible exact HB.out) | (repeat (first | (with_reducible first | exact HB.out | apply below_alloc | apply pw_below_drewN | apply below_drew1 | apply below_drew | exact Below.refl _ _) | exact HB.out))) | (apply GW.drewN; exact hG_) | (apply GW.drew; exact hG_)); rintro e w' ⟨rfl, ⟨nd, rfl⟩⟩))
         go_ret
         exact ⟨z62_, z64_⟩
        ·rw [if_neg c12] at H
         have c12b0 : decide (0 ≤ t222) = false := decide_eq_false c12; clear c12
         have H' := Aside0.mk H
         clear H
         have p6 : 0 ≤ (x8_1 : Int) := of_decide_eq_true z66_
         have q6 : x8_1 < (a0.size : Int) := of_decide_eq_true z66_
         have hx6 := bt_at a0 x8_1
         replace p6 := eq_true p6
         replace q6 := eq_true q6
         have p8 : 0 ≤ (x8_1 : Int) := of_decide_eq_true z66_
         have q8 : x8_1 < (a0.size : Int) := of_decide_eq_true z66_
         have hx8 := bt_at a0 x8_1
         replace p8 := eq_true p8
         replace q8 := eq_true q8
         have p10 : 0 ≤ (x8_1 : Int) := of_decide_eq_true z66_
         have q10 : x8_1 < (a0.size : Int) := of_decide_eq_true z66_
         have hx10 := bt_at a0 x8_1
         replace p10 := eq_true p10
         replace q10 := eq_true q10
         go_wp2_with (first | (go_at_call 80; (fail_if_success (have z_ := U_64)); have U_64 := trivial; (with_reducible refine (strings_IndexByte.calls a1 (bt a0 x8_1) t222 _ ?gw138_ A11.out).mono ?_); (case gw138_ => first | exact hG_ | (refine GW.below hG_ ?_; first | (with_reducible exact HB.out) | (repeat (first | (with_reducible first | exact HB.out | apply below_alloc | apply pw_below_drewN | apply below_drew1 | apply below_drew | exact Below.refl _ _) | exact HB.out))) | (apply GW.drewN; exact hG_) | (apply GW.drew; exact hG_)); rintro e w' ⟨rfl, ⟨nd, rfl⟩⟩))
         go_roundg k1
         case measure => have := HK1.out; omega
         case rel => exact ⟨(wrap64 (x8_1 + 1)), z62_, H', ⟨z69_⟩, z64_⟩
     ·rw [if_neg c5] at H
      exact absurd H (by simp)
    ·rw [if_neg c4] at H
     exact absurd H (by simp)
   ·rw [if_neg c3] at H
    have c3b0 : decide (x8_1 < (a0.size : Int)) = false := decide_eq_false c3; clear c3
    obtain rfl := Option.some.inj H
    go_wp2
    go_ret
    exact ⟨z62_, z64_⟩

mutual
def url_text.j0 : Nat → ByteArray → ByteArray → ByteArray → ByteArray → Int → ByteArray → Bool → ByteArray → Bool → ByteArray → Option (ByteArray)
 | 0, _, _, _, _, _, _, _, _, _, _ => none
 | k + 1, x3, x224000, x224001, x224002, x224003, x224004, x224005, x224006, x224007, x224008 => if x3.size + x224002.size ≤ 9223372036854775807 then (if x224003 = 0 then (url_text.j1 k (x3 ++ x224002) x224000 x224001 x224002 x224003 x224004 x224005 x224006 x224007 x224008) else ((strconv_Itoa.f x224003).bind fun t224 => (if 1 + t224.size ≤ 9223372036854775807 then (if (x3 ++ x224002).size + ((⟨#[58]⟩ : ByteArray) ++ t224).size ≤ 9223372036854775807 then (url_text.j1 k ((x3 ++ x224002) ++ ((⟨#[58]⟩ : ByteArray) ++ t224)) x224000 x224001 x224002 x224003 x224004 x224005 x224006 x224007 x224008) else (none)) else (none)))) else (none)
def url_text.j1 : Nat → ByteArray → ByteArray → ByteArray → ByteArray → Int → ByteArray → Bool → ByteArray → Bool → ByteArray → Option (ByteArray)
 | 0, _, _, _, _, _, _, _, _, _, _ => none
 | k + 1, x3, x224000, x224001, x224002, x224003, x224004, x224005, x224006, x224007, x224008 => if x3.size + x224004.size ≤ 9223372036854775807 then (if x224005 = true then (if 1 + x224006.size ≤ 9223372036854775807 then (if (x3 ++ x224004).size + ((⟨#[63]⟩ : ByteArray) ++ x224006).size ≤ 9223372036854775807 then (if x224007 = true then (if 1 + x224008.size ≤ 9223372036854775807 then (if ((x3 ++ x224004) ++ ((⟨#[63]⟩ : ByteArray) ++ x224006)).size + ((⟨#[35]⟩ : ByteArray) ++ x224008).size ≤ 9223372036854775807 then (some (((x3 ++ x224004) ++ ((⟨#[63]⟩ : ByteArray) ++ x224006)) ++ ((⟨#[35]⟩ : ByteArray) ++ x224008))) else (none)) else (none)) else (some ((x3 ++ x224004) ++ ((⟨#[63]⟩ : ByteArray) ++ x224006)))) else (none)) else (none)) else (if x224007 = true then (if 1 + x224008.size ≤ 9223372036854775807 then (if (x3 ++ x224004).size + ((⟨#[35]⟩ : ByteArray) ++ x224008).size ≤ 9223372036854775807 then (some ((x3 ++ x224004) ++ ((⟨#[35]⟩ : ByteArray) ++ x224008))) else (none)) else (none)) else (some (x3 ++ x224004)))) else (none)
end
def url_text.f (k : Nat) (a0_0 a0_1 a0_2 : ByteArray) (a0_3 : Int) (a0_4 : ByteArray) (a0_5 : Bool) (a0_6 : ByteArray) (a0_7 : Bool) (a0_8 : ByteArray) : Option (ByteArray) := if a0_0.size + 3 ≤ 9223372036854775807 then (if a0_1.toList = ([] : List UInt8) then (url_text.j0 k (a0_0 ++ (⟨#[58, 47, 47]⟩ : ByteArray)) a0_0 a0_1 a0_2 a0_3 a0_4 a0_5 a0_6 a0_7 a0_8) else (if a0_1.size + 1 ≤ 9223372036854775807 then (if (a0_0 ++ (⟨#[58, 47, 47]⟩ : ByteArray)).size + (a0_1 ++ (⟨#[64]⟩ : ByteArray)).size ≤ 9223372036854775807 then (url_text.j0 k ((a0_0 ++ (⟨#[58, 47, 47]⟩ : ByteArray)) ++ (a0_1 ++ (⟨#[64]⟩ : ByteArray))) a0_0 a0_1 a0_2 a0_3 a0_4 a0_5 a0_6 a0_7 a0_8) else (none)) else (none))) else (none)
set_option maxHeartbeats 8000000 in
set_option maxRecDepth 100000 in
theorem url_text.calls (k : Nat) (a0_0 a0_1 a0_2 : ByteArray) (a0_3 : Int) (a0_4 : ByteArray) (a0_5 : Bool) (a0_6 : ByteArray) (a0_7 : Bool) (a0_8 r : ByteArray) (w : World) (hG_ : GW w) (h : url_text.f k a0_0 a0_1 a0_2 a0_3 a0_4 a0_5 a0_6 a0_7 a0_8 = some r) :
  Calls Tryd.prog 84 #[.agg #[.string a0_0, .string a0_1, .string a0_2, .int .i64 a0_3, .string a0_4, .bool a0_5, .string a0_6, .bool a0_7, .string a0_8]] w fun e w' => e = .returned (.string r) ∧ Below w.heap.size w w' := by
 have hu39 := Tryd.underlying39
 have HB := Aside0.mk (Below.refl w.heap.size w)
 have H : (if a0_0.size + 3 ≤ 9223372036854775807 then (if a0_1.toList = ([] : List UInt8) then (url_text.j0 k (a0_0 ++ (⟨#[58, 47, 47]⟩ : ByteArray)) a0_0 a0_1 a0_2 a0_3 a0_4 a0_5 a0_6 a0_7 a0_8) else (if a0_1.size + 1 ≤ 9223372036854775807 then (if (a0_0 ++ (⟨#[58, 47, 47]⟩ : ByteArray)).size + (a0_1 ++ (⟨#[64]⟩ : ByteArray)).size ≤ 9223372036854775807 then (url_text.j0 k ((a0_0 ++ (⟨#[58, 47, 47]⟩ : ByteArray)) ++ (a0_1 ++ (⟨#[64]⟩ : ByteArray))) a0_0 a0_1 a0_2 a0_3 a0_4 a0_5 a0_6 a0_7 a0_8) else (none)) else (none))) else (none)) = some r := h
 clear h
 by_cases c2 : a0_0.size + 3 ≤ 9223372036854775807
 ·rw [if_pos c2] at H
  have c2b0 := eq_true c2; have c2b1 : decide (a0_0.size + 3 ≤ 9223372036854775807) = true := decide_eq_true c2
  try have c2b2 : (9223372036854775807 < a0_0.size + 3) = False := eq_false (Nat.not_lt.2 c2)
  have HC3 := Aside0.mk H; clear H
  go_enter Tryd.func84, Tryd.ntmps84
  go_upto_if 9 with (first | ((with_reducible refine gate_dst (N := 1) rfl ?_); refine box_event ?hg (N := 1) ?hd (cs := #[.string a0_0, .string a0_1, .string a0_2, .int .i64 a0_3, .string a0_4, .bool a0_5, .string a0_6, .bool a0_7, .string a0_8]) (t := 39) ?hr ?_; (case hd => rfl); (case hg => rfl); (case hr => first | (go_simp; done) | (go_simp; rfl)); intro gb223 hg w4 hbox hb; have n0_ := Aside0.mk (below_step z39_ hb); have n1_ := Aside0.mk (hbox); have n2_ := Aside0.mk ((by rw [hg]; exact (below_size z39_) : w.heap.size ≤ gb223)); have n3_ := Aside0.mk ((by rw [hg]; exact (below_size z39_) : w.heap.size ≤ gb223)); clear HB; have HB := n0_; have BK223 := n1_; have GW223 := n2_; have GE223 := n3_; clear n0_ n1_ n2_ n3_; clear hb hbox hg; have hcz5_0 : w4.cell? ⟨gb223, 0, none⟩ = some (.string a0_0) := (blk_cell BK223.out 0).trans rfl; have hcz5_1 : w4.cell? ⟨gb223, 1, none⟩ = some (.string a0_1) := (blk_cell BK223.out 1).trans rfl; have hcz5_2 : w4.cell? ⟨gb223, 2, none⟩ = some (.string a0_2) := (blk_cell BK223.out 2).trans rfl; have hcz5_3 : w4.cell? ⟨gb223, 3, none⟩ = some (.int .i64 a0_3) := (blk_cell BK223.out 3).trans rfl; have hcz5_4 : w4.cell? ⟨gb223, 4, none⟩ = some (.string a0_4) := (blk_cell BK223.out 4).trans rfl; have hcz5_5 : w4.cell? ⟨gb223, 5, none⟩ = some (.bool a0_5) := (blk_cell BK223.out 5).trans rfl; have hcz5_6 : w4.cell? ⟨gb223, 6, none⟩ = some (.string a0_6) := (blk_cell BK223.out 6).trans rfl; have hcz5_7 : w4.cell? ⟨gb223, 7, none⟩ = some (.bool a0_7) := (blk_cell BK223.out 7).trans rfl; have hcz5_8 : w4.cell? ⟨gb223, 8, none⟩ = some (.string a0_8) := (blk_cell BK223.out 8).trans rfl; have hfz5_0 := blk_frozen BK223.out 0; have hfz5_1 := blk_frozen BK223.out 1; have hfz5_2 := blk_frozen BK223.out 2; have hfz5_3 := blk_frozen BK223.out 3; have hfz5_4 := blk_frozen BK223.out 4; have hfz5_5 := blk_frozen BK223.out 5; have hfz5_6 := blk_frozen BK223.out 6; have hfz5_7 := blk_frozen BK223.out 7; have hfz5_8 := blk_frozen BK223.out 8))
  (try simp only [Act.put, List.setIfInBounds_toArray, List.set_cons_zero, List.set_cons_succ])
  go_cut [3] (fun v3 wc => ∃ (kq : Nat) (x3_2 : ByteArray), v3 = .string x3_2 ∧ Aside0 (url_text.j0 kq x3_2 a0_0 a0_1 a0_2 a0_3 a0_4 a0_5 a0_6 a0_7 a0_8 = some r) ∧ Aside0 (kq ≤ k) ∧ Aside0 (wc.heap[gb223]? = some (.cells #[.string a0_0, .string a0_1, .string a0_2, .int .i64 a0_3, .string a0_4, .bool a0_5, .string a0_6, .bool a0_7, .string a0_8] 39 (0, 0))) ∧ Aside0 (Below w.heap.size w wc))
  case first =>
   have H := HC3.out
   clear HC3
   by_cases c6 : a0_1.toList = ([] : List UInt8)
   ·rw [if_pos c6] at H
    have c6b0 : (a0_1.toList == ([] : List UInt8)) = true := beq_iff_eq.mpr c6
    try have c6e0 : a0_1.toList.isEmpty = true := by rw [← nil_beq]; exact c6b0
    have c6b1 : (a0_1.toList != ([] : List UInt8)) = false := bne_eq_false_iff_eq.mpr c6
    clear c6
    (first | rw [c6b0] | (simp only [i64_w, i32_w]; rw [c6b0]) | rw [c6e0] | skip)
    have H' := Aside0.mk H
    clear H; go_wp2
    go_meet
    case rel => exact ⟨_, (a0_0 ++ (⟨#[58, 47, 47]⟩ : ByteArray)), z62_, H', ⟨z68_⟩, ⟨z44_⟩, ⟨z26_⟩⟩
   ·rw [if_neg c6] at H
    have c6b0 : (a0_1.toList == ([] : List UInt8)) = false := beq_eq_false_iff_ne.mpr c6
    try have c6e0 : a0_1.toList.isEmpty = false := by rw [← nil_beq]; exact c6b0
    have c6b1 : (a0_1.toList != ([] : List UInt8)) = true := bne_iff_ne.mpr c6
    (first | rw [c6b0] | (simp only [i64_w, i32_w]; rw [c6b0]) | rw [c6e0] | skip)
    by_cases c7 : a0_1.size + 1 ≤ 9223372036854775807
    ·rw [if_pos c7] at H
     have c7b0 := eq_true c7; have c7b1 : decide (a0_1.size + 1 ≤ 9223372036854775807) = true := decide_eq_true c7
     try have c7b2 : (9223372036854775807 < a0_1.size + 1) = False := eq_false (Nat.not_lt.2 c7)
     try have c7c0 : (9223372036854775807 ≤ a0_1.size) = False := eq_false (by omega)
     try have c7c1 : (a0_1.size < 9223372036854775807) = True := eq_true (by omega)
     by_cases c8 : (a0_0 ++ (⟨#[58, 47, 47]⟩ : ByteArray)).size + (a0_1 ++ (⟨#[64]⟩ : ByteArray)).size ≤ 9223372036854775807
     ·rw [if_pos c8] at H
      have c8b0 := eq_true c8
      try have c8m : ((a0_0.size + 3) + (a0_1.size + 1) ≤ 9223372036854775807) = True := by first | exact c8b0 | (have h_ := c8; simp only [ByteArray.size_append, Int.natCast_add] at h_; exact eq_true h_)
      have c8b1 : decide ((a0_0 ++ (⟨#[58, 47, 47]⟩ : ByteArray)).size + (a0_1 ++ (⟨#[64]⟩ : ByteArray)).size ≤ 9223372036854775807) = true := decide_eq_true c8
      try have c8b1n : decide ((a0_0.size + 3) + (a0_1.size + 1) ≤ 9223372036854775807) = true := by first | exact c8b1 | (have h_ := c8b1; simp only [ByteArray.size_append, Int.natCast_add] at h_; exact h_)
      try have c8b2 : (9223372036854775807 < (a0_0 ++ (⟨#[58, 47, 47]⟩ : ByteArray)).size + (a0_1 ++ (⟨#[64]⟩ : ByteArray)).size) = False := eq_false (Nat.not_lt.2 c8)
      try have c8b2n : (9223372036854775807 < (a0_0.size + 3) + (a0_1.size + 1)) = False := by first | exact c8b2 | (have h_ := c8b2; simp only [ByteArray.size_append, Int.natCast_add] at h_; exact h_)
      have H' := Aside0.mk H
      clear H; have hcz9_0 : w4.cell? ⟨gb223, 0, none⟩ = some (.string a0_0) := (blk_cell BK223.out 0).trans rfl; have hcz9_1 : w4.cell? ⟨gb223, 1, none⟩ = some (.string a0_1) := (blk_cell BK223.out 1).trans rfl; have hcz9_2 : w4.cell? ⟨gb223, 2, none⟩ = some (.string a0_2) := (blk_cell BK223.out 2).trans rfl; have hcz9_3 : w4.cell? ⟨gb223, 3, none⟩ = some (.int .i64 a0_3) := (blk_cell BK223.out 3).trans rfl; have hcz9_4 : w4.cell? ⟨gb223, 4, none⟩ = some (.string a0_4) := (blk_cell BK223.out 4).trans rfl; have hcz9_5 : w4.cell? ⟨gb223, 5, none⟩ = some (.bool a0_5) := (blk_cell BK223.out 5).trans rfl; have hcz9_6 : w4.cell? ⟨gb223, 6, none⟩ = some (.string a0_6) := (blk_cell BK223.out 6).trans rfl; have hcz9_7 : w4.cell? ⟨gb223, 7, none⟩ = some (.bool a0_7) := (blk_cell BK223.out 7).trans rfl; have hcz9_8 : w4.cell? ⟨gb223, 8, none⟩ = some (.string a0_8) := (blk_cell BK223.out 8).trans rfl; have hfz9_0 := blk_frozen BK223.out 0; have hfz9_1 := blk_frozen BK223.out 1; have hfz9_2 := blk_frozen BK223.out 2; have hfz9_3 := blk_frozen BK223.out 3; have hfz9_4 := blk_frozen BK223.out 4; have hfz9_5 := blk_frozen BK223.out 5; have hfz9_6 := blk_frozen BK223.out 6; have hfz9_7 := blk_frozen BK223.out 7; have hfz9_8 := blk_frozen BK223.out 8; go_wp2
      go_meet
      case rel => exact ⟨_, ((a0_0 ++ (⟨#[58, 47, 47]⟩ : ByteArray)) ++ (a0_1 ++ (⟨#[64]⟩ : ByteArray))), z62_, H', ⟨z68_⟩, ⟨z44_⟩, ⟨z26_⟩⟩
     ·rw [if_neg c8] at H
      exact absurd H (by simp)
    ·rw [if_neg c7] at H
     exact absurd H (by simp)
  case rest =>
   clear HC3; (try clear c2); (try clear c2b0); (try clear c2b1); (try clear c2b2); (try clear p2); (try clear c6); (try clear c6b0); (try clear c6b1); (try clear c7); (try clear c7b0); (try clear c7b1); (try clear c7b2); (try clear c8); (try clear c8b0); (try clear c8b1); (try clear c8b2); (try clear hcz5_0 hcz5_1 hcz5_2 hcz5_3 hcz5_4 hcz5_5 hcz5_6 hcz5_7 hcz5_8); (try clear hcz9_0 hcz9_1 hcz9_2 hcz9_3 hcz9_4 hcz9_5 hcz9_6 hcz9_7 hcz9_8); (try clear hfz5_0 hfz5_1 hfz5_2 hfz5_3 hfz5_4 hfz5_5 hfz5_6 hfz5_7 hfz5_8); (try clear hfz9_0 hfz9_1 hfz9_2 hfz9_3 hfz9_4 hfz9_5 hfz9_6 hfz9_7 hfz9_8)
   obtain ⟨kq, x3_2, rfl, HA, HJ2, BK223, HB⟩ := hcut
   cases kq with
   | zero => exact absurd HA.out (by simp [url_text.j0])
   | succ kj2 =>
    have H := HA.out
    clear HA
    simp only [url_text.j0] at H
    by_cases c10 : x3_2.size + a0_2.size ≤ 9223372036854775807
    ·rw [if_pos c10] at H
     have c10b0 := eq_true c10; have c10b1 : decide (x3_2.size + a0_2.size ≤ 9223372036854775807) = true := decide_eq_true c10
     try have c10b2 : (9223372036854775807 < x3_2.size + a0_2.size) = False := eq_false (Nat.not_lt.2 c10)
     have HC11 := Aside0.mk H; clear H; have hcz12_0 : wc.cell? ⟨gb223, 0, none⟩ = some (.string a0_0) := (blk_cell BK223.out 0).trans rfl; have hcz12_1 : wc.cell? ⟨gb223, 1, none⟩ = some (.string a0_1) := (blk_cell BK223.out 1).trans rfl; have hcz12_2 : wc.cell? ⟨gb223, 2, none⟩ = some (.string a0_2) := (blk_cell BK223.out 2).trans rfl; have hcz12_3 : wc.cell? ⟨gb223, 3, none⟩ = some (.int .i64 a0_3) := (blk_cell BK223.out 3).trans rfl; have hcz12_4 : wc.cell? ⟨gb223, 4, none⟩ = some (.string a0_4) := (blk_cell BK223.out 4).trans rfl; have hcz12_5 : wc.cell? ⟨gb223, 5, none⟩ = some (.bool a0_5) := (blk_cell BK223.out 5).trans rfl; have hcz12_6 : wc.cell? ⟨gb223, 6, none⟩ = some (.string a0_6) := (blk_cell BK223.out 6).trans rfl; have hcz12_7 : wc.cell? ⟨gb223, 7, none⟩ = some (.bool a0_7) := (blk_cell BK223.out 7).trans rfl; have hcz12_8 : wc.cell? ⟨gb223, 8, none⟩ = some (.string a0_8) := (blk_cell BK223.out 8).trans rfl; have hfz12_0 := blk_frozen BK223.out 0; have hfz12_1 := blk_frozen BK223.out 1; have hfz12_2 := blk_frozen BK223.out 2; have hfz12_3 := blk_frozen BK223.out 3; have hfz12_4 := blk_frozen BK223.out 4; have hfz12_5 := blk_frozen BK223.out 5; have hfz12_6 := blk_frozen BK223.out 6; have hfz12_7 := blk_frozen BK223.out 7; have hfz12_8 := blk_frozen BK223.out 8
     go_upto_if 21 with (fail)
     go_cut [3] (fun v3 wc => ∃ (kq : Nat) (x3_10 : ByteArray), v3 = .string x3_10 ∧ Aside0 (url_text.j1 kq x3_10 a0_0 a0_1 a0_2 a0_3 a0_4 a0_5 a0_6 a0_7 a0_8 = some r) ∧ Aside0 (kq ≤ kj2) ∧ Aside0 (wc.heap[gb223]? = some (.cells #[.string a0_0, .string a0_1, .string a0_2, .int .i64 a0_3, .string a0_4, .bool a0_5, .string a0_6, .bool a0_7, .string a0_8] 39 (0, 0))) ∧ Aside0 (Below w.heap.size w wc))
     case first =>
      have H := HC11.out
      clear HC11
      by_cases c13 : a0_3 = 0
      ·rw [if_pos c13] at H
       have c13b0 : (a0_3 == 0) = true := beq_iff_eq.mpr c13
       have c13b1 : (a0_3 != 0) = false := bne_eq_false_iff_eq.mpr c13
       clear c13
       (first | rw [c13b0] | (simp only [i64_w, i32_w]; rw [c13b0]) | skip)
       have H' := Aside0.mk H
       clear H; go_wp2
       go_meet
       case rel => exact ⟨_, (x3_2 ++ a0_2), z62_, H', ⟨z65_⟩, ⟨z44_⟩, ⟨z26_⟩⟩
      ·rw [if_neg c13] at H
       have c13b0 : (a0_3 == 0) = false := beq_eq_false_iff_ne.mpr c13
       have c13b1 : (a0_3 != 0) = true := bne_iff_ne.mpr c13
       (first | rw [c13b0] | (simp only [i64_w, i32_w]; rw [c13b0]) | skip)
       replace H := Option.bind_eq_some_iff.mp H
       obtain ⟨t224, A140, H⟩ := H
       replace H : (if 1 + t224.size ≤ 9223372036854775807 then (if (x3_2 ++ a0_2).size + ((⟨#[58]⟩ : ByteArray) ++ t224).size ≤ 9223372036854775807 then (url_text.j1 kj2 ((x3_2 ++ a0_2) ++ ((⟨#[58]⟩ : ByteArray) ++ t224)) a0_0 a0_1 a0_2 a0_3 a0_4 a0_5 a0_6 a0_7 a0_8) else (none)) else (none)) = some r := H
       have A14 := Aside0.mk A140; clear A140
       by_cases c15 : 1 + t224.size ≤ 9223372036854775807
       ·rw [if_pos c15] at H
        have c15b0 := eq_true c15; have c15b1 : decide (1 + t224.size ≤ 9223372036854775807) = true := decide_eq_true c15
        try have c15b2 : (9223372036854775807 < 1 + t224.size) = False := eq_false (Nat.not_lt.2 c15)
        try have c15c0 : (9223372036854775807 ≤ t224.size) = False := eq_false (by omega)
        try have c15c1 : (t224.size < 9223372036854775807) = True := eq_true (by omega)
        by_cases c16 : (x3_2 ++ a0_2).size + ((⟨#[58]⟩ : ByteArray) ++ t224).size ≤ 9223372036854775807
        ·rw [if_pos c16] at H
         have c16b0 := eq_true c16
         try have c16m : ((x3_2.size + a0_2.size) + (1 + t224.size) ≤ 9223372036854775807) = True := by first | exact c16b0 | (have h_ := c16; simp only [ByteArray.size_append, Int.natCast_add] at h_; exact eq_true h_)
         have c16b1 : decide ((x3_2 ++ a0_2).size + ((⟨#[58]⟩ : ByteArray) ++ t224).size ≤ 9223372036854775807) = true := decide_eq_true c16
         try have c16b1n : decide ((x3_2.size + a0_2.size) + (1 + t224.size) ≤ 9223372036854775807) = true := by first | exact c16b1 | (have h_ := c16b1; simp only [ByteArray.size_append, Int.natCast_add] at h_; exact h_)
         try have c16b2 : (9223372036854775807 < (x3_2 ++ a0_2).size + ((⟨#[58]⟩ : ByteArray) ++ t224).size) = False := eq_false (Nat.not_lt.2 c16)
         try have c16b2n : (9223372036854775807 < (x3_2.size + a0_2.size) + (1 + t224.size)) = False := by first | exact c16b2 | (have h_ := c16b2; simp only [ByteArray.size_append, Int.natCast_add] at h_; exact h_)
         have H' := Aside0.mk H
         clear H; have hcz17_0 : wc.cell? ⟨gb223, 0, none⟩ = some (.string a0_0) := (blk_cell BK223.out 0).trans rfl; have hcz17_1 : wc.cell? ⟨gb223, 1, none⟩ = some (.string a0_1) := (blk_cell BK223.out 1).trans rfl; have hcz17_2 : wc.cell? ⟨gb223, 2, none⟩ = some (.string a0_2) := (blk_cell BK223.out 2).trans rfl; have hcz17_3 : wc.cell? ⟨gb223, 3, none⟩ = some (.int .i64 a0_3) := (blk_cell BK223.out 3).trans rfl; have hcz17_4 : wc.cell? ⟨gb223, 4, none⟩ = some (.string a0_4) := (blk_cell BK223.out 4).trans rfl; have hcz17_5 : wc.cell? ⟨gb223, 5, none⟩ = some (.bool a0_5) := (blk_cell BK223.out 5).trans rfl; have hcz17_6 : wc.cell? ⟨gb223, 6, none⟩ = some (.string a0_6) := (blk_cell BK223.out 6).trans rfl; have hcz17_7 : wc.cell? ⟨gb223, 7, none⟩ = some (.bool a0_7) := (blk_cell BK223.out 7).trans rfl; have hcz17_8 : wc.cell? ⟨gb223, 8, none⟩ = some (.string a0_8) := (blk_cell BK223.out 8).trans rfl; have hfz17_0 := blk_frozen BK223.out 0; have hfz17_1 := blk_frozen BK223.out 1; have hfz17_2 := blk_frozen BK223.out 2; have hfz17_3 := blk_frozen BK223.out 3; have hfz17_4 := blk_frozen BK223.out 4; have hfz17_5 := blk_frozen BK223.out 5; have hfz17_6 := blk_frozen BK223.out 6; have hfz17_7 := blk_frozen BK223.out 7; have hfz17_8 := blk_frozen BK223.out 8
         go_wp2_with (first | ((with_reducible refine gate_callee (f := 63) rfl ?_); refine goesL_ (some 25) rfl rfl Tryd.func63 (by kernel_rfl) rfl #[.int .i64 a0_3] rfl z38_ ?_; (with_reducible refine (strconv_Itoa.calls a0_3 t224 _ ?gw139_ A14.out).mono ?_); (case gw139_ => first | exact hG_ | (refine GW.below hG_ ?_; first | (with_reducible exact HB.out) | (repeat (first | (with_reducible first | exact HB.out | apply below_alloc | apply pw_below_drewN | apply below_drew1 | apply below_drew | exact Below.refl _ _) | exact HB.out))) | (apply GW.drewN; exact hG_) | (apply GW.drew; exact hG_)); rintro e w18 ⟨rfl, hb⟩; refine ⟨_, rfl, ?_⟩; have n0_ := Aside0.mk (blk_below (g := gb223) (o := .cells #[.string a0_0, .string a0_1, .string a0_2, .int .i64 a0_3, .string a0_4, .bool a0_5, .string a0_6, .bool a0_7, .string a0_8] 39 (0, 0)) z44_ hb); have n1_ := Aside0.mk (below_step z26_ hb); clear BK223; clear HB; have BK223 := n0_; have HB := n1_; clear n0_ n1_; (try clear hb); (try clear hb2); (try clear hk); (try clear hi)))
         go_meet
         case rel => exact ⟨_, ((x3_2 ++ a0_2) ++ ((⟨#[58]⟩ : ByteArray) ++ t224)), z62_, H', ⟨z65_⟩, ⟨z44_⟩, ⟨z26_⟩⟩
        ·rw [if_neg c16] at H
         exact absurd H (by simp)
       ·rw [if_neg c15] at H
        exact absurd H (by simp)
     case rest =>
      clear HC11; (try clear c1); (try clear c2); (try clear c2b0); (try clear c2b1); (try clear c2b2); (try clear p2); (try clear c6); (try clear c6b0); (try clear c6b1); (try clear c7); (try clear c7b0); (try clear c7b1); (try clear c7b2); (try clear c8); (try clear c8b0); (try clear c8b1); (try clear c8b2); (try clear c10); (try clear c10b0); (try clear c10b1); (try clear c10b2); (try clear c13); (try clear c13b0); (try clear c13b1); (try clear c15); (try clear c15b0); (try clear c15b1); (try clear c15b2); (try clear c16); (try clear c16b0); (try clear c16b1); (try clear c16b2); (try clear hcz12_0 hcz12_1 hcz12_2 hcz12_3 hcz12_4 hcz12_5 hcz12_6 hcz12_7 hcz12_8); (try clear hcz17_0 hcz17_1 hcz17_2 hcz17_3 hcz17_4 hcz17_5 hcz17_6 hcz17_7 hcz17_8); (try clear hcz5_0 hcz5_1 hcz5_2 hcz5_3 hcz5_4 hcz5_5 hcz5_6 hcz5_7 hcz5_8); (try clear hcz9_0 hcz9_1 hcz9_2 hcz9_3 hcz9_4 hcz9_5 hcz9_6 hcz9_7 hcz9_8); (try clear hfz12_0 hfz12_1 hfz12_2 hfz12_3 hfz12_4 hfz12_5 hfz12_6 hfz12_7 hfz12_8); (try clear hfz17_0 hfz17_1 hfz17_2 hfz17_3 hfz17_4 hfz17_5 hfz17_6 hfz17_7 hfz17_8); (try clear hfz5_0 hfz5_1 hfz5_2 hfz5_3 hfz5_4 hfz5_5 hfz5_6 hfz5_7 hfz5_8); (try clear hfz9_0 hfz9_1 hfz9_2 hfz9_3 hfz9_4 hfz9_5 hfz9_6 hfz9_7 hfz9_8); (try clear p2)
      obtain ⟨kq, x3_10, rfl, HA, HJ10, BK223, HB⟩ := hcut
      cases kq with
      | zero => exact absurd HA.out (by simp [url_text.j1])
      | succ kj10 =>
       have H := HA.out
       clear HA
       simp only [url_text.j1] at H
       by_cases c19 : x3_10.size + a0_4.size ≤ 9223372036854775807
       ·rw [if_pos c19] at H
        have c19b0 := eq_true c19; have c19b1 : decide (x3_10.size + a0_4.size ≤ 9223372036854775807) = true := decide_eq_true c19
        try have c19b2 : (9223372036854775807 < x3_10.size + a0_4.size) = False := eq_false (Nat.not_lt.2 c19)
        by_cases c20 : a0_5 = true
        ·subst c20
         have H1 : (if 1 + a0_6.size ≤ 9223372036854775807 then (if (x3_10 ++ a0_4).size + ((⟨#[63]⟩ : ByteArray) ++ a0_6).size ≤ 9223372036854775807 then (if a0_7 = true then (if 1 + a0_8.size ≤ 9223372036854775807 then (if ((x3_10 ++ a0_4) ++ ((⟨#[63]⟩ : ByteArray) ++ a0_6)).size + ((⟨#[35]⟩ : ByteArray) ++ a0_8).size ≤ 9223372036854775807 then (some (((x3_10 ++ a0_4) ++ ((⟨#[63]⟩ : ByteArray) ++ a0_6)) ++ ((⟨#[35]⟩ : ByteArray) ++ a0_8))) else (none)) else (none)) else (some ((x3_10 ++ a0_4) ++ ((⟨#[63]⟩ : ByteArray) ++ a0_6)))) else (none)) else (none)) = some r := by rw [if_pos rfl] at H; exact H
         clear H
         have H := H1
         clear H1
         by_cases c21 : 1 + a0_6.size ≤ 9223372036854775807
         ·rw [if_pos c21] at H
          have c21b0 := eq_true c21; have c21b1 : decide (1 + a0_6.size ≤ 9223372036854775807) = true := decide_eq_true c21
          try have c21b2 : (9223372036854775807 < 1 + a0_6.size) = False := eq_false (Nat.not_lt.2 c21)
          try have c21c0 : (9223372036854775807 ≤ a0_6.size) = False := eq_false (by omega)
          try have c21c1 : (a0_6.size < 9223372036854775807) = True := eq_true (by omega)
          by_cases c22 : (x3_10 ++ a0_4).size + ((⟨#[63]⟩ : ByteArray) ++ a0_6).size ≤ 9223372036854775807
          ·rw [if_pos c22] at H
           have c22b0 := eq_true c22
           try have c22m : ((x3_10.size + a0_4.size) + (1 + a0_6.size) ≤ 9223372036854775807) = True := by first | exact c22b0 | (have h_ := c22; simp only [ByteArray.size_append, Int.natCast_add] at h_; exact eq_true h_)
           have c22b1 : decide ((x3_10 ++ a0_4).size + ((⟨#[63]⟩ : ByteArray) ++ a0_6).size ≤ 9223372036854775807) = true := decide_eq_true c22
           try have c22b1n : decide ((x3_10.size + a0_4.size) + (1 + a0_6.size) ≤ 9223372036854775807) = true := by first | exact c22b1 | (have h_ := c22b1; simp only [ByteArray.size_append, Int.natCast_add] at h_; exact h_)
           try have c22b2 : (9223372036854775807 < (x3_10 ++ a0_4).size + ((⟨#[63]⟩ : ByteArray) ++ a0_6).size) = False := eq_false (Nat.not_lt.2 c22)
           try have c22b2n : (9223372036854775807 < (x3_10.size + a0_4.size) + (1 + a0_6.size)) = False := by first | exact c22b2 | (have h_ := c22b2; simp only [ByteArray.size_append, Int.natCast_add] at h_; exact h_)
           by_cases c23 : a0_7 = true
           ·subst c23
            have H1 : (if 1 + a0_8.size ≤ 9223372036854775807 then (if ((x3_10 ++ a0_4) ++ ((⟨#[63]⟩ : ByteArray) ++ a0_6)).size + ((⟨#[35]⟩ : ByteArray) ++ a0_8).size ≤ 9223372036854775807 then (some (((x3_10 ++ a0_4) ++ ((⟨#[63]⟩ : ByteArray) ++ a0_6)) ++ ((⟨#[35]⟩ : ByteArray) ++ a0_8))) else (none)) else (none)) = some r := by rw [if_pos rfl] at H; exact H
            clear H
            have H := H1
            clear H1
            by_cases c24 : 1 + a0_8.size ≤ 9223372036854775807
            ·rw [if_pos c24] at H
             have c24b0 := eq_true c24; have c24b1 : decide (1 + a0_8.size ≤ 9223372036854775807) = true := decide_eq_true c24
             try have c24b2 : (9223372036854775807 < 1 + a0_8.size) = False := eq_false (Nat.not_lt.2 c24)
             try have c24c0 : (9223372036854775807 ≤ a0_8.size) = False := eq_false (by omega)
             try have c24c1 : (a0_8.size < 9223372036854775807) = True := eq_true (by omega)
             by_cases c25 : ((x3_10 ++ a0_4) ++ ((⟨#[63]⟩ : ByteArray) ++ a0_6)).size + ((⟨#[35]⟩ : ByteArray) ++ a0_8).size ≤ 9223372036854775807
             ·rw [if_pos c25] at H
              have c25b0 := eq_true c25
              try have c25m : ((x3_10.size + a0_4.size + (1 + a0_6.size)) + (1 + a0_8.size) ≤ 9223372036854775807) = True := by first | exact c25b0 | (have h_ := c25; simp only [ByteArray.size_append, Int.natCast_add] at h_; exact eq_true h_)
              have c25b1 : decide (((x3_10 ++ a0_4) ++ ((⟨#[63]⟩ : ByteArray) ++ a0_6)).size + ((⟨#[35]⟩ : ByteArray) ++ a0_8).size ≤ 9223372036854775807) = true := decide_eq_true c25
              try have c25b1n : decide ((x3_10.size + a0_4.size + (1 + a0_6.size)) + (1 + a0_8.size) ≤ 9223372036854775807) = true := by first | exact c25b1 | (have h_ := c25b1; simp only [ByteArray.size_append, Int.natCast_add] at h_; exact h_)
              try have c25b2 : (9223372036854775807 < ((x3_10 ++ a0_4) ++ ((⟨#[63]⟩ : ByteArray) ++ a0_6)).size + ((⟨#[35]⟩ : ByteArray) ++ a0_8).size) = False := eq_false (Nat.not_lt.2 c25)
              try have c25b2n : (9223372036854775807 < (x3_10.size + a0_4.size + (1 + a0_6.size)) + (1 + a0_8.size)) = False := by first | exact c25b2 | (have h_ := c25b2; simp only [ByteArray.size_append, Int.natCast_add] at h_; exact h_)
              obtain rfl := Option.some.inj H
              have hcz26_0 : wc.cell? ⟨gb223, 0, none⟩ = some (.string a0_0) := (blk_cell BK223.out 0).trans rfl; have hcz26_1 : wc.cell? ⟨gb223, 1, none⟩ = some (.string a0_1) := (blk_cell BK223.out 1).trans rfl; have hcz26_2 : wc.cell? ⟨gb223, 2, none⟩ = some (.string a0_2) := (blk_cell BK223.out 2).trans rfl; have hcz26_3 : wc.cell? ⟨gb223, 3, none⟩ = some (.int .i64 a0_3) := (blk_cell BK223.out 3).trans rfl; have hcz26_4 : wc.cell? ⟨gb223, 4, none⟩ = some (.string a0_4) := (blk_cell BK223.out 4).trans rfl; have hcz26_5 : wc.cell? ⟨gb223, 5, none⟩ = some (.bool true) := (blk_cell BK223.out 5).trans rfl; have hcz26_6 : wc.cell? ⟨gb223, 6, none⟩ = some (.string a0_6) := (blk_cell BK223.out 6).trans rfl; have hcz26_7 : wc.cell? ⟨gb223, 7, none⟩ = some (.bool true) := (blk_cell BK223.out 7).trans rfl; have hcz26_8 : wc.cell? ⟨gb223, 8, none⟩ = some (.string a0_8) := (blk_cell BK223.out 8).trans rfl; have hfz26_0 := blk_frozen BK223.out 0; have hfz26_1 := blk_frozen BK223.out 1; have hfz26_2 := blk_frozen BK223.out 2; have hfz26_3 := blk_frozen BK223.out 3; have hfz26_4 := blk_frozen BK223.out 4; have hfz26_5 := blk_frozen BK223.out 5; have hfz26_6 := blk_frozen BK223.out 6; have hfz26_7 := blk_frozen BK223.out 7; have hfz26_8 := blk_frozen BK223.out 8; go_wp2
              go_ret
              exact ⟨z40_, z26_⟩
             ·rw [if_neg c25] at H
              exact absurd H (by simp)
            ·rw [if_neg c24] at H
             exact absurd H (by simp)
           ·replace c23 := Bool.eq_false_iff.mpr c23
            subst c23
            have H1 : (some ((x3_10 ++ a0_4) ++ ((⟨#[63]⟩ : ByteArray) ++ a0_6))) = some r := by rw [if_neg (show ¬ (false = true) by decide)] at H; exact H
            clear H
            have H := H1
            clear H1
            obtain rfl := Option.some.inj H
            have hcz27_0 : wc.cell? ⟨gb223, 0, none⟩ = some (.string a0_0) := (blk_cell BK223.out 0).trans rfl; have hcz27_1 : wc.cell? ⟨gb223, 1, none⟩ = some (.string a0_1) := (blk_cell BK223.out 1).trans rfl; have hcz27_2 : wc.cell? ⟨gb223, 2, none⟩ = some (.string a0_2) := (blk_cell BK223.out 2).trans rfl; have hcz27_3 : wc.cell? ⟨gb223, 3, none⟩ = some (.int .i64 a0_3) := (blk_cell BK223.out 3).trans rfl; have hcz27_4 : wc.cell? ⟨gb223, 4, none⟩ = some (.string a0_4) := (blk_cell BK223.out 4).trans rfl; have hcz27_5 : wc.cell? ⟨gb223, 5, none⟩ = some (.bool true) := (blk_cell BK223.out 5).trans rfl; have hcz27_6 : wc.cell? ⟨gb223, 6, none⟩ = some (.string a0_6) := (blk_cell BK223.out 6).trans rfl; have hcz27_7 : wc.cell? ⟨gb223, 7, none⟩ = some (.bool false) := (blk_cell BK223.out 7).trans rfl; have hcz27_8 : wc.cell? ⟨gb223, 8, none⟩ = some (.string a0_8) := (blk_cell BK223.out 8).trans rfl; have hfz27_0 := blk_frozen BK223.out 0; have hfz27_1 := blk_frozen BK223.out 1; have hfz27_2 := blk_frozen BK223.out 2; have hfz27_3 := blk_frozen BK223.out 3; have hfz27_4 := blk_frozen BK223.out 4; have hfz27_5 := blk_frozen BK223.out 5; have hfz27_6 := blk_frozen BK223.out 6; have hfz27_7 := blk_frozen BK223.out 7; have hfz27_8 := blk_frozen BK223.out 8; go_wp2
            go_ret
            exact ⟨z40_, z26_⟩
          ·rw [if_neg c22] at H
           exact absurd H (by simp)
         ·rw [if_neg c21] at H
          exact absurd H (by simp)
        ·replace c20 := Bool.eq_false_iff.mpr c20
         subst c20
         have H1 : (if a0_7 = true then (if 1 + a0_8.size ≤ 9223372036854775807 then (if (x3_10 ++ a0_4).size + ((⟨#[35]⟩ : ByteArray) ++ a0_8).size ≤ 9223372036854775807 then (some ((x3_10 ++ a0_4) ++ ((⟨#[35]⟩ : ByteArray) ++ a0_8))) else (none)) else (none)) else (some (x3_10 ++ a0_4))) = some r := by rw [if_neg (show ¬ (false = true) by decide)] at H; exact H
         clear H
         have H := H1
         clear H1
         by_cases c28 : a0_7 = true
         ·subst c28
          have H1 : (if 1 + a0_8.size ≤ 9223372036854775807 then (if (x3_10 ++ a0_4).size + ((⟨#[35]⟩ : ByteArray) ++ a0_8).size ≤ 9223372036854775807 then (some ((x3_10 ++ a0_4) ++ ((⟨#[35]⟩ : ByteArray) ++ a0_8))) else (none)) else (none)) = some r := by rw [if_pos rfl] at H; exact H
          clear H
          have H := H1
          clear H1
          by_cases c29 : 1 + a0_8.size ≤ 9223372036854775807
          ·rw [if_pos c29] at H
           have c29b0 := eq_true c29; have c29b1 : decide (1 + a0_8.size ≤ 9223372036854775807) = true := decide_eq_true c29
           try have c29b2 : (9223372036854775807 < 1 + a0_8.size) = False := eq_false (Nat.not_lt.2 c29)
           try have c29c0 : (9223372036854775807 ≤ a0_8.size) = False := eq_false (by omega)
           try have c29c1 : (a0_8.size < 9223372036854775807) = True := eq_true (by omega)
           by_cases c30 : (x3_10 ++ a0_4).size + ((⟨#[35]⟩ : ByteArray) ++ a0_8).size ≤ 9223372036854775807
           ·rw [if_pos c30] at H
            have c30b0 := eq_true c30
            try have c30m : ((x3_10.size + a0_4.size) + (1 + a0_8.size) ≤ 9223372036854775807) = True := by first | exact c30b0 | (have h_ := c30; simp only [ByteArray.size_append, Int.natCast_add] at h_; exact eq_true h_)
            have c30b1 : decide ((x3_10 ++ a0_4).size + ((⟨#[35]⟩ : ByteArray) ++ a0_8).size ≤ 9223372036854775807) = true := decide_eq_true c30
            try have c30b1n : decide ((x3_10.size + a0_4.size) + (1 + a0_8.size) ≤ 9223372036854775807) = true := by first | exact c30b1 | (have h_ := c30b1; simp only [ByteArray.size_append, Int.natCast_add] at h_; exact h_)
            try have c30b2 : (9223372036854775807 < (x3_10 ++ a0_4).size + ((⟨#[35]⟩ : ByteArray) ++ a0_8).size) = False := eq_false (Nat.not_lt.2 c30)
            try have c30b2n : (9223372036854775807 < (x3_10.size + a0_4.size) + (1 + a0_8.size)) = False := by first | exact c30b2 | (have h_ := c30b2; simp only [ByteArray.size_append, Int.natCast_add] at h_; exact h_)
            obtain rfl := Option.some.inj H
            have hcz31_0 : wc.cell? ⟨gb223, 0, none⟩ = some (.string a0_0) := (blk_cell BK223.out 0).trans rfl; have hcz31_1 : wc.cell? ⟨gb223, 1, none⟩ = some (.string a0_1) := (blk_cell BK223.out 1).trans rfl; have hcz31_2 : wc.cell? ⟨gb223, 2, none⟩ = some (.string a0_2) := (blk_cell BK223.out 2).trans rfl; have hcz31_3 : wc.cell? ⟨gb223, 3, none⟩ = some (.int .i64 a0_3) := (blk_cell BK223.out 3).trans rfl; have hcz31_4 : wc.cell? ⟨gb223, 4, none⟩ = some (.string a0_4) := (blk_cell BK223.out 4).trans rfl; have hcz31_5 : wc.cell? ⟨gb223, 5, none⟩ = some (.bool false) := (blk_cell BK223.out 5).trans rfl; have hcz31_6 : wc.cell? ⟨gb223, 6, none⟩ = some (.string a0_6) := (blk_cell BK223.out 6).trans rfl; have hcz31_7 : wc.cell? ⟨gb223, 7, none⟩ = some (.bool true) := (blk_cell BK223.out 7).trans rfl; have hcz31_8 : wc.cell? ⟨gb223, 8, none⟩ = some (.string a0_8) := (blk_cell BK223.out 8).trans rfl; have hfz31_0 := blk_frozen BK223.out 0; have hfz31_1 := blk_frozen BK223.out 1; have hfz31_2 := blk_frozen BK223.out 2; have hfz31_3 := blk_frozen BK223.out 3; have hfz31_4 := blk_frozen BK223.out 4; have hfz31_5 := blk_frozen BK223.out 5; have hfz31_6 := blk_frozen BK223.out 6; have hfz31_7 := blk_frozen BK223.out 7; have hfz31_8 := blk_frozen BK223.out 8; go_wp2
            go_ret
            exact ⟨z40_, z26_⟩
           ·rw [if_neg c30] at H
            exact absurd H (by simp)
          ·rw [if_neg c29] at H
           exact absurd H (by simp)
         ·replace c28 := Bool.eq_false_iff.mpr c28
          subst c28
          have H1 : (some (x3_10 ++ a0_4)) = some r := by rw [if_neg (show ¬ (false = true) by decide)] at H; exact H
          clear H
          have H := H1
          clear H1
          obtain rfl := Option.some.inj H
          have hcz32_0 : wc.cell? ⟨gb223, 0, none⟩ = some (.string a0_0) := (blk_cell BK223.out 0).trans rfl; have hcz32_1 : wc.cell? ⟨gb223, 1, none⟩ = some (.string a0_1) := (blk_cell BK223.out 1).trans rfl; have hcz32_2 : wc.cell? ⟨gb223, 2, none⟩ = some (.string a0_2) := (blk_cell BK223.out 2).trans rfl; have hcz32_3 : wc.cell? ⟨gb223, 3, none⟩ = some (.int .i64 a0_3) := (blk_cell BK223.out 3).trans rfl; have hcz32_4 : wc.cell? ⟨gb223, 4, none⟩ = some (.string a0_4) := (blk_cell BK223.out 4).trans rfl; have hcz32_5 : wc.cell? ⟨gb223, 5, none⟩ = some (.bool false) := (blk_cell BK223.out 5).trans rfl; have hcz32_6 : wc.cell? ⟨gb223, 6, none⟩ = some (.string a0_6) := (blk_cell BK223.out 6).trans rfl; have hcz32_7 : wc.cell? ⟨gb223, 7, none⟩ = some (.bool false) := (blk_cell BK223.out 7).trans rfl; have hcz32_8 : wc.cell? ⟨gb223, 8, none⟩ = some (.string a0_8) := (blk_cell BK223.out 8).trans rfl; have hfz32_0 := blk_frozen BK223.out 0; have hfz32_1 := blk_frozen BK223.out 1; have hfz32_2 := blk_frozen BK223.out 2; have hfz32_3 := blk_frozen BK223.out 3; have hfz32_4 := blk_frozen BK223.out 4; have hfz32_5 := blk_frozen BK223.out 5; have hfz32_6 := blk_frozen BK223.out 6; have hfz32_7 := blk_frozen BK223.out 7; have hfz32_8 := blk_frozen BK223.out 8; go_wp2
          go_ret
          exact ⟨z40_, z26_⟩
       ·rw [if_neg c19] at H
        exact absurd H (by simp)
    ·rw [if_neg c10] at H
     exact absurd H (by simp)
 ·rw [if_neg c2] at H
  exact absurd H (by simp)

end Go.Proofs.YtindkgcbglonhaaDoor.Hand
