/- What each Go function here computes, and that its call computes it, over contracts proved by hand (written by this project's xprint.py, which drives the kit's print). -/
import Derived.Test.YtfibkgmbgdaeoaaGreatDoorZ
import Derived.Test.YtfibkgmbgdaeoaaGreatDoorK
import Derived.Test.YtfibkgmbgdaeoaaGreatDoorPreJ
import Derived.Test.YtfibkgmbgdaeoaaGreatDoorPreL
import Derived.Test.YtfibkgmbgdaeoaaGreatDoorPreR
import Derived.Test.YtfibkgmbgdaeoaaGreatDoorSafeU
import Derived.Test.YtfibkgmbgdaeoaaGreatDoorSafeR
import Derived.Test.YtfibkgmbgdaeoaaGreatDoorList
import Derived.Test.YtfibkgmbgdaeoaaGreatDoorFA1
import Derived.Test.YtfibkgmbgdaeoaaGreatDoorFP1
import Derived.Test.YtfibkgmbgdaeoaaGreatDoorFPB1
import Derived.Test.YtfibkgmbgdaeoaaGreatDoorFYA1
import Derived.Test.YtfibkgmbgdaeoaaGreatDoorFYB1
import Derived.Test.YtfibkgmbgdaeoaaGreatDoorFY1
import Derived.Test.YtfibkgmbgdaeoaaGreatDoorFY2
import Derived.Test.YtfibkgmbgdaeoaaGreatDoorPreA
namespace Go.Proofs.YtfibkgmbgdaeoaaGreatDoor.Hand
open Go.RowKit Go.Proofs.YtfibkgmbgdaeoaaGreatDoorW.PrintWords Go.Proofs.YtfibkgmbgdaeoaaGreatDoorW.PrintLast Go.Proofs.YtfibkgmbgdaeoaaGreatDoorW.PrintMore
attribute [local go_sem] Instr.field asAgg max2_int min2_int max_two min_two max_three min_three max_four min_four   -- for this text's walks alone
set_option linter.unusedVariables false
set_option linter.unusedSimpArgs false

def pursuivantlaw14_few.f (l0 : List (S45)) : Option ((List (S45))) := if (l0.length : Int) > 30 then (if 30 ≤ (l0.length : Int) then (some (l0.take 30)) else (none)) else (some l0)
set_option maxHeartbeats 8000000 in
set_option maxRecDepth 100000 in
theorem pursuivantlaw14_few.calls (P0_ : Nat → Prop) (A0 : Option Addr) (c0 : Nat) (l0 : List (S45)) (r : List (S45)) (w : World) (hG_ : GW w) (hs0 : Kd.V k45 45 w w.heap.size (fun k_ => P0_ k_) (.slice A0 l0.length c0) l0) (h : pursuivantlaw14_few.f l0 = some r) :
  Calls Tryz.prog 8 #[.slice A0 l0.length c0] w fun e w' => ∃ v0_ : Value, e = .returned (v0_) ∧ Kd.V k45 45 w' w.heap.size (fun k_ => (P0_ k_ ∨ w.heap.size ≤ k_)) v0_ r ∧ Below w.heap.size w w' := by
 have HO0 := Aside0.mk (show Kd.V k45 45 w w.heap.size (fun k_ => (P0_ k_ ∨ w.heap.size ≤ k_)) (.slice A0 l0.length c0) l0 from Kd.V_mono hs0 (fun k_ hk => .inl hk))
 have HB := Aside0.mk (Below.refl w.heap.size w)
 have H : (if (l0.length : Int) > 30 then (if 30 ≤ (l0.length : Int) then (some (l0.take 30)) else (none)) else (some l0)) = some r := h
 clear h
 by_cases c2 : (l0.length : Int) > 30
 ·rw [if_pos c2] at H
  have c2b0 : decide (30 < (l0.length : Int)) = true := decide_eq_true c2
  have c2b1 : decide (30 < l0.length) = true := decide_eq_true (by omega)
  clear c2
  by_cases c3 : 30 ≤ (l0.length : Int)
  ·rw [if_pos c3] at H
   have c3b0 := eq_true c3; have c3b1 : decide (30 ≤ (l0.length : Int)) = true := decide_eq_true c3; clear c3
   obtain ⟨y101, hy101⟩ : ∃ y_ : List (S45), y_ = (l0.take 30) := ⟨_, rfl⟩
   replace H : (some y101) = some r := by first | (rw [hy101]; with_reducible exact H) | (have H2_ := (Option.bind_some _ _).symm.trans H; rw [hy101]; with_reducible exact H2_) | (have H2_ := (Option.bind_some _ _).symm.trans H; with_reducible exact H2_) | with_reducible exact H | (rw [hy101]; exact H) | exact H
   have Ny101 := Aside0.mk hy101; clear hy101
   obtain rfl := Option.some.inj H
   have q4 : (30 : Int) ≤ ((l0.length : Int) : Int) := of_decide_eq_true z24_
   obtain ⟨i04, hi04, _, hsz4, _⟩ := info_parts info45
   have hroom4 : l0.length ≤ c0 := (Kd.V_reads' HO0.out).2.1
   have hC4 : Kd.F k45 _ _ A0 l0.length l0 := (Kd.V_at (base := w.heap.size) HO0.out).2.2
   have hcut4 := cut_to (P := Tryz.prog) 22 45 .i64 Tryz.underlying22 hi04 A0 l0.length c0 30 (by omega) q4 hroom4
   have hr4 := Kd.F_take (m := 30) hC4 (by omega)
   have hy4 : y101.length = (30 : Int).toNat := (by rw [Ny101.out, List.length_take]; omega)
   rw [← Ny101.out] at hr4
   rw [← hy4] at hcut4
   have HO105 := Aside0.mk (show Kd.V k45 45 _ w.heap.size _ (.slice A0 y101.length c0) y101 from Kd.V_mk (by omega) hr4)
   have HC105 := Aside0.mk (show y101.length ≤ c0 from by omega)
   clear hr4 hC4 hroom4 hi04 hsz4; have KY4 := Aside0.mk hy4; clear hy4
   replace q4 := eq_true q4
   go_enter Tryz.func8, Tryz.ntmps8
   go_wp2
   go_ret
   exact ⟨_, z7_, by (with_reducible repeat (first | apply Kd.V_alloc | apply Kd.V_drewN | apply Kd.V_drew)); exact HO105.out, z6_⟩
  ·rw [if_neg c3] at H
   exact absurd H (by simp)
 ·rw [if_neg c2] at H
  have c2b0 : decide (30 < (l0.length : Int)) = false := decide_eq_false c2
  have c2b1 : decide (30 < l0.length) = false := decide_eq_false (by omega)
  clear c2
  obtain rfl := Option.some.inj H
  go_enter Tryz.func8, Tryz.ntmps8
  go_wp2
  go_ret
  exact ⟨_, z7_, by (with_reducible repeat (first | apply Kd.V_alloc | apply Kd.V_drewN | apply Kd.V_drew)); exact HO0.out, z6_⟩

def pursuivantlaw14_PreAsks.f (k : Nat) (a0 a1 : ByteArray) (l2 : List (S45)) : Option (Bool) := (pursuivantlaw14_awake.f k).bind fun t106 => (if t106 = true then ((pursuivantlaw14_few.f l2).bind fun t107 => ((pre_Needs.f k a1 t107).bind fun t110 => ((pursuivantlaw14_few.f l2).bind fun t111 => ((pursuivantref14_Needs.f k a1 t111).bind fun t114 => (if (t110 == t114) = true then ((pursuivantlaw14_few.f l2).bind fun t115 => ((pre_Ask.f k a0 a1 t115).bind fun t118 => ((pursuivantlaw14_few.f l2).bind fun t121 => ((pursuivantref14_Ask.f k a0 a1 t121).bind fun t124 => ((pursuivantref09_Same.f k t118 t124).bind fun t127 => (some t127)))))) else (some false)))))) else (some false))
set_option maxHeartbeats 8000000 in
set_option maxRecDepth 100000 in
theorem pursuivantlaw14_PreAsks.calls (k : Nat) (a0 a1 : ByteArray) (A2 : Option Addr) (c2 : Nat) (l2 : List (S45)) (r : Bool) (w : World) (hG_ : GW w) (hr2 : Kd.C k45 w A2 l2.length l2) (hc2 : l2.length ≤ c2) (h : pursuivantlaw14_PreAsks.f k a0 a1 l2 = some r) (hr_ : r = true) :
  Calls Tryz.prog 3 #[.string a0, .string a1, .slice A2 l2.length c2] w fun e w' => e = .returned (.bool r) ∧ Below w.heap.size w w' := by
 have HR2 := Aside0.mk hr2; have HC2 := Aside0.mk hc2; clear hr2 hc2
 have HB := Aside0.mk (Below.refl w.heap.size w)
 have H : ((pursuivantlaw14_awake.f k).bind fun t106 => (if t106 = true then ((pursuivantlaw14_few.f l2).bind fun t107 => ((pre_Needs.f k a1 t107).bind fun t110 => ((pursuivantlaw14_few.f l2).bind fun t111 => ((pursuivantref14_Needs.f k a1 t111).bind fun t114 => (if (t110 == t114) = true then ((pursuivantlaw14_few.f l2).bind fun t115 => ((pre_Ask.f k a0 a1 t115).bind fun t118 => ((pursuivantlaw14_few.f l2).bind fun t121 => ((pursuivantref14_Ask.f k a0 a1 t121).bind fun t124 => ((pursuivantref09_Same.f k t118 t124).bind fun t127 => (some t127)))))) else (some false)))))) else (some false))) = some r := h
 clear h
 replace H := Option.bind_eq_some_iff.mp H
 obtain ⟨t106, A40, H⟩ := H
 replace H : (if t106 = true then ((pursuivantlaw14_few.f l2).bind fun t107 => ((pre_Needs.f k a1 t107).bind fun t110 => ((pursuivantlaw14_few.f l2).bind fun t111 => ((pursuivantref14_Needs.f k a1 t111).bind fun t114 => (if (t110 == t114) = true then ((pursuivantlaw14_few.f l2).bind fun t115 => ((pre_Ask.f k a0 a1 t115).bind fun t118 => ((pursuivantlaw14_few.f l2).bind fun t121 => ((pursuivantref14_Ask.f k a0 a1 t121).bind fun t124 => ((pursuivantref09_Same.f k t118 t124).bind fun t127 => (some t127)))))) else (some false)))))) else (some false)) = some r := H
 have A4 := Aside0.mk A40; clear A40
 by_cases c5 : t106 = true
 ·subst c5
  have H1 : ((pursuivantlaw14_few.f l2).bind fun t107 => ((pre_Needs.f k a1 t107).bind fun t110 => ((pursuivantlaw14_few.f l2).bind fun t111 => ((pursuivantref14_Needs.f k a1 t111).bind fun t114 => (if (t110 == t114) = true then ((pursuivantlaw14_few.f l2).bind fun t115 => ((pre_Ask.f k a0 a1 t115).bind fun t118 => ((pursuivantlaw14_few.f l2).bind fun t121 => ((pursuivantref14_Ask.f k a0 a1 t121).bind fun t124 => ((pursuivantref09_Same.f k t118 t124).bind fun t127 => (some t127)))))) else (some false)))))) = some r := by rw [if_pos rfl] at H; exact H
  clear H
  have H := H1
  clear H1
  replace H := Option.bind_eq_some_iff.mp H
  obtain ⟨t107, A60, H⟩ := H
  replace H : ((pre_Needs.f k a1 t107).bind fun t110 => ((pursuivantlaw14_few.f l2).bind fun t111 => ((pursuivantref14_Needs.f k a1 t111).bind fun t114 => (if (t110 == t114) = true then ((pursuivantlaw14_few.f l2).bind fun t115 => ((pre_Ask.f k a0 a1 t115).bind fun t118 => ((pursuivantlaw14_few.f l2).bind fun t121 => ((pursuivantref14_Ask.f k a0 a1 t121).bind fun t124 => ((pursuivantref09_Same.f k t118 t124).bind fun t127 => (some t127)))))) else (some false))))) = some r := H
  have A6 := Aside0.mk A60; clear A60
  replace H := Option.bind_eq_some_iff.mp H
  obtain ⟨t110, A70, H⟩ := H
  replace H : ((pursuivantlaw14_few.f l2).bind fun t111 => ((pursuivantref14_Needs.f k a1 t111).bind fun t114 => (if (t110 == t114) = true then ((pursuivantlaw14_few.f l2).bind fun t115 => ((pre_Ask.f k a0 a1 t115).bind fun t118 => ((pursuivantlaw14_few.f l2).bind fun t121 => ((pursuivantref14_Ask.f k a0 a1 t121).bind fun t124 => ((pursuivantref09_Same.f k t118 t124).bind fun t127 => (some t127)))))) else (some false)))) = some r := H
  have A7 := Aside0.mk A70; clear A70
  replace H := Option.bind_eq_some_iff.mp H
  obtain ⟨t111, A80, H⟩ := H
  replace H : ((pursuivantref14_Needs.f k a1 t111).bind fun t114 => (if (t110 == t114) = true then ((pursuivantlaw14_few.f l2).bind fun t115 => ((pre_Ask.f k a0 a1 t115).bind fun t118 => ((pursuivantlaw14_few.f l2).bind fun t121 => ((pursuivantref14_Ask.f k a0 a1 t121).bind fun t124 => ((pursuivantref09_Same.f k t118 t124).bind fun t127 => (some t127)))))) else (some false))) = some r := H
  have A8 := Aside0.mk A80; clear A80
  replace H := Option.bind_eq_some_iff.mp H
  obtain ⟨t114, A90, H⟩ := H
  replace H : (if (t110 == t114) = true then ((pursuivantlaw14_few.f l2).bind fun t115 => ((pre_Ask.f k a0 a1 t115).bind fun t118 => ((pursuivantlaw14_few.f l2).bind fun t121 => ((pursuivantref14_Ask.f k a0 a1 t121).bind fun t124 => ((pursuivantref09_Same.f k t118 t124).bind fun t127 => (some t127)))))) else (some false)) = some r := H
  have A9 := Aside0.mk A90; clear A90
  by_cases c10 : (t110 == t114) = true
  ·rw [if_pos c10] at H
   have c10b0 : (t110 == t114) = true := c10
   (try (have c10b1 : decide (t110 = t114) = true := by simpa using c10))
   (try (have c10b2 : (t110 == t114) = true := by simpa using c10))
   clear c10
   replace H := Option.bind_eq_some_iff.mp H
   obtain ⟨t115, A110, H⟩ := H
   replace H : ((pre_Ask.f k a0 a1 t115).bind fun t118 => ((pursuivantlaw14_few.f l2).bind fun t121 => ((pursuivantref14_Ask.f k a0 a1 t121).bind fun t124 => ((pursuivantref09_Same.f k t118 t124).bind fun t127 => (some t127))))) = some r := H
   have A11 := Aside0.mk A110; clear A110
   replace H := Option.bind_eq_some_iff.mp H
   obtain ⟨t118, A120, H⟩ := H
   replace H : ((pursuivantlaw14_few.f l2).bind fun t121 => ((pursuivantref14_Ask.f k a0 a1 t121).bind fun t124 => ((pursuivantref09_Same.f k t118 t124).bind fun t127 => (some t127)))) = some r := H
   have A12 := Aside0.mk A120; clear A120
   replace H := Option.bind_eq_some_iff.mp H
   obtain ⟨t121, A130, H⟩ := H
   replace H : ((pursuivantref14_Ask.f k a0 a1 t121).bind fun t124 => ((pursuivantref09_Same.f k t118 t124).bind fun t127 => (some t127))) = some r := H
   have A13 := Aside0.mk A130; clear A130
   replace H := Option.bind_eq_some_iff.mp H
   obtain ⟨t124, A140, H⟩ := H
   replace H : ((pursuivantref09_Same.f k t118 t124).bind fun t127 => (some t127)) = some r := H
   have A14 := Aside0.mk A140; clear A140
   replace H := Option.bind_eq_some_iff.mp H
   obtain ⟨t127, A150, H⟩ := H
   replace H : (some t127) = some r := H
   have A15 := Aside0.mk A150; clear A150
   obtain rfl := Option.some.inj H
   go_enter Tryz.func3, Tryz.ntmps3
   go_wp2_with (first | ((with_reducible refine gate_callee (f := 6) rfl ?_); refine goesL_ (some 7) rfl rfl Tryz.func6 (by kernel_rfl) rfl #[] rfl z5_ ?_; (with_reducible refine (pursuivantlaw14_awake.calls k  true _ ?gw1_ A4.out (by first | rfl | assumption)).mono ?_); (case gw1_ => exact z2_); rintro e w16 ⟨rfl, hb⟩; refine ⟨_, rfl, ?_⟩; have n0_ := Aside0.mk (below_step z6_ hb); clear HB; have HB := n0_; clear n0_; (try clear hb); (try clear hb2); (try clear hk); (try clear hi)) | (go_at_call 8; (fail_if_success (have z_ := U_1)); have U_1 := trivial; (with_reducible refine (pursuivantlaw14_few.calls (fun k_ => k_ < w.heap.size) _ _ l2 t107 _ ?gw2_ ?side1 A6.out).mono ?_); (case gw2_ => exact z2_); (case side1 => exact Kd.V_mk HC2.out (Kd.F_below (Kd.C_F k45_heap HR2.out) z6_)); rintro e w17 ⟨v108, rfl, ho0, hb⟩; have n0_ := Aside0.mk (Kd.V_lower (Kd.V_mono (ok' := fun k_ => True) ho0 (fun k_ hk_ => trivial)) (below_size z6_)); have n1_ := Aside0.mk (below_step z6_ hb); clear HB; have HO109 := n0_; have HB := n1_; clear n0_ n1_; (try clear hb); (try clear hb2); (try clear hk); (try clear hi); (try clear ho0); obtain ⟨Ao18, co18, eo18⟩ := Kd.V_slice HO109.out; subst eo18) | (go_at_call 7; (fail_if_success (have z_ := U_2)); have U_2 := trivial; (with_reducible refine (pre_Needs.calls k a1 _ _ t107 t110 _ ?gw3_ ?side1 ?side2 A7.out).mono ?_); (case gw3_ => exact z2_); (case side1 => repeat (first | exact (Kd.V_reads' HO109.out).2.2 | (with_reducible refine Kd.C_alloc ?_ _) | (with_reducible refine Kd.C_drewN ?_ _) | (with_reducible refine Kd.C_drew ?_))); (case side2 => exact (Kd.V_reads' HO109.out).2.1); rintro e w19 ⟨rfl, hb⟩; have n0_ := Aside0.mk (Kd.V_below z15_ hb); have n1_ := Aside0.mk (below_step z6_ hb); clear HO109; clear HB; have HO109 := n0_; have HB := n1_; clear n0_ n1_; (try clear hb); (try clear hb2); (try clear hk); (try clear hi)) | (go_at_call 8; (fail_if_success (have z_ := U_3)); have U_3 := trivial; (with_reducible refine (pursuivantlaw14_few.calls (fun k_ => k_ < w.heap.size) _ _ l2 t111 _ ?gw4_ ?side1 A8.out).mono ?_); (case gw4_ => exact z2_); (case side1 => exact Kd.V_mk HC2.out (Kd.F_below (Kd.C_F k45_heap HR2.out) z6_)); rintro e w20 ⟨v112, rfl, ho0, hb⟩; have n0_ := Aside0.mk (Kd.V_below z15_ hb); have n1_ := Aside0.mk (Kd.V_lower (Kd.V_mono (ok' := fun k_ => True) ho0 (fun k_ hk_ => trivial)) (below_size z6_)); have n2_ := Aside0.mk (below_step z6_ hb); clear HO109; clear HB; have HO109 := n0_; have HO113 := n1_; have HB := n2_; clear n0_ n1_ n2_; (try clear hb); (try clear hb2); (try clear hk); (try clear hi); (try clear ho0); obtain ⟨Ao21, co21, eo21⟩ := Kd.V_slice HO113.out; subst eo21) | (go_at_call 9; (fail_if_success (have z_ := U_4)); have U_4 := trivial; (with_reducible refine (pursuivantref14_Needs.calls k a1 _ _ t111 t114 _ ?gw5_ ?side1 ?side2 A9.out).mono ?_); (case gw5_ => exact z2_); (case side1 => repeat (first | exact (Kd.V_reads' HO113.out).2.2 | (with_reducible refine Kd.C_alloc ?_ _) | (with_reducible refine Kd.C_drewN ?_ _) | (with_reducible refine Kd.C_drew ?_))); (case side2 => exact (Kd.V_reads' HO113.out).2.1); rintro e w22 ⟨rfl, hb⟩; have n0_ := Aside0.mk (Kd.V_below z15_ hb); have n1_ := Aside0.mk (Kd.V_below z16_ hb); have n2_ := Aside0.mk (below_step z6_ hb); clear HO109; clear HO113; clear HB; have HO109 := n0_; have HO113 := n1_; have HB := n2_; clear n0_ n1_ n2_; (try clear hb); (try clear hb2); (try clear hk); (try clear hi)) | (go_at_call 8; (fail_if_success (have z_ := U_5)); have U_5 := trivial; (with_reducible refine (pursuivantlaw14_few.calls (fun k_ => k_ < w.heap.size) _ _ l2 t115 _ ?gw6_ ?side1 A11.out).mono ?_); (case gw6_ => exact z2_); (case side1 => exact Kd.V_mk HC2.out (Kd.F_below (Kd.C_F k45_heap HR2.out) z6_)); rintro e w23 ⟨v116, rfl, ho0, hb⟩; have n0_ := Aside0.mk (Kd.V_below z15_ hb); have n1_ := Aside0.mk (Kd.V_below z16_ hb); have n2_ := Aside0.mk (Kd.V_lower (Kd.V_mono (ok' := fun k_ => True) ho0 (fun k_ hk_ => trivial)) (below_size z6_)); have n3_ := Aside0.mk (below_step z6_ hb); clear HO109; clear HO113; clear HB; have HO109 := n0_; have HO113 := n1_; have HO117 := n2_; have HB := n3_; clear n0_ n1_ n2_ n3_; (try clear hb); (try clear hb2); (try clear hk); (try clear hi); (try clear ho0); obtain ⟨Ao24, co24, eo24⟩ := Kd.V_slice HO117.out; subst eo24) | (go_at_call 11; (fail_if_success (have z_ := U_6)); have U_6 := trivial; (with_reducible refine (pre_Ask.calls k a0 a1 _ _ t115 t118 _ ?gw7_ ?side1 ?side2 A12.out).mono ?_); (case gw7_ => exact z2_); (case side1 => repeat (first | exact (Kd.V_reads' HO117.out).2.2 | (with_reducible refine Kd.C_alloc ?_ _) | (with_reducible refine Kd.C_drewN ?_ _) | (with_reducible refine Kd.C_drew ?_))); (case side2 => exact (Kd.V_reads' HO117.out).2.1); rintro e w25 ⟨v119, rfl, ho0, hb⟩; have n0_ := Aside0.mk (Kd.V_below z15_ hb); have n1_ := Aside0.mk (Kd.V_below z16_ hb); have n2_ := Aside0.mk (Kd.V_below z17_ hb); have n3_ := Aside0.mk (Kd.V_lower (Kd.V_mono (ok' := fun k_ => True) ho0 (fun k_ hk_ => trivial)) (below_size z6_)); have n4_ := Aside0.mk (below_step z6_ hb); clear HO109; clear HO113; clear HO117; clear HB; have HO109 := n0_; have HO113 := n1_; have HO117 := n2_; have HO120 := n3_; have HB := n4_; clear n0_ n1_ n2_ n3_ n4_; (try clear hb); (try clear hb2); (try clear hk); (try clear hi); (try clear ho0)) | (go_at_call 8; (fail_if_success (have z_ := U_7)); have U_7 := trivial; (with_reducible refine (pursuivantlaw14_few.calls (fun k_ => k_ < w.heap.size) _ _ l2 t121 _ ?gw8_ ?side1 A13.out).mono ?_); (case gw8_ => exact z2_); (case side1 => exact Kd.V_mk HC2.out (Kd.F_below (Kd.C_F k45_heap HR2.out) z6_)); rintro e w26 ⟨v122, rfl, ho0, hb⟩; have n0_ := Aside0.mk (Kd.V_below z15_ hb); have n1_ := Aside0.mk (Kd.V_below z16_ hb); have n2_ := Aside0.mk (Kd.V_below z17_ hb); have n3_ := Aside0.mk (Kd.V_below z13_ hb); have n4_ := Aside0.mk (Kd.V_lower (Kd.V_mono (ok' := fun k_ => True) ho0 (fun k_ hk_ => trivial)) (below_size z6_)); have n5_ := Aside0.mk (below_step z6_ hb); clear HO109; clear HO113; clear HO117; clear HO120; clear HB; have HO109 := n0_; have HO113 := n1_; have HO117 := n2_; have HO120 := n3_; have HO123 := n4_; have HB := n5_; clear n0_ n1_ n2_ n3_ n4_ n5_; (try clear hb); (try clear hb2); (try clear hk); (try clear hi); (try clear ho0); obtain ⟨Ao27, co27, eo27⟩ := Kd.V_slice HO123.out; subst eo27) | (go_at_call 12; (fail_if_success (have z_ := U_8)); have U_8 := trivial; (with_reducible refine (pursuivantref14_Ask.calls k a0 a1 _ _ t121 t124 _ ?gw9_ ?side1 ?side2 A14.out).mono ?_); (case gw9_ => exact z2_); (case side1 => repeat (first | exact (Kd.V_reads' HO123.out).2.2 | (with_reducible refine Kd.C_alloc ?_ _) | (with_reducible refine Kd.C_drewN ?_ _) | (with_reducible refine Kd.C_drew ?_))); (case side2 => exact (Kd.V_reads' HO123.out).2.1); rintro e w28 ⟨v125, rfl, ho0, hb⟩; have n0_ := Aside0.mk (Kd.V_elder' z15_ (Kd.R_base ho0) hb); have n1_ := Aside0.mk (Kd.V_elder' z16_ (Kd.R_base ho0) hb); have n2_ := Aside0.mk (Kd.V_elder' z17_ (Kd.R_base ho0) hb); have n3_ := Aside0.mk (Kd.V_elder' z13_ (Kd.R_base ho0) hb); have n4_ := Aside0.mk (Kd.V_elder' (by (with_reducible repeat (first | apply Kd.V_alloc | apply Kd.V_drewN | apply Kd.V_drew)); exact HO123.out) (Kd.R_base ho0) hb); have n5_ := Aside0.mk (Kd.R_lower ho0 (below_size z6_)); have n6_ := Aside0.mk (below_step z6_ hb); clear HO109; clear HO113; clear HO117; clear HO120; clear HO123; clear HB; have HO109 := n0_; have HO113 := n1_; have HO117 := n2_; have HO120 := n3_; have HO123 := n4_; have HO126 := n5_; have HB := n6_; clear n0_ n1_ n2_ n3_ n4_ n5_ n6_; (try clear hb); (try clear hb2); (try clear hk); (try clear hi); (try clear ho0); obtain ⟨Ao29, co29, eo29⟩ := Kd.V_slice HO120.out; subst eo29; obtain ⟨Ao30, co30, eo30⟩ := Kd.R_slice HO126.out; subst eo30) | (go_at_call 10; (fail_if_success (have z_ := U_9)); have U_9 := trivial; (with_reducible refine (pursuivantref09_Same.calls k _ _ t118 _ _ t124 t127 _ ?gw10_ ?side1 ?side2 ?side3 ?side4 A15.out).mono ?_); (case gw10_ => exact z2_); (case side1 => repeat (first | exact (Kd.V_reads' HO120.out).2.2 | (with_reducible refine Kd.C_alloc ?_ _) | (with_reducible refine Kd.C_drewN ?_ _) | (with_reducible refine Kd.C_drew ?_))); (case side2 => exact (Kd.V_reads' HO120.out).2.1); (case side3 => repeat (first | exact (Kd.R_reads' HO126.out).2.2 | (with_reducible refine Kd.C_alloc ?_ _) | (with_reducible refine Kd.C_drewN ?_ _) | (with_reducible refine Kd.C_drew ?_))); (case side4 => exact (Kd.R_reads' HO126.out).2.1); rintro e w' ⟨rfl, ⟨nd, rfl⟩⟩))
   go_ret
   exact ⟨z7_, z6_⟩
  ·rw [if_neg c10] at H
   have c10b0 : (t110 == t114) = false := by simpa using c10
   (try (have c10b1 : decide (t110 = t114) = false := by simpa using c10))
   (try (have c10b2 : (t110 == t114) = false := by simpa using c10))
   (try (have c10b3 : ¬ (t110 = t114) := by simpa using c10))
   clear c10
   exact absurd ((Option.some.inj H).trans hr_) Bool.false_ne_true
 ·replace c5 := Bool.eq_false_iff.mpr c5
  subst c5
  have H1 : (some false) = some r := by rw [if_neg (show ¬ (false = true) by decide)] at H; exact H
  clear H
  have H := H1
  clear H1
  exact absurd ((Option.some.inj H).trans hr_) Bool.false_ne_true

end Go.Proofs.YtfibkgmbgdaeoaaGreatDoor.Hand
