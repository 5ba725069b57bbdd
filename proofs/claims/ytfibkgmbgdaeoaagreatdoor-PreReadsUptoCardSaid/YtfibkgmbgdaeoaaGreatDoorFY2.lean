/- What each Go function here computes, and that its call computes it, over contracts proved by hand (written by this project's xprint.py, which drives the kit's print). -/
import Derived.Test.YtfibkgmbgdaeoaaGreatDoorZ
import Derived.Test.YtfibkgmbgdaeoaaGreatDoorK
import Derived.Test.YtfibkgmbgdaeoaaGreatDoorPreJ
import Derived.Test.YtfibkgmbgdaeoaaGreatDoorPreL
import Derived.Test.YtfibkgmbgdaeoaaGreatDoorPreR
import Derived.Test.YtfibkgmbgdaeoaaGreatDoorSafeU
import Derived.Test.YtfibkgmbgdaeoaaGreatDoorSafeR
import Derived.Test.YtfibkgmbgdaeoaaGreatDoorList
import Derived.Test.YtfibkgmbgdaeoaaGreatDoorFA1
import Derived.Test.YtfibkgmbgdaeoaaGreatDoorFP1
import Derived.Test.YtfibkgmbgdaeoaaGreatDoorFPB1
import Derived.Test.YtfibkgmbgdaeoaaGreatDoorFYA1
import Derived.Test.YtfibkgmbgdaeoaaGreatDoorFYB1
import Derived.Test.YtfibkgmbgdaeoaaGreatDoorFY1
namespace Go.Proofs.YtfibkgmbgdaeoaaGreatDoor.Hand
open Go.RowKit Go.Proofs.YtfibkgmbgdaeoaaGreatDoorW.PrintWords Go.Proofs.YtfibkgmbgdaeoaaGreatDoorW.PrintLast Go.Proofs.YtfibkgmbgdaeoaaGreatDoorW.PrintMore
attribute [local go_sem] Instr.field asAgg max2_int min2_int max_two min_two max_three min_three max_four min_four   -- for this text's walks alone
set_option linter.unusedVariables false
set_option linter.unusedSimpArgs false

attribute [local go_sem high] eqA45
def pre_Needs.f (k : Nat) (a0 : ByteArray) (l1 : List (S45)) : Option (Bool) := (safe_Simple.f a0).bind fun t101 => (if t101 = true then ((safe_Unsafe.f k l1).bind fun t102 => (some (decide ((t102.length : Int) > 0)))) else (some true))
set_option maxHeartbeats 8000000 in
set_option maxRecDepth 100000 in
theorem pre_Needs.calls (k : Nat) (a0 : ByteArray) (A1 : Option Addr) (c1 : Nat) (l1 : List (S45)) (r : Bool) (w : World) (hG_ : GW w) (hr1 : Kd.C k45 w A1 l1.length l1) (hc1 : l1.length ≤ c1) (h : pre_Needs.f k a0 l1 = some r) :
  Calls Tryz.prog 7 #[.string a0, .slice A1 l1.length c1] w fun e w' => e = .returned (.bool r) ∧ Below w.heap.size w w' := by
 have HR1 := Aside0.mk hr1; have HC1 := Aside0.mk hc1; clear hr1 hc1
 have HB := Aside0.mk (Below.refl w.heap.size w)
 have H : ((safe_Simple.f a0).bind fun t101 => (if t101 = true then ((safe_Unsafe.f k l1).bind fun t102 => (some (decide ((t102.length : Int) > 0)))) else (some true))) = some r := h
 clear h
 replace H := Option.bind_eq_some_iff.mp H
 obtain ⟨t101, A30, H⟩ := H
 replace H : (if t101 = true then ((safe_Unsafe.f k l1).bind fun t102 => (some (decide ((t102.length : Int) > 0)))) else (some true)) = some r := H
 have A3 := Aside0.mk A30; clear A30
 by_cases c4 : t101 = true
 ·subst c4
  have H1 : ((safe_Unsafe.f k l1).bind fun t102 => (some (decide ((t102.length : Int) > 0)))) = some r := by rw [if_pos rfl] at H; exact H
  clear H
  have H := H1
  clear H1
  replace H := Option.bind_eq_some_iff.mp H
  obtain ⟨t102, A50, H⟩ := H
  replace H : (some (decide ((t102.length : Int) > 0))) = some r := H
  have A5 := Aside0.mk A50; clear A50
  obtain rfl := Option.some.inj H
  go_enter Tryz.func7, Tryz.ntmps7
  go_wp2_with (first | ((with_reducible refine gate_callee (f := 19) rfl ?_); refine goesL_ (some 6) rfl rfl Tryz.func19 (by kernel_rfl) rfl #[.string a0] rfl z24_ ?_; (with_reducible refine (safe_Simple.calls a0 true _ ?gw1_ A3.out).mono ?_); (case gw1_ => exact z4_); rintro e w' ⟨rfl, ⟨nd, rfl⟩⟩; refine ⟨_, rfl, ?_⟩) | (go_at_call 20; (fail_if_success (have z_ := U_1)); have U_1 := trivial; (with_reducible refine (safe_Unsafe.calls k _ _ l1 t102 _ ?gw2_ ?side1 ?side2 A5.out).mono ?_); (case gw2_ => exact z4_); (case side1 => repeat (first | exact HR1.out | (with_reducible refine Kd.C_alloc ?_ _) | (with_reducible refine Kd.C_drewN ?_ _) | (with_reducible refine Kd.C_drew ?_))); (case side2 => exact HC1.out); rintro e w6 ⟨v103, rfl, ho0, hb⟩; have n0_ := Aside0.mk (Kd.V_lower (Kd.V_mono (ok' := fun k_ => True) ho0 (fun k_ hk_ => trivial)) (below_size z25_)); have n1_ := Aside0.mk (below_step z25_ hb); clear HB; have HO104 := n0_; have HB := n1_; clear n0_ n1_; (try clear hb); (try clear hb2); (try clear hk); (try clear hi); (try clear ho0); obtain ⟨Ao7, co7, eo7⟩ := Kd.V_slice HO104.out; subst eo7))
  go_ret
  exact ⟨z28_, z25_⟩
 ·replace c4 := Bool.eq_false_iff.mpr c4
  subst c4
  have H1 : (some true) = some r := by rw [if_neg (show ¬ (false = true) by decide)] at H; exact H
  clear H
  have H := H1
  clear H1
  obtain rfl := Option.some.inj H
  go_enter Tryz.func7, Tryz.ntmps7
  go_wp2_with (first | ((with_reducible refine gate_callee (f := 19) rfl ?_); refine goesL_ (some 6) rfl rfl Tryz.func19 (by kernel_rfl) rfl #[.string a0] rfl z24_ ?_; (with_reducible refine (safe_Simple.calls a0 false _ ?gw3_ A3.out).mono ?_); (case gw3_ => exact z4_); rintro e w' ⟨rfl, ⟨nd, rfl⟩⟩; refine ⟨_, rfl, ?_⟩))
  go_ret
  exact ⟨z28_, z25_⟩

def pre_Ask.f (k : Nat) (a0 a1 : ByteArray) (l2 : List (S45)) : Option ((List (S45))) := (some (([(⟨(⟨#[65, 99, 99, 101, 112, 116]⟩ : ByteArray), (⟨#[42, 47, 42]⟩ : ByteArray)⟩ : S45), (⟨(⟨#[65, 99, 99, 101, 115, 115, 45, 67, 111, 110, 116, 114, 111, 108, 45, 82, 101, 113, 117, 101, 115, 116, 45, 77, 101, 116, 104, 111, 100]⟩ : ByteArray), a1⟩ : S45)] : List (S45)) : List (S45))).bind fun y105 => ((safe_Unsafe.f k l2).bind fun t108 => (if (t108.length : Int) > 0 then ((strings_Join.f t108 (⟨#[44]⟩ : ByteArray)).bind fun t111 => (if y105.length < 4398046511104 then ((some (y105 ++ [(⟨(⟨#[65, 99, 99, 101, 115, 115, 45, 67, 111, 110, 116, 114, 111, 108, 45, 82, 101, 113, 117, 101, 115, 116, 45, 72, 101, 97, 100, 101, 114, 115]⟩ : ByteArray), t111⟩ : S45)] : List (S45))).bind fun y112 => (if y112.length < 4398046511104 then ((slices_ClipH.f (y112 ++ [(⟨(⟨#[79, 114, 105, 103, 105, 110]⟩ : ByteArray), a0⟩ : S45)])).bind fun t118 => (some t118)) else (none))) else (none))) else (if y105.length < 4398046511104 then ((slices_ClipH.f (y105 ++ [(⟨(⟨#[79, 114, 105, 103, 105, 110]⟩ : ByteArray), a0⟩ : S45)])).bind fun t124 => (some t124)) else (none))))
set_option maxHeartbeats 8000000 in
set_option maxRecDepth 100000 in
theorem pre_Ask.calls (k : Nat) (a0 a1 : ByteArray) (A2 : Option Addr) (c2 : Nat) (l2 : List (S45)) (r : List (S45)) (w : World) (hG_ : GW w) (hr2 : Kd.C k45 w A2 l2.length l2) (hc2 : l2.length ≤ c2) (h : pre_Ask.f k a0 a1 l2 = some r) :
  Calls Tryz.prog 11 #[.string a0, .string a1, .slice A2 l2.length c2] w fun e w' => ∃ v0_ : Value, e = .returned (v0_) ∧ Kd.V k45 45 w' w.heap.size (fun k_ => (w.heap.size ≤ k_)) v0_ r ∧ Below w.heap.size w w' := by
 have hu45 := Tryz.underlying45
 have HR2 := Aside0.mk hr2; have HC2 := Aside0.mk hc2; clear hr2 hc2
 have HB := Aside0.mk (Below.refl w.heap.size w)
 have H : ((some (([(⟨(⟨#[65, 99, 99, 101, 112, 116]⟩ : ByteArray), (⟨#[42, 47, 42]⟩ : ByteArray)⟩ : S45), (⟨(⟨#[65, 99, 99, 101, 115, 115, 45, 67, 111, 110, 116, 114, 111, 108, 45, 82, 101, 113, 117, 101, 115, 116, 45, 77, 101, 116, 104, 111, 100]⟩ : ByteArray), a1⟩ : S45)] : List (S45)) : List (S45))).bind fun y105 => ((safe_Unsafe.f k l2).bind fun t108 => (if (t108.length : Int) > 0 then ((strings_Join.f t108 (⟨#[44]⟩ : ByteArray)).bind fun t111 => (if y105.length < 4398046511104 then ((some (y105 ++ [(⟨(⟨#[65, 99, 99, 101, 115, 115, 45, 67, 111, 110, 116, 114, 111, 108, 45, 82, 101, 113, 117, 101, 115, 116, 45, 72, 101, 97, 100, 101, 114, 115]⟩ : ByteArray), t111⟩ : S45)] : List (S45))).bind fun y112 => (if y112.length < 4398046511104 then ((slices_ClipH.f (y112 ++ [(⟨(⟨#[79, 114, 105, 103, 105, 110]⟩ : ByteArray), a0⟩ : S45)])).bind fun t118 => (some t118)) else (none))) else (none))) else (if y105.length < 4398046511104 then ((slices_ClipH.f (y105 ++ [(⟨(⟨#[79, 114, 105, 103, 105, 110]⟩ : ByteArray), a0⟩ : S45)])).bind fun t124 => (some t124)) else (none))))) = some r := h
 clear h
 obtain ⟨y105, hy105⟩ : ∃ y_ : List (S45), y_ = (([(⟨(⟨#[65, 99, 99, 101, 112, 116]⟩ : ByteArray), (⟨#[42, 47, 42]⟩ : ByteArray)⟩ : S45), (⟨(⟨#[65, 99, 99, 101, 115, 115, 45, 67, 111, 110, 116, 114, 111, 108, 45, 82, 101, 113, 117, 101, 115, 116, 45, 77, 101, 116, 104, 111, 100]⟩ : ByteArray), a1⟩ : S45)] : List (S45))) := ⟨_, rfl⟩
 replace H : ((safe_Unsafe.f k l2).bind fun t108 => (if (t108.length : Int) > 0 then ((strings_Join.f t108 (⟨#[44]⟩ : ByteArray)).bind fun t111 => (if y105.length < 4398046511104 then ((some (y105 ++ [(⟨(⟨#[65, 99, 99, 101, 115, 115, 45, 67, 111, 110, 116, 114, 111, 108, 45, 82, 101, 113, 117, 101, 115, 116, 45, 72, 101, 97, 100, 101, 114, 115]⟩ : ByteArray), t111⟩ : S45)] : List (S45))).bind fun y112 => (if y112.length < 4398046511104 then ((slices_ClipH.f (y112 ++ [(⟨(⟨#[79, 114, 105, 103, 105, 110]⟩ : ByteArray), a0⟩ : S45)])).bind fun t118 => (some t118)) else (none))) else (none))) else (if y105.length < 4398046511104 then ((slices_ClipH.f (y105 ++ [(⟨(⟨#[79, 114, 105, 103, 105, 110]⟩ : ByteArray), a0⟩ : S45)])).bind fun t124 => (some t124)) else (none)))) = some r := by first | (rw [hy105]; with_reducible exact H) | (have H2_ := (Option.bind_some _ _).symm.trans H; rw [hy105]; with_reducible exact H2_) | (have H2_ := (Option.bind_some _ _).symm.trans H; with_reducible exact H2_) | with_reducible exact H | (rw [hy105]; exact H) | exact H
 have Ny105 := Aside0.mk hy105; clear hy105
 replace H := Option.bind_eq_some_iff.mp H
 obtain ⟨t108, A40, H⟩ := H
 replace H : (if (t108.length : Int) > 0 then ((strings_Join.f t108 (⟨#[44]⟩ : ByteArray)).bind fun t111 => (if y105.length < 4398046511104 then ((some (y105 ++ [(⟨(⟨#[65, 99, 99, 101, 115, 115, 45, 67, 111, 110, 116, 114, 111, 108, 45, 82, 101, 113, 117, 101, 115, 116, 45, 72, 101, 97, 100, 101, 114, 115]⟩ : ByteArray), t111⟩ : S45)] : List (S45))).bind fun y112 => (if y112.length < 4398046511104 then ((slices_ClipH.f (y112 ++ [(⟨(⟨#[79, 114, 105, 103, 105, 110]⟩ : ByteArray), a0⟩ : S45)])).bind fun t118 => (some t118)) else (none))) else (none))) else (if y105.length < 4398046511104 then ((slices_ClipH.f (y105 ++ [(⟨(⟨#[79, 114, 105, 103, 105, 110]⟩ : ByteArray), a0⟩ : S45)])).bind fun t124 => (some t124)) else (none))) = some r := H
 have A4 := Aside0.mk A40; clear A40
 by_cases c5 : (t108.length : Int) > 0
 ·rw [if_pos c5] at H
  have c5b0 : decide (0 < (t108.length : Int)) = true := decide_eq_true c5
  have c5b1 : decide (0 < t108.length) = true := decide_eq_true (by omega)
  clear c5
  replace H := Option.bind_eq_some_iff.mp H
  obtain ⟨t111, A60, H⟩ := H
  replace H : (if y105.length < 4398046511104 then ((some (y105 ++ [(⟨(⟨#[65, 99, 99, 101, 115, 115, 45, 67, 111, 110, 116, 114, 111, 108, 45, 82, 101, 113, 117, 101, 115, 116, 45, 72, 101, 97, 100, 101, 114, 115]⟩ : ByteArray), t111⟩ : S45)] : List (S45))).bind fun y112 => (if y112.length < 4398046511104 then ((slices_ClipH.f (y112 ++ [(⟨(⟨#[79, 114, 105, 103, 105, 110]⟩ : ByteArray), a0⟩ : S45)])).bind fun t118 => (some t118)) else (none))) else (none)) = some r := H
  have A6 := Aside0.mk A60; clear A60
  by_cases c7 : y105.length < 4398046511104
  ·rw [if_pos c7] at H
   have LMc7 := Aside0.mk c7; clear c7
   obtain ⟨y112, hy112⟩ : ∃ y_ : List (S45), y_ = (y105 ++ [(⟨(⟨#[65, 99, 99, 101, 115, 115, 45, 67, 111, 110, 116, 114, 111, 108, 45, 82, 101, 113, 117, 101, 115, 116, 45, 72, 101, 97, 100, 101, 114, 115]⟩ : ByteArray), t111⟩ : S45)]) := ⟨_, rfl⟩
   replace H : (if y112.length < 4398046511104 then ((slices_ClipH.f (y112 ++ [(⟨(⟨#[79, 114, 105, 103, 105, 110]⟩ : ByteArray), a0⟩ : S45)])).bind fun t118 => (some t118)) else (none)) = some r := by first | (rw [hy112]; with_reducible exact H) | (have H2_ := (Option.bind_some _ _).symm.trans H; rw [hy112]; with_reducible exact H2_) | (have H2_ := (Option.bind_some _ _).symm.trans H; with_reducible exact H2_) | with_reducible exact H | (rw [hy112]; exact H) | exact H
   have Ny112 := Aside0.mk hy112; clear hy112
   by_cases c8 : y112.length < 4398046511104
   ·rw [if_pos c8] at H
    have LMc8 := Aside0.mk c8; clear c8
    obtain ⟨y115, hy115⟩ : ∃ y_ : List (S45), y_ = (y112 ++ [(⟨(⟨#[79, 114, 105, 103, 105, 110]⟩ : ByteArray), a0⟩ : S45)]) := ⟨_, rfl⟩
    replace H : ((slices_ClipH.f y115).bind fun t118 => (some t118)) = some r := by first | (rw [hy115]; with_reducible exact H) | (have H2_ := (Option.bind_some _ _).symm.trans H; rw [hy115]; with_reducible exact H2_) | (have H2_ := (Option.bind_some _ _).symm.trans H; with_reducible exact H2_) | with_reducible exact H | (rw [hy115]; exact H) | exact H
    have Ny115 := Aside0.mk hy115; clear hy115
    replace H := Option.bind_eq_some_iff.mp H
    obtain ⟨t118, A90, H⟩ := H
    replace H : (some t118) = some r := H
    have A9 := Aside0.mk A90; clear A90
    obtain rfl := Option.some.inj H
    go_enter Tryz.func11, Tryz.ntmps11
    go_wp2_with (first | ((with_reducible refine gate_dst (N := 12) rfl ?_); refine Kd.R_lit k45 _ 45 ?hg (N := 12) ?hd (xs := ([(⟨(⟨#[65, 99, 99, 101, 112, 116]⟩ : ByteArray), (⟨#[42, 47, 42]⟩ : ByteArray)⟩ : S45), (⟨(⟨#[65, 99, 99, 101, 115, 115, 45, 67, 111, 110, 116, 114, 111, 108, 45, 82, 101, 113, 117, 101, 115, 116, 45, 77, 101, 116, 104, 111, 100]⟩ : ByteArray), a1⟩ : S45)] : List (S45))) (inner := [.string (⟨#[65, 99, 99, 101, 112, 116]⟩ : ByteArray), .string (⟨#[42, 47, 42]⟩ : ByteArray), .string (⟨#[65, 99, 99, 101, 115, 115, 45, 67, 111, 110, 116, 114, 111, 108, 45, 82, 101, 113, 117, 101, 115, 116, 45, 77, 101, 116, 104, 111, 100]⟩ : ByteArray), .string a1]) (ok := fun _ => True) (okp := fun _ => True) ?hr ?hp (fun _ hk => hk) trivial (Below.refl _ _) (Nat.le_refl _) (by simp) ?_; (case hd => rfl); (case hg => rfl); (case hr => first | (go_simp; done) | (go_simp; rfl)); (case hp => exact (Reps.c2 (show Kd.M k45 _ _ _ (⟨(⟨#[65, 99, 99, 101, 112, 116]⟩ : ByteArray), (⟨#[42, 47, 42]⟩ : ByteArray)⟩ : S45) [.string (⟨#[65, 99, 99, 101, 112, 116]⟩ : ByteArray), .string (⟨#[42, 47, 42]⟩ : ByteArray)] from (k45_mkM _ _ _ (⟨(⟨#[65, 99, 99, 101, 112, 116]⟩ : ByteArray), (⟨#[42, 47, 42]⟩ : ByteArray)⟩ : S45) )) (Reps.c2 (show Kd.M k45 _ _ _ (⟨(⟨#[65, 99, 99, 101, 115, 115, 45, 67, 111, 110, 116, 114, 111, 108, 45, 82, 101, 113, 117, 101, 115, 116, 45, 77, 101, 116, 104, 111, 100]⟩ : ByteArray), a1⟩ : S45) [.string (⟨#[65, 99, 99, 101, 115, 115, 45, 67, 111, 110, 116, 114, 111, 108, 45, 82, 101, 113, 117, 101, 115, 116, 45, 77, 101, 116, 104, 111, 100]⟩ : ByteArray), .string a1] from (k45_mkM _ _ _ (⟨(⟨#[65, 99, 99, 101, 115, 115, 45, 67, 111, 110, 116, 114, 111, 108, 45, 82, 101, 113, 117, 101, 115, 116, 45, 77, 101, 116, 104, 111, 100]⟩ : ByteArray), a1⟩ : S45) )) (Reps.none _ _)))); intro v106 w10 ho11 hb hg_ hnew_; clear hg_ hnew_; (first | rw [← Ny105.out] at ho11 | (simp only [Int.reduceToNat] at ho11; rw [← Ny105.out] at ho11)); have n0_ := Aside0.mk (Kd.R_lower (Kd.R_newM (M := fun k_ => (w.heap.size ≤ k_)) ho11 (below_size z25_) (fun k_ h_ => h_)) (below_size z25_)); have n1_ := Aside0.mk (below_step z25_ hb); clear HB; have HO107 := n0_; have HB := n1_; clear n0_ n1_; clear hb ho11) | ((with_reducible refine gate_callee (f := 20) rfl ?_); refine goesL_ (some 14) rfl rfl Tryz.func20 (by kernel_rfl) rfl #[.slice A2 l2.length c2] rfl z24_ ?_; (with_reducible refine (safe_Unsafe.calls k _ _ l2 t108 _ ?gw4_ ?side1 ?side2 A4.out).mono ?_); (case gw4_ => exact z4_); (case side1 => repeat (first | exact (Kd.C_below HR2.out HB.out) | (with_reducible refine Kd.C_alloc ?_ _) | (with_reducible refine Kd.C_drewN ?_ _) | (with_reducible refine Kd.C_drew ?_))); (case side2 => exact HC2.out); rintro e w12 ⟨v109, rfl, ho0, hb⟩; refine ⟨_, rfl, ?_⟩; have n0_ := Aside0.mk (Kd.R_below z43_ hb); have n1_ := Aside0.mk (Kd.V_lower (Kd.V_mono (ok' := fun k_ => (w.heap.size ≤ k_) ∧ some k_ ≠ (v106 : Value).ownBlock) ho0 (fun k_ hk_ => ⟨(Nat.le_trans (below_size z25_) hk_), (Kd.fresh' (Kd.R_lt z43_) k_ hk_)⟩)) (below_size z25_)); have n2_ := Aside0.mk (below_step z25_ hb); clear HO107; clear HB; have HO107 := n0_; have HO110 := n1_; have HB := n2_; clear n0_ n1_ n2_; (try clear hb); (try clear hb2); (try clear hk); (try clear hi); (try clear ho0); obtain ⟨Ao13, co13, eo13⟩ := Kd.V_slice HO110.out; subst eo13) | ((with_reducible refine gate_callee (f := 23) rfl ?_); refine goesL_ (some 20) rfl rfl Tryz.func23 (by kernel_rfl) rfl #[.slice Ao13 t108.length co13, .string (⟨#[44]⟩ : ByteArray)] rfl z24_ ?_; (with_reducible refine (strings_Join.calls _ _ t108 (⟨#[44]⟩ : ByteArray) t111 _ ?gw5_ ?side1 ?side2 A6.out).mono ?_); (case gw5_ => exact z4_); (case side1 => repeat (first | exact (Kd.V_reads' HO110.out).2.2 | (with_reducible refine Kd.C_alloc ?_ _) | (with_reducible refine Kd.C_drewN ?_ _) | (with_reducible refine Kd.C_drew ?_))); (case side2 => exact (Kd.V_reads' HO110.out).2.1); rintro e w14 ⟨rfl, hb⟩; refine ⟨_, rfl, ?_⟩; have n0_ := Aside0.mk (Kd.R_below z43_ hb); have n1_ := Aside0.mk (Kd.V_below z44_ hb); have n2_ := Aside0.mk (below_step z25_ hb); clear HO107; clear HO110; clear HB; have HO107 := n0_; have HO110 := n1_; have HB := n2_; clear n0_ n1_ n2_; (try clear hb); (try clear hb2); (try clear hk); (try clear hi)) | ((with_reducible refine gate_builtin (b := .append) (xs := #[.tmp 18, .tmp 22]) rfl ?_); at_builtin; refine Kd.R_append k45 (w0 := w) w.heap.size rfl (.tmp 18) (.tmp 22) 22 45 (.agg #[(.string ⟨#[]⟩), (.string ⟨#[]⟩)]) 32 rfl Tryz.underlying22 info45 rfl (by decide) (by omega) v106 y105 (⟨(⟨#[65, 99, 99, 101, 115, 115, 45, 67, 111, 110, 116, 114, 111, 108, 45, 82, 101, 113, 117, 101, 115, 116, 45, 72, 101, 97, 100, 101, 114, 115]⟩ : ByteArray), t111⟩ : S45) [.string (⟨#[65, 99, 99, 101, 115, 115, 45, 67, 111, 110, 116, 114, 111, 108, 45, 82, 101, 113, 117, 101, 115, 116, 45, 72, 101, 97, 100, 101, 114, 115]⟩ : ByteArray), .string t111] (fun k_ => (w.heap.size ≤ k_)) (fun _ => False) rfl rfl ?aP (fun _ hk => hk.elim) ?aF ?aO ?aB ?aS ?aL ?_; (case aP => exact k45_mkM _ _ _ (⟨(⟨#[65, 99, 99, 101, 115, 115, 45, 67, 111, 110, 116, 114, 111, 108, 45, 82, 101, 113, 117, 101, 115, 116, 45, 72, 101, 97, 100, 101, 114, 115]⟩ : ByteArray), t111⟩ : S45)); (case aB => exact z25_); (case aF => exact (fun k_ hk => (Nat.le_trans (below_size z25_) hk))); (case aO => exact (by (with_reducible repeat (first | apply Kd.R_alloc | apply Kd.R_drewN | apply Kd.R_drew)); exact Kd.R_mono HO107.out (fun _ hk => hk.1))); (case aS => exact (below_size z25_)); (case aL => have := LMc7.out; omega); intro v113 w15 ho hb hg hat; rw [← Ny112.out] at ho; have n0_ := Aside0.mk (Kd.V_afterv (ok := (fun k_ => (w.heap.size ≤ k_))) z44_ hg hat); have n1_ := Aside0.mk (hb); have n2_ := Aside0.mk (ho); clear HO110; clear HB; clear HO107; have HO110 := n0_; have HB := n1_; have HO114 := n2_; clear n0_ n1_ n2_; clear ho hb hg hat) | ((with_reducible refine gate_builtin (b := .append) (xs := #[.tmp 24, .tmp 27]) rfl ?_); at_builtin; refine Kd.R_append k45 (w0 := w) w.heap.size rfl (.tmp 24) (.tmp 27) 22 45 (.agg #[(.string ⟨#[]⟩), (.string ⟨#[]⟩)]) 32 rfl Tryz.underlying22 info45 rfl (by decide) (by omega) v113 y112 (⟨(⟨#[79, 114, 105, 103, 105, 110]⟩ : ByteArray), a0⟩ : S45) [.string (⟨#[79, 114, 105, 103, 105, 110]⟩ : ByteArray), .string a0] (fun k_ => (w.heap.size ≤ k_)) (fun _ => False) rfl rfl ?aP (fun _ hk => hk.elim) ?aF ?aO ?aB ?aS ?aL ?_; (case aP => exact k45_mkM _ _ _ (⟨(⟨#[79, 114, 105, 103, 105, 110]⟩ : ByteArray), a0⟩ : S45)); (case aB => exact z25_); (case aF => exact (fun k_ hk => (Nat.le_trans (below_size z25_) hk))); (case aO => exact (by (with_reducible repeat (first | apply Kd.R_alloc | apply Kd.R_drewN | apply Kd.R_drew)); exact HO114.out)); (case aS => exact (below_size z25_)); (case aL => have := LMc8.out; omega); intro v116 w16 ho hb hg hat; rw [← Ny115.out] at ho; have n0_ := Aside0.mk (Kd.V_afterv (ok := (fun k_ => (w.heap.size ≤ k_))) z44_ hg hat); have n1_ := Aside0.mk (hb); have n2_ := Aside0.mk (ho); clear HO110; clear HB; clear HO114; have HO110 := n0_; have HB := n1_; have HO117 := n2_; clear n0_ n1_ n2_; clear ho hb hg hat; obtain ⟨Ao17, co17, eo17⟩ := Kd.R_slice HO117.out; subst eo17) | ((with_reducible refine gate_callee (f := 24) rfl ?_); refine goesL_ (some 29) rfl rfl Tryz.func24 (by kernel_rfl) rfl #[.slice Ao17 y115.length co17] rfl z24_ ?_; (with_reducible refine (slices_ClipH.calls (fun k_ => some k_ = (.slice Ao17 y115.length co17 : Value).ownBlock) _ _ y115 t118 _ ?gw6_ ?side1 A9.out).mono ?_); (case gw6_ => exact z4_); (case side1 => exact Kd.R_V (Kd.R_tight rfl (HO117.out))); rintro e w18 ⟨v119, rfl, ho0, hb⟩; refine ⟨_, rfl, ?_⟩; have n0_ := Aside0.mk (Kd.V_below z44_ hb); have n1_ := Aside0.mk (Kd.R_below (by (with_reducible repeat (first | apply Kd.R_alloc | apply Kd.R_drewN | apply Kd.R_drew)); exact HO117.out) hb); have n2_ := Aside0.mk (Kd.V_lower (Kd.V_mono (ok' := fun k_ => (w.heap.size ≤ k_)) ho0 (fun k_ hk_ => Or.elim hk_ (fun hs_ => ((HO117.out).1 k_ hs_.symm)) (fun hn_ => (Nat.le_trans (below_size z25_) hn_)))) (below_size z25_)); have n3_ := Aside0.mk (below_step z25_ hb); clear HO110; clear HO117; clear HB; have HO110 := n0_; have HO117 := n1_; have HO120 := n2_; have HB := n3_; clear n0_ n1_ n2_ n3_; (try clear hb); (try clear hb2); (try clear hk); (try clear hi); (try clear ho0)))
    go_ret
    exact ⟨_, z28_, by (with_reducible repeat (first | apply Kd.V_alloc | apply Kd.V_drewN | apply Kd.V_drew)); exact HO120.out, z25_⟩
   ·rw [if_neg c8] at H
    exact absurd H (by simp)
  ·rw [if_neg c7] at H
   exact absurd H (by simp)
 ·rw [if_neg c5] at H
  have c5b0 : decide (0 < (t108.length : Int)) = false := decide_eq_false c5
  have c5b1 : decide (0 < t108.length) = false := decide_eq_false (by omega)
  clear c5
  by_cases c19 : y105.length < 4398046511104
  ·rw [if_pos c19] at H
   have LMc19 := Aside0.mk c19; clear c19
   obtain ⟨y121, hy121⟩ : ∃ y_ : List (S45), y_ = (y105 ++ [(⟨(⟨#[79, 114, 105, 103, 105, 110]⟩ : ByteArray), a0⟩ : S45)]) := ⟨_, rfl⟩
   replace H : ((slices_ClipH.f y121).bind fun t124 => (some t124)) = some r := by first | (rw [hy121]; with_reducible exact H) | (have H2_ := (Option.bind_some _ _).symm.trans H; rw [hy121]; with_reducible exact H2_) | (have H2_ := (Option.bind_some _ _).symm.trans H; with_reducible exact H2_) | with_reducible exact H | (rw [hy121]; exact H) | exact H
   have Ny121 := Aside0.mk hy121; clear hy121
   replace H := Option.bind_eq_some_iff.mp H
   obtain ⟨t124, A200, H⟩ := H
   replace H : (some t124) = some r := H
   have A20 := Aside0.mk A200; clear A200
   obtain rfl := Option.some.inj H
   go_enter Tryz.func11, Tryz.ntmps11
   go_wp2_with (first | ((with_reducible refine gate_dst (N := 12) rfl ?_); refine Kd.R_lit k45 _ 45 ?hg (N := 12) ?hd (xs := ([(⟨(⟨#[65, 99, 99, 101, 112, 116]⟩ : ByteArray), (⟨#[42, 47, 42]⟩ : ByteArray)⟩ : S45), (⟨(⟨#[65, 99, 99, 101, 115, 115, 45, 67, 111, 110, 116, 114, 111, 108, 45, 82, 101, 113, 117, 101, 115, 116, 45, 77, 101, 116, 104, 111, 100]⟩ : ByteArray), a1⟩ : S45)] : List (S45))) (inner := [.string (⟨#[65, 99, 99, 101, 112, 116]⟩ : ByteArray), .string (⟨#[42, 47, 42]⟩ : ByteArray), .string (⟨#[65, 99, 99, 101, 115, 115, 45, 67, 111, 110, 116, 114, 111, 108, 45, 82, 101, 113, 117, 101, 115, 116, 45, 77, 101, 116, 104, 111, 100]⟩ : ByteArray), .string a1]) (ok := fun _ => True) (okp := fun _ => True) ?hr ?hp (fun _ hk => hk) trivial (Below.refl _ _) (Nat.le_refl _) (by simp) ?_; (case hd => rfl); (case hg => rfl); (case hr => first | (go_simp; done) | (go_simp; rfl)); (case hp => exact (Reps.c2 (show Kd.M k45 _ _ _ (⟨(⟨#[65, 99, 99, 101, 112, 116]⟩ : ByteArray), (⟨#[42, 47, 42]⟩ : ByteArray)⟩ : S45) [.string (⟨#[65, 99, 99, 101, 112, 116]⟩ : ByteArray), .string (⟨#[42, 47, 42]⟩ : ByteArray)] from (k45_mkM _ _ _ (⟨(⟨#[65, 99, 99, 101, 112, 116]⟩ : ByteArray), (⟨#[42, 47, 42]⟩ : ByteArray)⟩ : S45) )) (Reps.c2 (show Kd.M k45 _ _ _ (⟨(⟨#[65, 99, 99, 101, 115, 115, 45, 67, 111, 110, 116, 114, 111, 108, 45, 82, 101, 113, 117, 101, 115, 116, 45, 77, 101, 116, 104, 111, 100]⟩ : ByteArray), a1⟩ : S45) [.string (⟨#[65, 99, 99, 101, 115, 115, 45, 67, 111, 110, 116, 114, 111, 108, 45, 82, 101, 113, 117, 101, 115, 116, 45, 77, 101, 116, 104, 111, 100]⟩ : ByteArray), .string a1] from (k45_mkM _ _ _ (⟨(⟨#[65, 99, 99, 101, 115, 115, 45, 67, 111, 110, 116, 114, 111, 108, 45, 82, 101, 113, 117, 101, 115, 116, 45, 77, 101, 116, 104, 111, 100]⟩ : ByteArray), a1⟩ : S45) )) (Reps.none _ _)))); intro v106 w21 ho22 hb hg_ hnew_; clear hg_ hnew_; (first | rw [← Ny105.out] at ho22 | (simp only [Int.reduceToNat] at ho22; rw [← Ny105.out] at ho22)); have n0_ := Aside0.mk (Kd.R_lower (Kd.R_newM (M := fun k_ => (w.heap.size ≤ k_)) ho22 (below_size z25_) (fun k_ h_ => h_)) (below_size z25_)); have n1_ := Aside0.mk (below_step z25_ hb); clear HB; have HO107 := n0_; have HB := n1_; clear n0_ n1_; clear hb ho22) | ((with_reducible refine gate_callee (f := 20) rfl ?_); refine goesL_ (some 14) rfl rfl Tryz.func20 (by kernel_rfl) rfl #[.slice A2 l2.length c2] rfl z24_ ?_; (with_reducible refine (safe_Unsafe.calls k _ _ l2 t108 _ ?gw7_ ?side1 ?side2 A4.out).mono ?_); (case gw7_ => exact z4_); (case side1 => repeat (first | exact (Kd.C_below HR2.out HB.out) | (with_reducible refine Kd.C_alloc ?_ _) | (with_reducible refine Kd.C_drewN ?_ _) | (with_reducible refine Kd.C_drew ?_))); (case side2 => exact HC2.out); rintro e w23 ⟨v109, rfl, ho0, hb⟩; refine ⟨_, rfl, ?_⟩; have n0_ := Aside0.mk (Kd.R_below z43_ hb); have n1_ := Aside0.mk (Kd.V_lower (Kd.V_mono (ok' := fun k_ => (w.heap.size ≤ k_) ∧ some k_ ≠ (v106 : Value).ownBlock) ho0 (fun k_ hk_ => ⟨(Nat.le_trans (below_size z25_) hk_), (Kd.fresh' (Kd.R_lt z43_) k_ hk_)⟩)) (below_size z25_)); have n2_ := Aside0.mk (below_step z25_ hb); clear HO107; clear HB; have HO107 := n0_; have HO110 := n1_; have HB := n2_; clear n0_ n1_ n2_; (try clear hb); (try clear hb2); (try clear hk); (try clear hi); (try clear ho0); obtain ⟨Ao24, co24, eo24⟩ := Kd.V_slice HO110.out; subst eo24) | ((with_reducible refine gate_builtin (b := .append) (xs := #[.tmp 24, .tmp 27]) rfl ?_); at_builtin; refine Kd.R_append k45 (w0 := w) w.heap.size rfl (.tmp 24) (.tmp 27) 22 45 (.agg #[(.string ⟨#[]⟩), (.string ⟨#[]⟩)]) 32 rfl Tryz.underlying22 info45 rfl (by decide) (by omega) v106 y105 (⟨(⟨#[79, 114, 105, 103, 105, 110]⟩ : ByteArray), a0⟩ : S45) [.string (⟨#[79, 114, 105, 103, 105, 110]⟩ : ByteArray), .string a0] (fun k_ => (w.heap.size ≤ k_)) (fun _ => False) rfl rfl ?aP (fun _ hk => hk.elim) ?aF ?aO ?aB ?aS ?aL ?_; (case aP => exact k45_mkM _ _ _ (⟨(⟨#[79, 114, 105, 103, 105, 110]⟩ : ByteArray), a0⟩ : S45)); (case aB => exact z25_); (case aF => exact (fun k_ hk => (Nat.le_trans (below_size z25_) hk))); (case aO => exact (by (with_reducible repeat (first | apply Kd.R_alloc | apply Kd.R_drewN | apply Kd.R_drew)); exact Kd.R_mono HO107.out (fun _ hk => hk.1))); (case aS => exact (below_size z25_)); (case aL => have := LMc19.out; omega); intro v122 w25 ho hb hg hat; rw [← Ny121.out] at ho; have n0_ := Aside0.mk (Kd.V_afterv (ok := (fun k_ => (w.heap.size ≤ k_))) z44_ hg hat); have n1_ := Aside0.mk (hb); have n2_ := Aside0.mk (ho); clear HO110; clear HB; clear HO107; have HO110 := n0_; have HB := n1_; have HO123 := n2_; clear n0_ n1_ n2_; clear ho hb hg hat; obtain ⟨Ao26, co26, eo26⟩ := Kd.R_slice HO123.out; subst eo26) | ((with_reducible refine gate_callee (f := 24) rfl ?_); refine goesL_ (some 29) rfl rfl Tryz.func24 (by kernel_rfl) rfl #[.slice Ao26 y121.length co26] rfl z24_ ?_; (with_reducible refine (slices_ClipH.calls (fun k_ => some k_ = (.slice Ao26 y121.length co26 : Value).ownBlock) _ _ y121 t124 _ ?gw8_ ?side1 A20.out).mono ?_); (case gw8_ => exact z4_); (case side1 => exact Kd.R_V (Kd.R_tight rfl (HO123.out))); rintro e w27 ⟨v125, rfl, ho0, hb⟩; refine ⟨_, rfl, ?_⟩; have n0_ := Aside0.mk (Kd.V_below z44_ hb); have n1_ := Aside0.mk (Kd.R_below (by (with_reducible repeat (first | apply Kd.R_alloc | apply Kd.R_drewN | apply Kd.R_drew)); exact HO123.out) hb); have n2_ := Aside0.mk (Kd.V_lower (Kd.V_mono (ok' := fun k_ => (w.heap.size ≤ k_)) ho0 (fun k_ hk_ => Or.elim hk_ (fun hs_ => ((HO123.out).1 k_ hs_.symm)) (fun hn_ => (Nat.le_trans (below_size z25_) hn_)))) (below_size z25_)); have n3_ := Aside0.mk (below_step z25_ hb); clear HO110; clear HO123; clear HB; have HO110 := n0_; have HO123 := n1_; have HO126 := n2_; have HB := n3_; clear n0_ n1_ n2_ n3_; (try clear hb); (try clear hb2); (try clear hk); (try clear hi); (try clear ho0)))
   go_ret
   exact ⟨_, z28_, by (with_reducible repeat (first | apply Kd.V_alloc | apply Kd.V_drewN | apply Kd.V_drew)); exact HO126.out, z25_⟩
  ·rw [if_neg c19] at H
   exact absurd H (by simp)

def pursuivantref09_Alike.f (k : Nat) (a0 a1 : ByteArray) : Option (Bool) := (pursuivantref04_Lower.f k a0).bind fun t150 => ((pursuivantref04_Lower.f k a1).bind fun t151 => (some (t150.toList == t151.toList)))
set_option maxHeartbeats 8000000 in
set_option maxRecDepth 100000 in
theorem pursuivantref09_Alike.calls (k : Nat) (a0 a1 : ByteArray) (r : Bool) (w : World) (hG_ : GW w) (h : pursuivantref09_Alike.f k a0 a1 = some r) :
  Calls Tryz.prog 56 #[.string a0, .string a1] w fun e w' => e = .returned (.bool r) ∧ Below w.heap.size w w' := by
 have HB := Aside0.mk (Below.refl w.heap.size w)
 have H : ((pursuivantref04_Lower.f k a0).bind fun t150 => ((pursuivantref04_Lower.f k a1).bind fun t151 => (some (t150.toList == t151.toList)))) = some r := h
 clear h
 replace H := Option.bind_eq_some_iff.mp H
 obtain ⟨t150, A30, H⟩ := H
 replace H : ((pursuivantref04_Lower.f k a1).bind fun t151 => (some (t150.toList == t151.toList))) = some r := H
 have A3 := Aside0.mk A30; clear A30
 replace H := Option.bind_eq_some_iff.mp H
 obtain ⟨t151, A40, H⟩ := H
 replace H : (some (t150.toList == t151.toList)) = some r := H
 have A4 := Aside0.mk A40; clear A40
 obtain rfl := Option.some.inj H
 go_enter Tryz.func56, Tryz.ntmps56
 go_wp2_with (first | ((with_reducible refine gate_callee (f := 34) rfl ?_); refine goesL_ (some 6) rfl rfl Tryz.func34 (by kernel_rfl) rfl #[.string a0] rfl z24_ ?_; (with_reducible refine (pursuivantref04_Lower.calls k a0 t150 _ ?gw13_ A3.out).mono ?_); (case gw13_ => exact z4_); rintro e w5 ⟨rfl, hb⟩; refine ⟨_, rfl, ?_⟩; have n0_ := Aside0.mk (below_step z25_ hb); clear HB; have HB := n0_; clear n0_; (try clear hb); (try clear hb2); (try clear hk); (try clear hi)) | ((with_reducible refine gate_callee (f := 34) rfl ?_); refine goesL_ (some 8) rfl rfl Tryz.func34 (by kernel_rfl) rfl #[.string a1] rfl z24_ ?_; (with_reducible refine (pursuivantref04_Lower.calls k a1 t151 _ ?gw14_ A4.out).mono ?_); (case gw14_ => exact z4_); rintro e w6 ⟨rfl, hb⟩; refine ⟨_, rfl, ?_⟩; have n0_ := Aside0.mk (below_step z25_ hb); clear HB; have HB := n0_; clear n0_; (try clear hb); (try clear hb2); (try clear hk); (try clear hi)))
 go_ret
 exact ⟨z28_, z25_⟩

def pursuivantref09_Get.l0 : Nat → List (S45) → ByteArray → ByteArray → Bool → Int → Option (ByteArray × Bool)
 | 0, _, _, _, _, _ => none
 | k + 1, x0, x1, x6, x7, x8 => if x8 < (x0.length : Int) then (if 0 ≤ x8 then ((pursuivantref09_Alike.f k ((rd_T45 x0 x8).f0) x1).bind fun t153 => (if t153 = true then (if x7 = true then (if x6.size + 2 ≤ 9223372036854775807 then (if (x6 ++ (⟨#[44, 32]⟩ : ByteArray)).size + ((rd_T45 x0 x8).f1).size ≤ 9223372036854775807 then (pursuivantref09_Get.l0 k x0 x1 ((x6 ++ (⟨#[44, 32]⟩ : ByteArray)) ++ ((rd_T45 x0 x8).f1)) true (wrap64 (x8 + 1))) else (none)) else (none)) else (if x6.size + ((rd_T45 x0 x8).f1).size ≤ 9223372036854775807 then (pursuivantref09_Get.l0 k x0 x1 (x6 ++ ((rd_T45 x0 x8).f1)) true (wrap64 (x8 + 1))) else (none))) else (pursuivantref09_Get.l0 k x0 x1 x6 x7 (wrap64 (x8 + 1))))) else (none)) else (some (x6, x7))
def pursuivantref09_Get.f (k : Nat) (l0 : List (S45)) (a1 : ByteArray) : Option (ByteArray × Bool) := pursuivantref09_Get.l0 k l0 a1 (⟨#[]⟩ : ByteArray) false 0
set_option maxHeartbeats 8000000 in
set_option maxRecDepth 100000 in
theorem pursuivantref09_Get.calls (k : Nat) (A0 : Option Addr) (c0 : Nat) (l0 : List (S45)) (a1 : ByteArray) (r1 : ByteArray) (r2 : Bool) (w : World) (hG_ : GW w) (hr0 : Kd.C k45 w A0 l0.length l0) (hc0 : l0.length ≤ c0) (h : pursuivantref09_Get.f k l0 a1 = some (r1, r2)) :
  Calls Tryz.prog 31 #[.slice A0 l0.length c0, .string a1] w fun e w' => e = .returned (.tuple #[.string r1, .bool r2]) ∧ Below w.heap.size w w' := by
 have HR0 := Aside0.mk hr0; have HC0 := Aside0.mk hc0; clear hr0 hc0
 have HB := Aside0.mk (Below.refl w.heap.size w)
 have H : (pursuivantref09_Get.l0 k l0 a1 (⟨#[]⟩ : ByteArray) false 0) = some (r1, r2) := h
 clear h
 have H' := Aside0.mk H
 clear H
 go_enter Tryz.func31, Tryz.ntmps31
 go_wp2
 go_loopg [6, 7, 8] k (fun kq v6 v7 v8 w' => ∃ (x6_1 : ByteArray) (x7_1 : Bool) (x8_1 : Int), v6 = .string x6_1 ∧ v7 = .bool x7_1 ∧ v8 = .int .i64 x8_1 ∧ Aside0 (pursuivantref09_Get.l0 kq l0 a1 x6_1 x7_1 x8_1 = some (r1, r2)) ∧ Aside0 (kq ≤ k) ∧ Aside0 (Below w.heap.size w w'))
 case atStart => exact ⟨((⟨#[]⟩ : ByteArray)), (false), (0), z51_, z51_, z51_, H', ⟨Nat.le_refl _⟩, ⟨z25_⟩⟩
 case round =>
  clear H'
  obtain ⟨x6_1, x7_1, x8_1, rfl, rfl, rfl, HA, HK1, HB⟩ := hrel
  cases gk with
  | zero => exact absurd HA.out (by simp [pursuivantref09_Get.l0])
  | succ k1 =>
   have H := HA.out
   clear HA
   simp only [pursuivantref09_Get.l0] at H
   by_cases c3 : x8_1 < (l0.length : Int)
   ·rw [if_pos c3] at H
    have c3b0 : decide (x8_1 < (l0.length : Int)) = true := decide_eq_true c3; clear c3
    by_cases c4 : 0 ≤ x8_1
    ·rw [if_pos c4] at H
     have c4b0 : decide (0 ≤ x8_1) = true := decide_eq_true c4; clear c4
     replace H := Option.bind_eq_some_iff.mp H
     obtain ⟨t153, A50, H⟩ := H
     replace H : (if t153 = true then (if x7_1 = true then (if x6_1.size + 2 ≤ 9223372036854775807 then (if (x6_1 ++ (⟨#[44, 32]⟩ : ByteArray)).size + ((rd_T45 l0 x8_1).f1).size ≤ 9223372036854775807 then (pursuivantref09_Get.l0 k1 l0 a1 ((x6_1 ++ (⟨#[44, 32]⟩ : ByteArray)) ++ ((rd_T45 l0 x8_1).f1)) true (wrap64 (x8_1 + 1))) else (none)) else (none)) else (if x6_1.size + ((rd_T45 l0 x8_1).f1).size ≤ 9223372036854775807 then (pursuivantref09_Get.l0 k1 l0 a1 (x6_1 ++ ((rd_T45 l0 x8_1).f1)) true (wrap64 (x8_1 + 1))) else (none))) else (pursuivantref09_Get.l0 k1 l0 a1 x6_1 x7_1 (wrap64 (x8_1 + 1)))) = some (r1, r2) := H
     have A5 := Aside0.mk A50; clear A50
     by_cases c6 : t153 = true
     ·subst c6
      have H1 : (if x7_1 = true then (if x6_1.size + 2 ≤ 9223372036854775807 then (if (x6_1 ++ (⟨#[44, 32]⟩ : ByteArray)).size + ((rd_T45 l0 x8_1).f1).size ≤ 9223372036854775807 then (pursuivantref09_Get.l0 k1 l0 a1 ((x6_1 ++ (⟨#[44, 32]⟩ : ByteArray)) ++ ((rd_T45 l0 x8_1).f1)) true (wrap64 (x8_1 + 1))) else (none)) else (none)) else (if x6_1.size + ((rd_T45 l0 x8_1).f1).size ≤ 9223372036854775807 then (pursuivantref09_Get.l0 k1 l0 a1 (x6_1 ++ ((rd_T45 l0 x8_1).f1)) true (wrap64 (x8_1 + 1))) else (none))) = some (r1, r2) := by rw [if_pos rfl] at H; exact H
      clear H
      have H := H1
      clear H1
      by_cases c7 : x7_1 = true
      ·subst c7
       have H1 : (if x6_1.size + 2 ≤ 9223372036854775807 then (if (x6_1 ++ (⟨#[44, 32]⟩ : ByteArray)).size + ((rd_T45 l0 x8_1).f1).size ≤ 9223372036854775807 then (pursuivantref09_Get.l0 k1 l0 a1 ((x6_1 ++ (⟨#[44, 32]⟩ : ByteArray)) ++ ((rd_T45 l0 x8_1).f1)) true (wrap64 (x8_1 + 1))) else (none)) else (none)) = some (r1, r2) := by rw [if_pos rfl] at H; exact H
       clear H
       have H := H1
       clear H1
       by_cases c8 : x6_1.size + 2 ≤ 9223372036854775807
       ·rw [if_pos c8] at H
        have c8b0 := eq_true c8; have c8b1 : decide (x6_1.size + 2 ≤ 9223372036854775807) = true := decide_eq_true c8
        try have c8b2 : (9223372036854775807 < x6_1.size + 2) = False := eq_false (Nat.not_lt.2 c8)
        by_cases c9 : (x6_1 ++ (⟨#[44, 32]⟩ : ByteArray)).size + ((rd_T45 l0 x8_1).f1).size ≤ 9223372036854775807
        ·rw [if_pos c9] at H
         have c9b0 := eq_true c9
         try have c9m : ((x6_1.size + 2) + ((rd_T45 l0 x8_1).f1).size ≤ 9223372036854775807) = True := by first | exact c9b0 | (have h_ := c9; simp only [ByteArray.size_append, Int.natCast_add] at h_; exact eq_true h_)
         have c9b1 : decide ((x6_1 ++ (⟨#[44, 32]⟩ : ByteArray)).size + ((rd_T45 l0 x8_1).f1).size ≤ 9223372036854775807) = true := decide_eq_true c9
         try have c9b1n : decide ((x6_1.size + 2) + ((rd_T45 l0 x8_1).f1).size ≤ 9223372036854775807) = true := by first | exact c9b1 | (have h_ := c9b1; simp only [ByteArray.size_append, Int.natCast_add] at h_; exact h_)
         try have c9b2 : (9223372036854775807 < (x6_1 ++ (⟨#[44, 32]⟩ : ByteArray)).size + ((rd_T45 l0 x8_1).f1).size) = False := eq_false (Nat.not_lt.2 c9)
         try have c9b2n : (9223372036854775807 < (x6_1.size + 2) + ((rd_T45 l0 x8_1).f1).size) = False := by first | exact c9b2 | (have h_ := c9b2; simp only [ByteArray.size_append, Int.natCast_add] at h_; exact h_)
         have H' := Aside0.mk H
         clear H
         have p152 : 0 ≤ (x8_1 : Int) := of_decide_eq_true z55_
         have q152 : x8_1 < (l0.length : Int) := of_decide_eq_true z55_
         obtain ⟨ad152, e152, hx152_0, hx152_1⟩ := at_T45 HR0.out x8_1 p152 q152
         cases e152
         replace hx152_0 := (HB.out.cell (World.block_lt_of_cell? w _ hx152_0)).trans hx152_0
         replace hx152_1 := (HB.out.cell (World.block_lt_of_cell? w _ hx152_1)).trans hx152_1
         replace p152 := eq_true p152
         replace q152 := eq_true q152
         go_wp2_with (first | ((with_reducible refine gate_callee (f := 56) rfl ?_); refine goesL_ (some 21) rfl rfl Tryz.func56 (by kernel_rfl) rfl #[.string ((rd_T45 l0 x8_1).f0), .string a1] rfl z24_ ?_; (with_reducible refine (pursuivantref09_Alike.calls k1 ((rd_T45 l0 x8_1).f0) a1 true _ ?gw15_ A5.out).mono ?_); (case gw15_ => exact z4_); rintro e w10 ⟨rfl, hb⟩; refine ⟨_, rfl, ?_⟩; have n0_ := Aside0.mk (below_step z25_ hb); clear HB; have HB := n0_; clear n0_; (try clear hb); (try clear hb2); (try clear hk); (try clear hi); have p154 : 0 ≤ (x8_1 : Int) := of_decide_eq_true z55_; have q154 : x8_1 < (l0.length : Int) := of_decide_eq_true z55_; obtain ⟨ad154, e154, hx154_0, hx154_1⟩ := at_T45 HR0.out x8_1 p154 q154; obtain rfl : ad152 = ad154 := (by injection e154); replace hx154_0 := (HB.out.cell (World.block_lt_of_cell? w _ hx154_0)).trans hx154_0; replace hx154_1 := (HB.out.cell (World.block_lt_of_cell? w _ hx154_1)).trans hx154_1; replace p154 := eq_true p154; replace q154 := eq_true q154))
         go_roundg k1
         case measure => have := HK1.out; omega
         case rel => exact ⟨((x6_1 ++ (⟨#[44, 32]⟩ : ByteArray)) ++ ((rd_T45 l0 x8_1).f1)), (true), (wrap64 (x8_1 + 1)), z51_, z51_, z51_, H', ⟨z58_⟩, ⟨z25_⟩⟩
        ·rw [if_neg c9] at H
         exact absurd H (by simp)
       ·rw [if_neg c8] at H
        exact absurd H (by simp)
      ·replace c7 := Bool.eq_false_iff.mpr c7
       subst c7
       have H1 : (if x6_1.size + ((rd_T45 l0 x8_1).f1).size ≤ 9223372036854775807 then (pursuivantref09_Get.l0 k1 l0 a1 (x6_1 ++ ((rd_T45 l0 x8_1).f1)) true (wrap64 (x8_1 + 1))) else (none)) = some (r1, r2) := by rw [if_neg (show ¬ (false = true) by decide)] at H; exact H
       clear H
       have H := H1
       clear H1
       by_cases c11 : x6_1.size + ((rd_T45 l0 x8_1).f1).size ≤ 9223372036854775807
       ·rw [if_pos c11] at H
        have c11b0 := eq_true c11; have c11b1 : decide (x6_1.size + ((rd_T45 l0 x8_1).f1).size ≤ 9223372036854775807) = true := decide_eq_true c11
        try have c11b2 : (9223372036854775807 < x6_1.size + ((rd_T45 l0 x8_1).f1).size) = False := eq_false (Nat.not_lt.2 c11)
        have H' := Aside0.mk H
        clear H
        have p152 : 0 ≤ (x8_1 : Int) := of_decide_eq_true z55_
        have q152 : x8_1 < (l0.length : Int) := of_decide_eq_true z55_
        obtain ⟨ad152, e152, hx152_0, hx152_1⟩ := at_T45 HR0.out x8_1 p152 q152
        cases e152
        replace hx152_0 := (HB.out.cell (World.block_lt_of_cell? w _ hx152_0)).trans hx152_0
        replace hx152_1 := (HB.out.cell (World.block_lt_of_cell? w _ hx152_1)).trans hx152_1
        replace p152 := eq_true p152
        replace q152 := eq_true q152
        go_wp2_with (first | ((with_reducible refine gate_callee (f := 56) rfl ?_); refine goesL_ (some 21) rfl rfl Tryz.func56 (by kernel_rfl) rfl #[.string ((rd_T45 l0 x8_1).f0), .string a1] rfl z24_ ?_; (with_reducible refine (pursuivantref09_Alike.calls k1 ((rd_T45 l0 x8_1).f0) a1 true _ ?gw16_ A5.out).mono ?_); (case gw16_ => exact z4_); rintro e w12 ⟨rfl, hb⟩; refine ⟨_, rfl, ?_⟩; have n0_ := Aside0.mk (below_step z25_ hb); clear HB; have HB := n0_; clear n0_; (try clear hb); (try clear hb2); (try clear hk); (try clear hi); have p155 : 0 ≤ (x8_1 : Int) := of_decide_eq_true z55_; have q155 : x8_1 < (l0.length : Int) := of_decide_eq_true z55_; obtain ⟨ad155, e155, hx155_0, hx155_1⟩ := at_T45 HR0.out x8_1 p155 q155; obtain rfl : ad152 = ad155 := (by injection e155); replace hx155_0 := (HB.out.cell (World.block_lt_of_cell? w _ hx155_0)).trans hx155_0; replace hx155_1 := (HB.out.cell (World.block_lt_of_cell? w _ hx155_1)).trans hx155_1; replace p155 := eq_true p155; replace q155 := eq_true q155))
        go_roundg k1
        case measure => have := HK1.out; omega
        case rel => exact ⟨(x6_1 ++ ((rd_T45 l0 x8_1).f1)), (true), (wrap64 (x8_1 + 1)), z51_, z51_, z51_, H', ⟨z58_⟩, ⟨z25_⟩⟩
       ·rw [if_neg c11] at H
        exact absurd H (by simp)
     ·replace c6 := Bool.eq_false_iff.mpr c6
      subst c6
      have H1 : (pursuivantref09_Get.l0 k1 l0 a1 x6_1 x7_1 (wrap64 (x8_1 + 1))) = some (r1, r2) := by rw [if_neg (show ¬ (false = true) by decide)] at H; exact H
      clear H
      have H := H1
      clear H1
      have H' := Aside0.mk H
      clear H
      have p152 : 0 ≤ (x8_1 : Int) := of_decide_eq_true z55_
      have q152 : x8_1 < (l0.length : Int) := of_decide_eq_true z55_
      obtain ⟨ad152, e152, hx152_0, hx152_1⟩ := at_T45 HR0.out x8_1 p152 q152
      cases e152
      replace hx152_0 := (HB.out.cell (World.block_lt_of_cell? w _ hx152_0)).trans hx152_0
      replace hx152_1 := (HB.out.cell (World.block_lt_of_cell? w _ hx152_1)).trans hx152_1
      replace p152 := eq_true p152
      replace q152 := eq_true q152
      go_wp2_with (first | ((with_reducible refine gate_callee (f := 56) rfl ?_); refine goesL_ (some 21) rfl rfl Tryz.func56 (by kernel_rfl) rfl #[.string ((rd_T45 l0 x8_1).f0), .string a1] rfl z24_ ?_; (with_reducible refine (pursuivantref09_Alike.calls k1 ((rd_T45 l0 x8_1).f0) a1 false _ ?gw17_ A5.out).mono ?_); (case gw17_ => exact z4_); rintro e w13 ⟨rfl, hb⟩; refine ⟨_, rfl, ?_⟩; have n0_ := Aside0.mk (below_step z25_ hb); clear HB; have HB := n0_; clear n0_; (try clear hb); (try clear hb2); (try clear hk); (try clear hi)))
      go_roundg k1
      case measure => have := HK1.out; omega
      case rel => exact ⟨(x6_1), (x7_1), (wrap64 (x8_1 + 1)), z51_, z51_, z51_, H', ⟨z58_⟩, ⟨z25_⟩⟩
    ·rw [if_neg c4] at H
     exact absurd H (by simp)
   ·rw [if_neg c3] at H
    have c3b0 : decide (x8_1 < (l0.length : Int)) = false := decide_eq_false c3; clear c3
    simp only [Option.some.injEq, Prod.mk.injEq] at H
    obtain ⟨rfl, rfl⟩ := H
    go_wp2
    go_ret2
    exact ⟨z28_, z25_⟩

def pursuivantref13_Check.j0 : Nat → List (S45) → ByteArray → Int → ByteArray → Bool → Option (Bool)
 | 0, _, _, _, _, _ => none
 | k + 1, x0, x1, x2, x7, x23 => if x23 = true then (some true) else (if x7.toList = x1.toList then (if x2 = 3 then ((pursuivantref09_Get.f k x0 (⟨#[97, 99, 99, 101, 115, 115, 45, 99, 111, 110, 116, 114, 111, 108, 45, 97, 108, 108, 111, 119, 45, 99, 114, 101, 100, 101, 110, 116, 105, 97, 108, 115]⟩ : ByteArray)).bind fun bt158 => (some (bt158.1.toList == ([116, 114, 117, 101] : List UInt8)))) else (some true)) else (some false))
def pursuivantref13_Check.f (k : Nat) (l0 : List (S45)) (a1 : ByteArray) (a2 : Int) : Option (Bool) := (pursuivantref09_Get.f k l0 (⟨#[97, 99, 99, 101, 115, 115, 45, 99, 111, 110, 116, 114, 111, 108, 45, 97, 108, 108, 111, 119, 45, 111, 114, 105, 103, 105, 110]⟩ : ByteArray)).bind fun bt156 => (if bt156.2 = true then (if bt156.1.toList = ([42] : List UInt8) then (pursuivantref13_Check.j0 k l0 a1 a2 bt156.1 (a2 != 3)) else (pursuivantref13_Check.j0 k l0 a1 a2 bt156.1 false)) else (some false))
set_option maxHeartbeats 8000000 in
set_option maxRecDepth 100000 in
theorem pursuivantref13_Check.calls (k : Nat) (A0 : Option Addr) (c0 : Nat) (l0 : List (S45)) (a1 : ByteArray) (a2 : Int) (r : Bool) (w : World) (hG_ : GW w) (hr0 : Kd.C k45 w A0 l0.length l0) (hc0 : l0.length ≤ c0) (h : pursuivantref13_Check.f k l0 a1 a2 = some r) :
  Calls Tryz.prog 30 #[.slice A0 l0.length c0, .string a1, .int .i64 a2] w fun e w' => e = .returned (.bool r) ∧ Below w.heap.size w w' := by
 have HR0 := Aside0.mk hr0; have HC0 := Aside0.mk hc0; clear hr0 hc0
 have HB := Aside0.mk (Below.refl w.heap.size w)
 have H : ((pursuivantref09_Get.f k l0 (⟨#[97, 99, 99, 101, 115, 115, 45, 99, 111, 110, 116, 114, 111, 108, 45, 97, 108, 108, 111, 119, 45, 111, 114, 105, 103, 105, 110]⟩ : ByteArray)).bind fun bt156 => (if bt156.2 = true then (if bt156.1.toList = ([42] : List UInt8) then (pursuivantref13_Check.j0 k l0 a1 a2 bt156.1 (a2 != 3)) else (pursuivantref13_Check.j0 k l0 a1 a2 bt156.1 false)) else (some false))) = some r := h
 clear h
 replace H := Option.bind_eq_some_iff.mp H
 obtain ⟨⟨t156, t157⟩, A40, H⟩ := H
 replace H : (if t157 = true then (if t156.toList = ([42] : List UInt8) then (pursuivantref13_Check.j0 k l0 a1 a2 t156 (a2 != 3)) else (pursuivantref13_Check.j0 k l0 a1 a2 t156 false)) else (some false)) = some r := H
 have A4 := Aside0.mk A40; clear A40
 by_cases c5 : t157 = true
 ·subst c5
  have H1 : (if t156.toList = ([42] : List UInt8) then (pursuivantref13_Check.j0 k l0 a1 a2 t156 (a2 != 3)) else (pursuivantref13_Check.j0 k l0 a1 a2 t156 false)) = some r := by rw [if_pos rfl] at H; exact H
  clear H
  have H := H1
  clear H1; have HC6 := Aside0.mk H; clear H
  go_enter Tryz.func30, Tryz.ntmps30
  go_upto_region 4 with (first | ((with_reducible refine gate_callee (f := 31) rfl ?_); refine goesL_ (some 13) rfl rfl Tryz.func31 (by kernel_rfl) rfl #[.slice A0 l0.length c0, .string (⟨#[97, 99, 99, 101, 115, 115, 45, 99, 111, 110, 116, 114, 111, 108, 45, 97, 108, 108, 111, 119, 45, 111, 114, 105, 103, 105, 110]⟩ : ByteArray)] rfl z24_ ?_; (with_reducible refine (pursuivantref09_Get.calls k _ _ l0 (⟨#[97, 99, 99, 101, 115, 115, 45, 99, 111, 110, 116, 114, 111, 108, 45, 97, 108, 108, 111, 119, 45, 111, 114, 105, 103, 105, 110]⟩ : ByteArray) t156 true _ ?gw18_ ?side1 ?side2 A4.out).mono ?_); (case gw18_ => exact z4_); (case side1 => repeat (first | exact HR0.out | (with_reducible refine Kd.C_alloc ?_ _) | (with_reducible refine Kd.C_drewN ?_ _) | (with_reducible refine Kd.C_drew ?_))); (case side2 => exact HC0.out); rintro e w7 ⟨rfl, hb⟩; refine ⟨_, rfl, ?_⟩; have n0_ := Aside0.mk (below_step z25_ hb); clear HB; have HB := n0_; clear n0_; (try clear hb); (try clear hb2); (try clear hk); (try clear hi)))
  (try simp only [Act.put, List.setIfInBounds_toArray, List.set_cons_zero, List.set_cons_succ])
  go_cut [23] (fun v23 wc => ∃ (kq : Nat) (x23_5 : Bool), v23 = .bool x23_5 ∧ Aside0 (pursuivantref13_Check.j0 kq l0 a1 a2 t156 x23_5 = some r) ∧ Aside0 (kq ≤ k) ∧ Aside0 (Below w.heap.size w wc))
  case first =>
   have H := HC6.out
   clear HC6
   by_cases c8 : t156.toList = ([42] : List UInt8)
   ·rw [if_pos c8] at H
    have c8b0 : (t156.toList == ([42] : List UInt8)) = true := beq_iff_eq.mpr c8
    have c8b1 : (t156.toList != ([42] : List UInt8)) = false := bne_eq_false_iff_eq.mpr c8
    clear c8
    (first | rw [c8b0] | (simp only [i64_w, i32_w]; rw [c8b0]) | skip)
    have H' := Aside0.mk H
    clear H; go_wp2; go_meet
    case rel => exact ⟨_, ((a2 != 3)), z51_, H', ⟨z57_⟩, ⟨z25_⟩⟩
   ·rw [if_neg c8] at H
    have c8b0 : (t156.toList == ([42] : List UInt8)) = false := beq_eq_false_iff_ne.mpr c8
    have c8b1 : (t156.toList != ([42] : List UInt8)) = true := bne_iff_ne.mpr c8
    (first | rw [c8b0] | (simp only [i64_w, i32_w]; rw [c8b0]) | skip)
    have H' := Aside0.mk H
    clear H; go_wp2; go_meet
    case rel => exact ⟨_, (false), z51_, H', ⟨z57_⟩, ⟨z25_⟩⟩
  case rest =>
   clear HC6; (try clear c5)
   obtain ⟨kq, x23_5, rfl, HA, HJ5, HB⟩ := hcut
   cases kq with
   | zero => exact absurd HA.out (by simp [pursuivantref13_Check.j0])
   | succ kj5 =>
    have H := HA.out
    clear HA
    simp only [pursuivantref13_Check.j0] at H
    by_cases c9 : x23_5 = true
    ·subst c9
     have H1 : (some true) = some r := by rw [if_pos rfl] at H; exact H
     clear H
     have H := H1
     clear H1
     obtain rfl := Option.some.inj H
     go_wp2
     go_ret
     exact ⟨z28_, z25_⟩
    ·replace c9 := Bool.eq_false_iff.mpr c9
     subst c9
     have H1 : (if t156.toList = a1.toList then (if a2 = 3 then ((pursuivantref09_Get.f kj5 l0 (⟨#[97, 99, 99, 101, 115, 115, 45, 99, 111, 110, 116, 114, 111, 108, 45, 97, 108, 108, 111, 119, 45, 99, 114, 101, 100, 101, 110, 116, 105, 97, 108, 115]⟩ : ByteArray)).bind fun bt158 => (some (bt158.1.toList == ([116, 114, 117, 101] : List UInt8)))) else (some true)) else (some false)) = some r := by rw [if_neg (show ¬ (false = true) by decide)] at H; exact H
     clear H
     have H := H1
     clear H1
     by_cases c10 : t156.toList = a1.toList
     ·rw [if_pos c10] at H
      have c10b0 : (t156.toList == a1.toList) = true := beq_iff_eq.mpr c10
      have c10b1 : (t156.toList != a1.toList) = false := bne_eq_false_iff_eq.mpr c10
      clear c10
      by_cases c11 : a2 = 3
      ·rw [if_pos c11] at H
       have c11b0 : (a2 == 3) = true := beq_iff_eq.mpr c11
       have c11b1 : (a2 != 3) = false := bne_eq_false_iff_eq.mpr c11
       clear c11
       replace H := Option.bind_eq_some_iff.mp H
       obtain ⟨⟨t158, t159⟩, A120, H⟩ := H
       replace H : (some (t158.toList == ([116, 114, 117, 101] : List UInt8))) = some r := H
       have A12 := Aside0.mk A120; clear A120
       obtain rfl := Option.some.inj H
       go_wp2_with (first | ((with_reducible refine gate_callee (f := 31) rfl ?_); refine goesL_ (some 31) rfl rfl Tryz.func31 (by kernel_rfl) rfl #[.slice A0 l0.length c0, .string (⟨#[97, 99, 99, 101, 115, 115, 45, 99, 111, 110, 116, 114, 111, 108, 45, 97, 108, 108, 111, 119, 45, 99, 114, 101, 100, 101, 110, 116, 105, 97, 108, 115]⟩ : ByteArray)] rfl z24_ ?_; (with_reducible refine (pursuivantref09_Get.calls kj5 _ _ l0 (⟨#[97, 99, 99, 101, 115, 115, 45, 99, 111, 110, 116, 114, 111, 108, 45, 97, 108, 108, 111, 119, 45, 99, 114, 101, 100, 101, 110, 116, 105, 97, 108, 115]⟩ : ByteArray) t158 t159 _ ?gw19_ ?side1 ?side2 A12.out).mono ?_); (case gw19_ => exact z4_); (case side1 => repeat (first | exact (Kd.C_below HR0.out HB.out) | (with_reducible refine Kd.C_alloc ?_ _) | (with_reducible refine Kd.C_drewN ?_ _) | (with_reducible refine Kd.C_drew ?_))); (case side2 => exact HC0.out); rintro e w13 ⟨rfl, hb⟩; refine ⟨_, rfl, ?_⟩; have n0_ := Aside0.mk (below_step z25_ hb); clear HB; have HB := n0_; clear n0_; (try clear hb); (try clear hb2); (try clear hk); (try clear hi)))
       go_ret
       exact ⟨z28_, z25_⟩
      ·rw [if_neg c11] at H
       have c11b0 : (a2 == 3) = false := beq_eq_false_iff_ne.mpr c11
       have c11b1 : (a2 != 3) = true := bne_iff_ne.mpr c11
       obtain rfl := Option.some.inj H
       go_wp2
       go_ret
       exact ⟨z28_, z25_⟩
     ·rw [if_neg c10] at H
      have c10b0 : (t156.toList == a1.toList) = false := beq_eq_false_iff_ne.mpr c10
      have c10b1 : (t156.toList != a1.toList) = true := bne_iff_ne.mpr c10
      obtain rfl := Option.some.inj H
      go_wp2
      go_ret
      exact ⟨z28_, z25_⟩
 ·replace c5 := Bool.eq_false_iff.mpr c5
  subst c5
  have H1 : (some false) = some r := by rw [if_neg (show ¬ (false = true) by decide)] at H; exact H
  clear H
  have H := H1
  clear H1
  obtain rfl := Option.some.inj H
  go_enter Tryz.func30, Tryz.ntmps30
  go_wp2_with (first | ((with_reducible refine gate_callee (f := 31) rfl ?_); refine goesL_ (some 13) rfl rfl Tryz.func31 (by kernel_rfl) rfl #[.slice A0 l0.length c0, .string (⟨#[97, 99, 99, 101, 115, 115, 45, 99, 111, 110, 116, 114, 111, 108, 45, 97, 108, 108, 111, 119, 45, 111, 114, 105, 103, 105, 110]⟩ : ByteArray)] rfl z24_ ?_; (with_reducible refine (pursuivantref09_Get.calls k _ _ l0 (⟨#[97, 99, 99, 101, 115, 115, 45, 99, 111, 110, 116, 114, 111, 108, 45, 97, 108, 108, 111, 119, 45, 111, 114, 105, 103, 105, 110]⟩ : ByteArray) t156 false _ ?gw20_ ?side1 ?side2 A4.out).mono ?_); (case gw20_ => exact z4_); (case side1 => repeat (first | exact HR0.out | (with_reducible refine Kd.C_alloc ?_ _) | (with_reducible refine Kd.C_drewN ?_ _) | (with_reducible refine Kd.C_drew ?_))); (case side2 => exact HC0.out); rintro e w14 ⟨rfl, hb⟩; refine ⟨_, rfl, ?_⟩; have n0_ := Aside0.mk (below_step z25_ hb); clear HB; have HB := n0_; clear n0_; (try clear hb); (try clear hb2); (try clear hk); (try clear hi)))
  go_ret
  exact ⟨z28_, z25_⟩

mutual
def pursuivantref14_Read.j0 : Nat → Bool → Int → List (S45) → ByteArray → Int → Option (List ByteArray × List ByteArray × Int × Bool)
 | 0, _, _, _, _, _ => none
 | k + 1, x33, x161000, x161001, x161002, x163002 => if x33 = true then (some (([] : List ByteArray), ([] : List ByteArray), x163002, false)) else ((pursuivantref09_Get.f k x161001 (⟨#[97, 99, 99, 101, 115, 115, 45, 99, 111, 110, 116, 114, 111, 108, 45, 97, 108, 108, 111, 119, 45, 109, 101, 116, 104, 111, 100, 115]⟩ : ByteArray)).bind fun bt165 => ((pursuivantref09_Get.f k x161001 (⟨#[97, 99, 99, 101, 115, 115, 45, 99, 111, 110, 116, 114, 111, 108, 45, 97, 108, 108, 111, 119, 45, 104, 101, 97, 100, 101, 114, 115]⟩ : ByteArray)).bind fun bt167 => ((pursuivantref04_List.f k bt165.1).bind fun t169 => (pursuivantref14_Read.l0 k bt167.1 0 x161000 x161001 x161002 x163002 t169 5))))
def pursuivantref14_Read.l0 : Nat → ByteArray → Int → Int → List (S45) → ByteArray → Int → List ByteArray → Int → Option (List ByteArray × List ByteArray × Int × Bool)
 | 0, _, _, _, _, _, _, _, _ => none
 | k + 1, x12, x14, x161000, x161001, x161002, x163002, x165000, x165002 => if x14 < (x165000.length : Int) then (if 0 ≤ x14 then ((pursuivantref04_Token.f k (rdOf ByteArray.empty x165000 x14)).bind fun t173 => (if t173 = true then (pursuivantref14_Read.l0 k x12 (wrap64 (x14 + 1)) x161000 x161001 x161002 x163002 x165000 x165002) else (some (([] : List ByteArray), ([] : List ByteArray), x163002, false)))) else (none)) else ((pursuivantref04_List.f k x12).bind fun t174 => (pursuivantref14_Read.l1 k t174 0 x161000 x161001 x161002 x163002 x165000 ([] : List ByteArray) x165002))
def pursuivantref14_Read.l1 : Nat → List ByteArray → Int → Int → List (S45) → ByteArray → Int → List ByteArray → List ByteArray → Int → Option (List ByteArray × List ByteArray × Int × Bool)
 | 0, _, _, _, _, _, _, _, _, _ => none
 | k + 1, x15, x16, x161000, x161001, x161002, x163002, x165000, x165001, x165002 => if x16 < (x15.length : Int) then (if 0 ≤ x16 then ((pursuivantref04_Token.f k (rdOf ByteArray.empty x15 x16)).bind fun t178 => (if t178 = true then ((pursuivantref04_Lower.f k (rdOf ByteArray.empty x15 x16)).bind fun t180 => (if x165001.length < 8796093022208 then (pursuivantref14_Read.l1 k x15 (wrap64 (x16 + 1)) x161000 x161001 x161002 x163002 x165000 (x165001 ++ [t180]) x165002) else (none))) else (some (([] : List ByteArray), ([] : List ByteArray), x163002, false)))) else (none)) else ((pursuivantref09_Get.f k x161001 (⟨#[97, 99, 99, 101, 115, 115, 45, 99, 111, 110, 116, 114, 111, 108, 45, 109, 97, 120, 45, 97, 103, 101]⟩ : ByteArray)).bind fun bt184 => ((pursuivantref04_Number.f k bt184.1 86400).bind fun bt186 => (if bt186.2 = true then (some (x165000, x165001, bt186.1, true)) else (some (x165000, x165001, x165002, true)))))
end
def pursuivantref14_Read.f (k : Nat) (a0_0 : Int) (l0_1 : List (S45)) (a0_2 : ByteArray) (a1 : ByteArray) (a2 : Int) : Option (List ByteArray × List ByteArray × Int × Bool) := if (wrap64 (Int.tdiv a0_0 100)) = 2 then ((pursuivantref13_Check.f k l0_1 a1 a2).bind fun t163 => (pursuivantref14_Read.j0 k (!t163) a0_0 l0_1 a0_2 0)) else (pursuivantref14_Read.j0 k true a0_0 l0_1 a0_2 0)
def pursuivantref14_Read.T19 : Bool × List (List Nat × List Nat) := (true, [([], []), ([0], [0]), ([], []), ([], []), ([2, 3], [2, 3]), ([4], [4]), ([5], [5]), ([6], [6]), ([1, 7, 6], [1, 7]), ([0, 1, 2, 3, 4, 5, 6, 7, 8], []), ([9, 8, 8, 0, 1, 2, 3, 4, 5, 6, 7, 8], [8, 9])])
def pursuivantref14_Read.B19 : List Nat := [0, 1, 0, 0, 12, 28, 60, 124, 255, 511, 1023]
theorem pursuivantref14_Read.tab19 : rtab .any (opsOf Tryz.f14 19) = pursuivantref14_Read.T19 := by kernel_rfl
theorem pursuivantref14_Read.bits19 : waitsOk pursuivantref14_Read.T19.2 pursuivantref14_Read.B19 = true := by kernel_rfl
set_option maxHeartbeats 8000000 in
set_option maxRecDepth 100000 in
theorem pursuivantref14_Read.calls (k : Nat) (a0_0 : Int) (A0_1 : Option Addr) (c0_1 : Nat) (l0_1 : List (S45)) (a0_2 : ByteArray) (a1 : ByteArray) (a2 : Int) (r1 : List ByteArray) (r2 : List ByteArray) (r3 : Int) (r4 : Bool) (w : World) (hG_ : GW w) (hr0_1 : Kd.C k45 w A0_1 l0_1.length l0_1) (hc0_1 : l0_1.length ≤ c0_1) (h : pursuivantref14_Read.f k a0_0 l0_1 a0_2 a1 a2 = some (r1, r2, r3, r4)) :
  Calls Tryz.prog 14 #[.agg #[.int .i64 a0_0, .slice A0_1 l0_1.length c0_1, .string a0_2], .string a1, .int .i64 a2] w fun e w' => ∃ v0_ v1_ : Value, e = .returned (.tuple #[.agg #[v0_, v1_, .int .i64 r3], .bool r4]) ∧ Kd.R Kd.string 9 w' w.heap.size (fun k_ => some k_ ≠ (v1_ : Value).ownBlock) v0_ r1 ∧ Kd.R Kd.string 9 w' w.heap.size (fun k_ => some k_ ≠ (v0_ : Value).ownBlock) v1_ r2 ∧ Below w.heap.size w w' := by
 have hu30 := Tryz.underlying30
 have hu36 := Tryz.underlying36
 have HR0_1 := Aside0.mk hr0_1; have HC0_1 := Aside0.mk hc0_1; clear hr0_1 hc0_1
 have HB := Aside0.mk (Below.refl w.heap.size w)
 have H : (if (wrap64 (Int.tdiv a0_0 100)) = 2 then ((pursuivantref13_Check.f k l0_1 a1 a2).bind fun t163 => (pursuivantref14_Read.j0 k (!t163) a0_0 l0_1 a0_2 0)) else (pursuivantref14_Read.j0 k true a0_0 l0_1 a0_2 0)) = some (r1, r2, r3, r4) := h
 clear h; have HC4 := Aside0.mk H; clear H
 go_enter Tryz.func14, Tryz.ntmps14
 go_upto_region 2 with (first | ((with_reducible refine gate_dst (N := 3) rfl ?_); refine box_event ?hg (N := 3) ?hd (cs := #[.int .i64 a0_0, .slice A0_1 l0_1.length c0_1, .string a0_2]) (t := 30) ?hr ?_; (case hd => rfl); (case hg => rfl); (case hr => first | (go_simp; done) | (go_simp; rfl)); intro gb160 hg w5 hbox hb; have n0_ := Aside0.mk (below_step z25_ hb); have n1_ := Aside0.mk (hbox); have n2_ := Aside0.mk ((by rw [hg]; exact (below_size z25_) : w.heap.size ≤ gb160)); have n3_ := Aside0.mk ((by rw [hg]; exact (below_size z25_) : w.heap.size ≤ gb160)); clear HB; have HB := n0_; have BK160 := n1_; have GW160 := n2_; have GE160 := n3_; clear n0_ n1_ n2_ n3_; clear hb hbox hg) | ((with_reducible refine gate_dst (N := 6) rfl ?_); refine box_event ?hg (N := 6) ?hd (cs := #[.slice none 0 0, .slice none 0 0, .int .i64 0]) (t := 36) ?hr ?_; (case hd => rfl); (case hg => rfl); (case hr => first | (go_simp; done) | (go_simp; rfl)); intro gb161 hg w6 hbox hb; have n0_ := Aside0.mk (blk_below (g := gb160) (o := .cells #[.int .i64 a0_0, .slice A0_1 l0_1.length c0_1, .string a0_2] 30 (0, 0)) z33_ hb); have n1_ := Aside0.mk (below_step z16_ hb); have n2_ := Aside0.mk (hbox); have n3_ := Aside0.mk ((by rw [hg]; exact (below_size z16_) : w.heap.size ≤ gb161)); have n4_ := Aside0.mk ((by rw [hg]; exact (below_size z16_) : w.heap.size ≤ gb161)); have n5_ := Aside0.mk ((by rw [hg]; exact Nat.ne_of_lt (blk_lt (g := gb160) (o := .cells #[.int .i64 a0_0, .slice A0_1 l0_1.length c0_1, .string a0_2] 30 (0, 0)) z33_) : gb160 ≠ gb161)); have n6_ := Aside0.mk ((by rw [hg]; exact Nat.ne_of_gt (blk_lt (g := gb160) (o := .cells #[.int .i64 a0_0, .slice A0_1 l0_1.length c0_1, .string a0_2] 30 (0, 0)) z33_) : gb161 ≠ gb160)); clear BK160; clear HB; have BK160 := n0_; have HB := n1_; have BK161 := n2_; have GW161 := n3_; have GE161 := n4_; have NB160_161 := n5_; have NB161_160 := n6_; clear n0_ n1_ n2_ n3_ n4_ n5_ n6_; clear hb hbox hg) | ((with_reducible refine gate_dst (N := 8) rfl ?_); refine box_event ?hg (N := 8) ?hd (cs := #[.slice none 0 0, .slice none 0 0, .int .i64 0]) (t := 36) ?hr ?_; (case hd => rfl); (case hg => rfl); (case hr => first | (go_simp; done) | (go_simp; rfl)); intro gb162 hg w7 hbox hb; have n0_ := Aside0.mk (blk_below (g := gb160) (o := .cells #[.int .i64 a0_0, .slice A0_1 l0_1.length c0_1, .string a0_2] 30 (0, 0)) z33_ hb); have n1_ := Aside0.mk (blk_below (g := gb161) (o := .cells #[.slice none 0 0, .slice none 0 0, .int .i64 0] 36 (0, 0)) z34_ hb); have n2_ := Aside0.mk (below_step z12_ hb); have n3_ := Aside0.mk (hbox); have n4_ := Aside0.mk ((by rw [hg]; exact (below_size z12_) : w.heap.size ≤ gb162)); have n5_ := Aside0.mk ((by rw [hg]; exact (below_size z12_) : w.heap.size ≤ gb162)); have n6_ := Aside0.mk ((by rw [hg]; exact Nat.ne_of_lt (blk_lt (g := gb160) (o := .cells #[.int .i64 a0_0, .slice A0_1 l0_1.length c0_1, .string a0_2] 30 (0, 0)) z33_) : gb160 ≠ gb162)); have n7_ := Aside0.mk ((by rw [hg]; exact Nat.ne_of_gt (blk_lt (g := gb160) (o := .cells #[.int .i64 a0_0, .slice A0_1 l0_1.length c0_1, .string a0_2] 30 (0, 0)) z33_) : gb162 ≠ gb160)); have n8_ := Aside0.mk ((by rw [hg]; exact Nat.ne_of_lt (blk_lt (g := gb161) (o := .cells #[.slice none 0 0, .slice none 0 0, .int .i64 0] 36 (0, 0)) z34_) : gb161 ≠ gb162)); have n9_ := Aside0.mk ((by rw [hg]; exact Nat.ne_of_gt (blk_lt (g := gb161) (o := .cells #[.slice none 0 0, .slice none 0 0, .int .i64 0] 36 (0, 0)) z34_) : gb162 ≠ gb161)); clear BK160; clear BK161; clear HB; have BK160 := n0_; have BK161 := n1_; have HB := n2_; have BK162 := n3_; have GW162 := n4_; have GE162 := n5_; have NB160_162 := n6_; have NB162_160 := n7_; have NB161_162 := n8_; have NB162_161 := n9_; clear n0_ n1_ n2_ n3_ n4_ n5_ n6_ n7_ n8_ n9_; clear hb hbox hg; have hnb8 := NB162_160.out; have hnc8 := NB160_162.out; have hnb9 := NB162_161.out; have hnc9 := NB161_162.out; have hcz10_0 : w7.cell? ⟨gb162, 0, none⟩ = some (.slice none 0 0) := (blk_cell BK162.out 0).trans rfl; have hcz10_1 : w7.cell? ⟨gb162, 1, none⟩ = some (.slice none 0 0) := (blk_cell BK162.out 1).trans rfl; have hcz10_2 : w7.cell? ⟨gb162, 2, none⟩ = some (.int .i64 0) := (blk_cell BK162.out 2).trans rfl; have hfz10_0 := blk_frozen BK162.out 0; have hfz10_1 := blk_frozen BK162.out 1; have hfz10_2 := blk_frozen BK162.out 2))
 (try simp only [Act.put, List.setIfInBounds_toArray, List.set_cons_zero, List.set_cons_succ])
 go_cut [33] (fun v33 wc => ∃ (kq : Nat) (x33_3 : Bool), v33 = .bool x33_3 ∧ Aside0 (pursuivantref14_Read.j0 kq x33_3 a0_0 l0_1 a0_2 0 = some (r1, r2, r3, r4)) ∧ Aside0 (kq ≤ k) ∧ Aside0 (wc.heap[gb160]? = some (.cells #[.int .i64 a0_0, (.slice A0_1 l0_1.length c0_1), .string a0_2] 30 (0, 0))) ∧ Aside0 (wc.heap[gb161]? = some (.cells #[(.slice none 0 0), (.slice none 0 0), .int .i64 0] 36 (0, 0))) ∧ Aside0 (wc.heap[gb162]? = some (.cells #[(.slice none 0 0), (.slice none 0 0), .int .i64 0] 36 (0, 0))) ∧ Aside0 (Below w.heap.size w wc))
 case first =>
  have H := HC4.out
  clear HC4
  by_cases c11 : (wrap64 (Int.tdiv a0_0 100)) = 2
  ·rw [if_pos c11] at H
   have c11b0 : ((wrap64 (Int.tdiv a0_0 100)) == 2) = true := beq_iff_eq.mpr c11
   have c11b1 : ((wrap64 (Int.tdiv a0_0 100)) != 2) = false := bne_eq_false_iff_eq.mpr c11
   clear c11
   (first | rw [c11b0] | (simp only [i64_w, i32_w]; rw [c11b0]) | skip)
   replace H := Option.bind_eq_some_iff.mp H
   obtain ⟨t163, A120, H⟩ := H
   replace H : (pursuivantref14_Read.j0 k (!t163) a0_0 l0_1 a0_2 0) = some (r1, r2, r3, r4) := H
   have A12 := Aside0.mk A120; clear A120
   have H' := Aside0.mk H
   clear H; have hnb13 := NB160_161.out; have hnc13 := NB161_160.out; have hnb14 := NB160_162.out; have hnc14 := NB162_160.out; obtain ⟨hcz15_0, hcz15_1, hcz15_2⟩ := blkc3_ BK160.out; obtain ⟨hfz15_0, hfz15_1, hfz15_2⟩ := blkf3_ BK160.out
   go_wp2_with (first | (go_at_call 30; (fail_if_success (have z_ := U_2)); have U_2 := trivial; (with_reducible refine (pursuivantref13_Check.calls k _ _ l0_1 a1 a2 t163 _ ?gw21_ ?side1 ?side2 A12.out).mono ?_); (case gw21_ => exact z0_); (case side1 => exact Kd.C_below HR0_1.out z10_); (case side2 => exact HC0_1.out); rintro e w16 ⟨rfl, hb⟩; have n0_ := Aside0.mk (blk_below (g := gb160) (o := .cells #[.int .i64 a0_0, .slice A0_1 l0_1.length c0_1, .string a0_2] 30 (0, 0)) (by (with_reducible repeat (first | refine blk_drewN ?_ _ | refine blk_drew ?_ | refine blk_alloc ?_ _)); refine blk_far ?_ NB160_162.out _; (with_reducible repeat (first | refine blk_drewN ?_ _ | refine blk_drew ?_ | refine blk_alloc ?_ _)); refine blk_far ?_ NB160_162.out _; (with_reducible repeat (first | refine blk_drewN ?_ _ | refine blk_drew ?_ | refine blk_alloc ?_ _)); refine blk_far ?_ NB160_162.out _; (with_reducible repeat (first | refine blk_drewN ?_ _ | refine blk_drew ?_ | refine blk_alloc ?_ _)); exact BK160.out) hb); have n1_ := Aside0.mk (blk_below (g := gb161) (o := .cells #[.slice none 0 0, .slice none 0 0, .int .i64 0] 36 (0, 0)) (by (with_reducible repeat (first | refine blk_drewN ?_ _ | refine blk_drew ?_ | refine blk_alloc ?_ _)); refine blk_far ?_ NB161_162.out _; (with_reducible repeat (first | refine blk_drewN ?_ _ | refine blk_drew ?_ | refine blk_alloc ?_ _)); refine blk_far ?_ NB161_162.out _; (with_reducible repeat (first | refine blk_drewN ?_ _ | refine blk_drew ?_ | refine blk_alloc ?_ _)); refine blk_far ?_ NB161_162.out _; (with_reducible repeat (first | refine blk_drewN ?_ _ | refine blk_drew ?_ | refine blk_alloc ?_ _)); exact BK161.out) hb); have n2_ := Aside0.mk (blk_below (g := gb162) (o := .cells #[.slice none 0 0, .slice none 0 0, .int .i64 0] 36 (0, 0)) (by (with_reducible repeat (first | refine blk_drewN ?_ _ | refine blk_drew ?_ | refine blk_alloc ?_ _)); refine blk_put (cs := #[.slice none 0 0, .slice none 0 0, .int .i64 0]) ?_ 2 _ rfl; (with_reducible repeat (first | refine blk_drewN ?_ _ | refine blk_drew ?_ | refine blk_alloc ?_ _)); refine blk_put (cs := #[.slice none 0 0, .slice none 0 0, .int .i64 0]) ?_ 1 _ rfl; (with_reducible repeat (first | refine blk_drewN ?_ _ | refine blk_drew ?_ | refine blk_alloc ?_ _)); refine blk_put (cs := #[.slice none 0 0, .slice none 0 0, .int .i64 0]) ?_ 0 _ rfl; (with_reducible repeat (first | refine blk_drewN ?_ _ | refine blk_drew ?_ | refine blk_alloc ?_ _)); exact BK162.out) hb); have n3_ := Aside0.mk (below_step z10_ hb); clear BK160; clear BK161; clear BK162; clear HB; have BK160 := n0_; have BK161 := n1_; have BK162 := n2_; have HB := n3_; clear n0_ n1_ n2_ n3_; (try clear hb); (try clear hb2); (try clear hk); (try clear hi)))
   go_meet
   case rel => exact ⟨_, (!t163), z51_, H', ⟨z57_⟩, ⟨z33_⟩, ⟨z34_⟩, ⟨z35_⟩, ⟨z10_⟩⟩
  ·rw [if_neg c11] at H
   have c11b0 : ((wrap64 (Int.tdiv a0_0 100)) == 2) = false := beq_eq_false_iff_ne.mpr c11
   have c11b1 : ((wrap64 (Int.tdiv a0_0 100)) != 2) = true := bne_iff_ne.mpr c11
   (first | rw [c11b0] | (simp only [i64_w, i32_w]; rw [c11b0]) | skip)
   have H' := Aside0.mk H
   clear H; have hnb17 := NB160_161.out; have hnc17 := NB161_160.out; have hnb18 := NB160_162.out; have hnc18 := NB162_160.out; obtain ⟨hcz19_0, hcz19_1, hcz19_2⟩ := blkc3_ BK160.out; obtain ⟨hfz19_0, hfz19_1, hfz19_2⟩ := blkf3_ BK160.out; go_wp2; go_meet
   case rel => exact ⟨_, (true), z51_, H', ⟨z57_⟩, ⟨by (with_reducible repeat (first | refine blk_drewN ?_ _ | refine blk_drew ?_ | refine blk_alloc ?_ _)); refine blk_far ?_ NB160_162.out _; (with_reducible repeat (first | refine blk_drewN ?_ _ | refine blk_drew ?_ | refine blk_alloc ?_ _)); refine blk_far ?_ NB160_162.out _; (with_reducible repeat (first | refine blk_drewN ?_ _ | refine blk_drew ?_ | refine blk_alloc ?_ _)); refine blk_far ?_ NB160_162.out _; (with_reducible repeat (first | refine blk_drewN ?_ _ | refine blk_drew ?_ | refine blk_alloc ?_ _)); exact BK160.out⟩, ⟨by (with_reducible repeat (first | refine blk_drewN ?_ _ | refine blk_drew ?_ | refine blk_alloc ?_ _)); refine blk_far ?_ NB161_162.out _; (with_reducible repeat (first | refine blk_drewN ?_ _ | refine blk_drew ?_ | refine blk_alloc ?_ _)); refine blk_far ?_ NB161_162.out _; (with_reducible repeat (first | refine blk_drewN ?_ _ | refine blk_drew ?_ | refine blk_alloc ?_ _)); refine blk_far ?_ NB161_162.out _; (with_reducible repeat (first | refine blk_drewN ?_ _ | refine blk_drew ?_ | refine blk_alloc ?_ _)); exact BK161.out⟩, ⟨by (with_reducible repeat (first | refine blk_drewN ?_ _ | refine blk_drew ?_ | refine blk_alloc ?_ _)); refine blk_put (cs := #[.slice none 0 0, .slice none 0 0, .int .i64 0]) ?_ 2 _ rfl; (with_reducible repeat (first | refine blk_drewN ?_ _ | refine blk_drew ?_ | refine blk_alloc ?_ _)); refine blk_put (cs := #[.slice none 0 0, .slice none 0 0, .int .i64 0]) ?_ 1 _ rfl; (with_reducible repeat (first | refine blk_drewN ?_ _ | refine blk_drew ?_ | refine blk_alloc ?_ _)); refine blk_put (cs := #[.slice none 0 0, .slice none 0 0, .int .i64 0]) ?_ 0 _ rfl; (with_reducible repeat (first | refine blk_drewN ?_ _ | refine blk_drew ?_ | refine blk_alloc ?_ _)); exact BK162.out⟩, ⟨z10_⟩⟩
 case rest =>
  clear HC4; (try clear hcz10_0 hcz10_1 hcz10_2); (try clear hfz10_0 hfz10_1 hfz10_2)
  obtain ⟨kq, x33_3, rfl, HA, HJ3, BK160, BK161, BK162, HB⟩ := hcut
  cases kq with
  | zero => exact absurd HA.out (by simp [pursuivantref14_Read.j0])
  | succ kj3 =>
   have H := HA.out
   clear HA
   simp only [pursuivantref14_Read.j0] at H
   by_cases c20 : x33_3 = true
   ·subst c20
    have H1 : (some (([] : List ByteArray), ([] : List ByteArray), 0, false)) = some (r1, r2, r3, r4) := by rw [if_pos rfl] at H; exact H
    clear H
    have H := H1
    clear H1
    simp only [Option.some.injEq, Prod.mk.injEq] at H
    obtain ⟨rfl, rfl, rfl, rfl⟩ := H
    have hnb21 := NB162_160.out; have hnc21 := NB160_162.out; have hnb22 := NB162_161.out; have hnc22 := NB161_162.out; obtain ⟨hcz23_0, hcz23_1, hcz23_2⟩ := blkc3_ BK162.out; obtain ⟨hfz23_0, hfz23_1, hfz23_2⟩ := blkf3_ BK162.out; have hnb24 := NB161_160.out; have hnc24 := NB160_161.out; obtain ⟨hcz25_0, hcz25_1, hcz25_2⟩ := blkc3_ BK161.out; obtain ⟨hfz25_0, hfz25_1, hfz25_2⟩ := blkf3_ BK161.out; go_wp2
    refine bodyPost_ret (results_ct rfl _ _ gb161 36 #[.slice none 0 0, .slice none 0 0, .int .i64 0] (0, 0) _ rfl (by (with_reducible repeat (first | refine blk_drewN ?_ _ | refine blk_drew ?_ | refine blk_alloc ?_ _)); refine blk_put (cs := #[.slice none 0 0, .slice none 0 0, .int .i64 0]) ?_ 2 _ rfl; (with_reducible repeat (first | refine blk_drewN ?_ _ | refine blk_drew ?_ | refine blk_alloc ?_ _)); refine blk_put (cs := #[.slice none 0 0, .slice none 0 0, .int .i64 0]) ?_ 1 _ rfl; (with_reducible repeat (first | refine blk_drewN ?_ _ | refine blk_drew ?_ | refine blk_alloc ?_ _)); refine blk_put (cs := #[.slice none 0 0, .slice none 0 0, .int .i64 0]) ?_ 0 _ rfl; (with_reducible repeat (first | refine blk_drewN ?_ _ | refine blk_drew ?_ | refine blk_alloc ?_ _)); exact BK161.out) Tryz.underlying36 rfl (by kernel_rfl)) rfl ?_
    exact ⟨_, _, z28_, z19_, z19_, z10_⟩
   ·replace c20 := Bool.eq_false_iff.mpr c20
    subst c20
    have H1 : ((pursuivantref09_Get.f kj3 l0_1 (⟨#[97, 99, 99, 101, 115, 115, 45, 99, 111, 110, 116, 114, 111, 108, 45, 97, 108, 108, 111, 119, 45, 109, 101, 116, 104, 111, 100, 115]⟩ : ByteArray)).bind fun bt165 => ((pursuivantref09_Get.f kj3 l0_1 (⟨#[97, 99, 99, 101, 115, 115, 45, 99, 111, 110, 116, 114, 111, 108, 45, 97, 108, 108, 111, 119, 45, 104, 101, 97, 100, 101, 114, 115]⟩ : ByteArray)).bind fun bt167 => ((pursuivantref04_List.f kj3 bt165.1).bind fun t169 => (pursuivantref14_Read.l0 kj3 bt167.1 0 a0_0 l0_1 a0_2 0 t169 5)))) = some (r1, r2, r3, r4) := by rw [if_neg (show ¬ (false = true) by decide)] at H; exact H
    clear H
    have H := H1
    clear H1
    replace H := Option.bind_eq_some_iff.mp H
    obtain ⟨⟨t165, t166⟩, A260, H⟩ := H
    replace H : ((pursuivantref09_Get.f kj3 l0_1 (⟨#[97, 99, 99, 101, 115, 115, 45, 99, 111, 110, 116, 114, 111, 108, 45, 97, 108, 108, 111, 119, 45, 104, 101, 97, 100, 101, 114, 115]⟩ : ByteArray)).bind fun bt167 => ((pursuivantref04_List.f kj3 t165).bind fun t169 => (pursuivantref14_Read.l0 kj3 bt167.1 0 a0_0 l0_1 a0_2 0 t169 5))) = some (r1, r2, r3, r4) := H
    have A26 := Aside0.mk A260; clear A260
    replace H := Option.bind_eq_some_iff.mp H
    obtain ⟨⟨t167, t168⟩, A270, H⟩ := H
    replace H : ((pursuivantref04_List.f kj3 t165).bind fun t169 => (pursuivantref14_Read.l0 kj3 t167 0 a0_0 l0_1 a0_2 0 t169 5)) = some (r1, r2, r3, r4) := H
    have A27 := Aside0.mk A270; clear A270
    replace H := Option.bind_eq_some_iff.mp H
    obtain ⟨t169, A280, H⟩ := H
    replace H : (pursuivantref14_Read.l0 kj3 t167 0 a0_0 l0_1 a0_2 0 t169 5) = some (r1, r2, r3, r4) := H
    have A28 := Aside0.mk A280; clear A280
    have H' := Aside0.mk H
    clear H
    go_wp2_with (first | ((with_reducible refine gate_dst (N := 9) rfl ?_); refine box_event ?hg (N := 9) ?hd (cs := #[.slice none 0 0, .slice none 0 0, .int .i64 0]) (t := 36) ?hr ?_; (case hd => rfl); (case hg => rfl); (case hr => first | (go_simp; done) | (go_simp; rfl)); intro gb164 hg w29 hbox hb; have n0_ := Aside0.mk (blk_below (g := gb160) (o := .cells #[.int .i64 a0_0, .slice A0_1 l0_1.length c0_1, .string a0_2] 30 (0, 0)) z33_ hb); have n1_ := Aside0.mk (blk_below (g := gb161) (o := .cells #[.slice none 0 0, .slice none 0 0, .int .i64 0] 36 (0, 0)) z34_ hb); have n2_ := Aside0.mk (blk_below (g := gb162) (o := .cells #[.slice none 0 0, .slice none 0 0, .int .i64 0] 36 (0, 0)) z35_ hb); have n3_ := Aside0.mk (below_step z10_ hb); have n4_ := Aside0.mk (hbox); have n5_ := Aside0.mk ((by rw [hg]; exact (below_size z10_) : w.heap.size ≤ gb164)); have n6_ := Aside0.mk ((by rw [hg]; exact (below_size z10_) : w.heap.size ≤ gb164)); have n7_ := Aside0.mk ((by rw [hg]; exact Nat.ne_of_lt (blk_lt (g := gb160) (o := .cells #[.int .i64 a0_0, .slice A0_1 l0_1.length c0_1, .string a0_2] 30 (0, 0)) z33_) : gb160 ≠ gb164)); have n8_ := Aside0.mk ((by rw [hg]; exact Nat.ne_of_gt (blk_lt (g := gb160) (o := .cells #[.int .i64 a0_0, .slice A0_1 l0_1.length c0_1, .string a0_2] 30 (0, 0)) z33_) : gb164 ≠ gb160)); have n9_ := Aside0.mk ((by rw [hg]; exact Nat.ne_of_lt (blk_lt (g := gb161) (o := .cells #[.slice none 0 0, .slice none 0 0, .int .i64 0] 36 (0, 0)) z34_) : gb161 ≠ gb164)); have n10_ := Aside0.mk ((by rw [hg]; exact Nat.ne_of_gt (blk_lt (g := gb161) (o := .cells #[.slice none 0 0, .slice none 0 0, .int .i64 0] 36 (0, 0)) z34_) : gb164 ≠ gb161)); have n11_ := Aside0.mk ((by rw [hg]; exact Nat.ne_of_lt (blk_lt (g := gb162) (o := .cells #[.slice none 0 0, .slice none 0 0, .int .i64 0] 36 (0, 0)) z35_) : gb162 ≠ gb164)); have n12_ := Aside0.mk ((by rw [hg]; exact Nat.ne_of_gt (blk_lt (g := gb162) (o := .cells #[.slice none 0 0, .slice none 0 0, .int .i64 0] 36 (0, 0)) z35_) : gb164 ≠ gb162)); clear BK160; clear BK161; clear BK162; clear HB; have BK160 := n0_; have BK161 := n1_; have BK162 := n2_; have HB := n3_; have BK164 := n4_; have GW164 := n5_; have GE164 := n6_; have NB160_164 := n7_; have NB164_160 := n8_; have NB161_164 := n9_; have NB164_161 := n10_; have NB162_164 := n11_; have NB164_162 := n12_; clear n0_ n1_ n2_ n3_ n4_ n5_ n6_ n7_ n8_ n9_ n10_ n11_ n12_; clear hb hbox hg; have hnb30 := NB164_160.out; have hnc30 := NB160_164.out; have hnb31 := NB164_161.out; have hnc31 := NB161_164.out; have hnb32 := NB164_162.out; have hnc32 := NB162_164.out; have hcz33_0 : w29.cell? ⟨gb164, 0, none⟩ = some (.slice none 0 0) := (blk_cell BK164.out 0).trans rfl; have hcz33_1 : w29.cell? ⟨gb164, 1, none⟩ = some (.slice none 0 0) := (blk_cell BK164.out 1).trans rfl; have hcz33_2 : w29.cell? ⟨gb164, 2, none⟩ = some (.int .i64 0) := (blk_cell BK164.out 2).trans rfl; have hfz33_0 := blk_frozen BK164.out 0; have hfz33_1 := blk_frozen BK164.out 1; have hfz33_2 := blk_frozen BK164.out 2; have hnb34 := NB160_161.out; have hnc34 := NB161_160.out; have hnb35 := NB160_162.out; have hnc35 := NB162_160.out; have hcz36_0 : w29.cell? ⟨gb160, 0, none⟩ = some (.int .i64 a0_0) := (blk_cell BK160.out 0).trans rfl; have hcz36_1 : w29.cell? ⟨gb160, 1, none⟩ = some (.slice A0_1 l0_1.length c0_1) := (blk_cell BK160.out 1).trans rfl; have hcz36_2 : w29.cell? ⟨gb160, 2, none⟩ = some (.string a0_2) := (blk_cell BK160.out 2).trans rfl; have hfz36_0 := blk_frozen BK160.out 0; have hfz36_1 := blk_frozen BK160.out 1; have hfz36_2 := blk_frozen BK160.out 2) | ((with_reducible refine gate_callee (f := 31) rfl ?_); refine goesL_ (some 39) rfl rfl Tryz.func31 (by kernel_rfl) rfl #[.slice A0_1 l0_1.length c0_1, .string (⟨#[97, 99, 99, 101, 115, 115, 45, 99, 111, 110, 116, 114, 111, 108, 45, 97, 108, 108, 111, 119, 45, 109, 101, 116, 104, 111, 100, 115]⟩ : ByteArray)] rfl z24_ ?_; (with_reducible refine (pursuivantref09_Get.calls kj3 _ _ l0_1 (⟨#[97, 99, 99, 101, 115, 115, 45, 99, 111, 110, 116, 114, 111, 108, 45, 97, 108, 108, 111, 119, 45, 109, 101, 116, 104, 111, 100, 115]⟩ : ByteArray) t165 t166 _ ?gw22_ ?side1 ?side2 A26.out).mono ?_); (case gw22_ => exact z0_); (case side1 => exact Kd.C_below HR0_1.out z9_); (case side2 => exact HC0_1.out); rintro e w37 ⟨rfl, hb⟩; refine ⟨_, rfl, ?_⟩; have n0_ := Aside0.mk (blk_below (g := gb160) (o := .cells #[.int .i64 a0_0, .slice A0_1 l0_1.length c0_1, .string a0_2] 30 (0, 0)) (by (with_reducible repeat (first | refine blk_drewN ?_ _ | refine blk_drew ?_ | refine blk_alloc ?_ _)); refine blk_far ?_ NB160_164.out _; (with_reducible repeat (first | refine blk_drewN ?_ _ | refine blk_drew ?_ | refine blk_alloc ?_ _)); refine blk_far ?_ NB160_164.out _; (with_reducible repeat (first | refine blk_drewN ?_ _ | refine blk_drew ?_ | refine blk_alloc ?_ _)); refine blk_far ?_ NB160_164.out _; (with_reducible repeat (first | refine blk_drewN ?_ _ | refine blk_drew ?_ | refine blk_alloc ?_ _)); exact BK160.out) hb); have n1_ := Aside0.mk (blk_below (g := gb161) (o := .cells #[.slice none 0 0, .slice none 0 0, .int .i64 0] 36 (0, 0)) (by (with_reducible repeat (first | refine blk_drewN ?_ _ | refine blk_drew ?_ | refine blk_alloc ?_ _)); refine blk_far ?_ NB161_164.out _; (with_reducible repeat (first | refine blk_drewN ?_ _ | refine blk_drew ?_ | refine blk_alloc ?_ _)); refine blk_far ?_ NB161_164.out _; (with_reducible repeat (first | refine blk_drewN ?_ _ | refine blk_drew ?_ | refine blk_alloc ?_ _)); refine blk_far ?_ NB161_164.out _; (with_reducible repeat (first | refine blk_drewN ?_ _ | refine blk_drew ?_ | refine blk_alloc ?_ _)); exact BK161.out) hb); have n2_ := Aside0.mk (blk_below (g := gb162) (o := .cells #[.slice none 0 0, .slice none 0 0, .int .i64 0] 36 (0, 0)) (by (with_reducible repeat (first | refine blk_drewN ?_ _ | refine blk_drew ?_ | refine blk_alloc ?_ _)); refine blk_far ?_ NB162_164.out _; (with_reducible repeat (first | refine blk_drewN ?_ _ | refine blk_drew ?_ | refine blk_alloc ?_ _)); refine blk_far ?_ NB162_164.out _; (with_reducible repeat (first | refine blk_drewN ?_ _ | refine blk_drew ?_ | refine blk_alloc ?_ _)); refine blk_far ?_ NB162_164.out _; (with_reducible repeat (first | refine blk_drewN ?_ _ | refine blk_drew ?_ | refine blk_alloc ?_ _)); exact BK162.out) hb); have n3_ := Aside0.mk (blk_below (g := gb164) (o := .cells #[.slice none 0 0, .slice none 0 0, .int .i64 5] 36 (0, 0)) (by (with_reducible repeat (first | refine blk_drewN ?_ _ | refine blk_drew ?_ | refine blk_alloc ?_ _)); refine blk_put (cs := #[.slice none 0 0, .slice none 0 0, .int .i64 0]) ?_ 2 _ rfl; (with_reducible repeat (first | refine blk_drewN ?_ _ | refine blk_drew ?_ | refine blk_alloc ?_ _)); refine blk_put (cs := #[.slice none 0 0, .slice none 0 0, .int .i64 0]) ?_ 1 _ rfl; (with_reducible repeat (first | refine blk_drewN ?_ _ | refine blk_drew ?_ | refine blk_alloc ?_ _)); refine blk_put (cs := #[.slice none 0 0, .slice none 0 0, .int .i64 0]) ?_ 0 _ rfl; (with_reducible repeat (first | refine blk_drewN ?_ _ | refine blk_drew ?_ | refine blk_alloc ?_ _)); exact BK164.out) hb); have n4_ := Aside0.mk (below_step z9_ hb); clear BK160; clear BK161; clear BK162; clear BK164; clear HB; have BK160 := n0_; have BK161 := n1_; have BK162 := n2_; have BK164 := n3_; have HB := n4_; clear n0_ n1_ n2_ n3_ n4_; (try clear hb); (try clear hb2); (try clear hk); (try clear hi); have hcz38_0 : w37.cell? ⟨gb160, 0, none⟩ = some (.int .i64 a0_0) := (blk_cell BK160.out 0).trans rfl; have hcz38_1 : w37.cell? ⟨gb160, 1, none⟩ = some (.slice A0_1 l0_1.length c0_1) := (blk_cell BK160.out 1).trans rfl; have hcz38_2 : w37.cell? ⟨gb160, 2, none⟩ = some (.string a0_2) := (blk_cell BK160.out 2).trans rfl; have hfz38_0 := blk_frozen BK160.out 0; have hfz38_1 := blk_frozen BK160.out 1; have hfz38_2 := blk_frozen BK160.out 2) | ((with_reducible refine gate_callee (f := 31) rfl ?_); refine goesL_ (some 45) rfl rfl Tryz.func31 (by kernel_rfl) rfl #[.slice A0_1 l0_1.length c0_1, .string (⟨#[97, 99, 99, 101, 115, 115, 45, 99, 111, 110, 116, 114, 111, 108, 45, 97, 108, 108, 111, 119, 45, 104, 101, 97, 100, 101, 114, 115]⟩ : ByteArray)] rfl z24_ ?_; (with_reducible refine (pursuivantref09_Get.calls kj3 _ _ l0_1 (⟨#[97, 99, 99, 101, 115, 115, 45, 99, 111, 110, 116, 114, 111, 108, 45, 97, 108, 108, 111, 119, 45, 104, 101, 97, 100, 101, 114, 115]⟩ : ByteArray) t167 t168 _ ?gw23_ ?side1 ?side2 A27.out).mono ?_); (case gw23_ => exact z0_); (case side1 => repeat (first | exact (Kd.C_below HR0_1.out HB.out) | (with_reducible refine Kd.C_alloc ?_ _) | (with_reducible refine Kd.C_drewN ?_ _) | (with_reducible refine Kd.C_drew ?_))); (case side2 => exact HC0_1.out); rintro e w39 ⟨rfl, hb⟩; refine ⟨_, rfl, ?_⟩; have n0_ := Aside0.mk (blk_below (g := gb160) (o := .cells #[.int .i64 a0_0, .slice A0_1 l0_1.length c0_1, .string a0_2] 30 (0, 0)) z33_ hb); have n1_ := Aside0.mk (blk_below (g := gb161) (o := .cells #[.slice none 0 0, .slice none 0 0, .int .i64 0] 36 (0, 0)) z34_ hb); have n2_ := Aside0.mk (blk_below (g := gb162) (o := .cells #[.slice none 0 0, .slice none 0 0, .int .i64 0] 36 (0, 0)) z35_ hb); have n3_ := Aside0.mk (blk_below (g := gb164) (o := .cells #[.slice none 0 0, .slice none 0 0, .int .i64 5] 36 (0, 0)) z36_ hb); have n4_ := Aside0.mk (below_step z9_ hb); clear BK160; clear BK161; clear BK162; clear BK164; clear HB; have BK160 := n0_; have BK161 := n1_; have BK162 := n2_; have BK164 := n3_; have HB := n4_; clear n0_ n1_ n2_ n3_ n4_; (try clear hb); (try clear hb2); (try clear hk); (try clear hi)) | ((with_reducible refine gate_callee (f := 32) rfl ?_); refine goesL_ (some 49) rfl rfl Tryz.func32 (by kernel_rfl) rfl #[.string t165] rfl z24_ ?_; (with_reducible refine (pursuivantref04_List.calls kj3 t165 t169 _ ?gw24_ A28.out).mono ?_); (case gw24_ => exact z0_); rintro e w40 ⟨v170, rfl, ho0, hb⟩; refine ⟨_, rfl, ?_⟩; have n0_ := Aside0.mk (Kd.R_lower ho0 (below_size z9_)); have n1_ := Aside0.mk (blk_below (g := gb160) (o := .cells #[.int .i64 a0_0, .slice A0_1 l0_1.length c0_1, .string a0_2] 30 (0, 0)) z33_ hb); have n2_ := Aside0.mk (blk_below (g := gb161) (o := .cells #[.slice none 0 0, .slice none 0 0, .int .i64 0] 36 (0, 0)) z34_ hb); have n3_ := Aside0.mk (blk_below (g := gb162) (o := .cells #[.slice none 0 0, .slice none 0 0, .int .i64 0] 36 (0, 0)) z35_ hb); have n4_ := Aside0.mk (blk_below (g := gb164) (o := .cells #[.slice none 0 0, .slice none 0 0, .int .i64 5] 36 (0, 0)) z36_ hb); have n5_ := Aside0.mk (below_step z9_ hb); clear BK160; clear BK161; clear BK162; clear BK164; clear HB; have HO171 := n0_; have BK160 := n1_; have BK161 := n2_; have BK162 := n3_; have BK164 := n4_; have HB := n5_; clear n0_ n1_ n2_ n3_ n4_ n5_; (try clear hb); (try clear hb2); (try clear hk); (try clear hi); (try clear ho0); obtain ⟨Ao41, co41, eo41⟩ := Kd.R_slice HO171.out; subst eo41; have hcz42_0 : w40.cell? ⟨gb164, 0, none⟩ = some (.slice none 0 0) := (blk_cell BK164.out 0).trans rfl; have hcz42_1 : w40.cell? ⟨gb164, 1, none⟩ = some (.slice none 0 0) := (blk_cell BK164.out 1).trans rfl; have hcz42_2 : w40.cell? ⟨gb164, 2, none⟩ = some (.int .i64 5) := (blk_cell BK164.out 2).trans rfl; have hfz42_0 := blk_frozen BK164.out 0; have hfz42_1 := blk_frozen BK164.out 1; have hfz42_2 := blk_frozen BK164.out 2))
    go_loopg [14] kj3 (fun kq v14 w' => ∃ (x14_2 x162002_2 : Int), v14 = .int .i64 x14_2 ∧ Aside0 (pursuivantref14_Read.l0 kq t167 x14_2 a0_0 l0_1 a0_2 0 t169 5 = some (r1, r2, r3, r4)) ∧ Aside0 (kq ≤ kj3) ∧ Aside0 (Kd.R Kd.string 9 w' w.heap.size (fun _ => True) (.slice Ao41 t169.length co41) t169) ∧ Aside0 (w'.heap[gb160]? = some (.cells #[.int .i64 a0_0, (.slice A0_1 l0_1.length c0_1), .string a0_2] 30 (0, 0))) ∧ Aside0 (w'.heap[gb161]? = some (.cells #[(.slice none 0 0), (.slice none 0 0), .int .i64 x162002_2] 36 (0, 0))) ∧ Aside0 (w'.heap[gb162]? = some (.cells #[(.slice none 0 0), (.slice none 0 0), .int .i64 0] 36 (0, 0))) ∧ Aside0 (w'.heap[gb164]? = some (.cells #[(.slice Ao41 t169.length co41), (.slice none 0 0), .int .i64 5] 36 (0, 0))) ∧ Aside0 (Below w.heap.size w w'))
    case atStart => exact ⟨(0), (0), z51_, H', ⟨Nat.le_refl _⟩, ⟨by (with_reducible repeat (first | apply Kd.R_alloc | apply Kd.R_drewN | apply Kd.R_drew)); exact Kd.R_mono (Kd.R_far (p := ⟨gb164, 0, none⟩) (Kd.R_types HO171.out BK164.out (by decide)) (fun _ hk => hk.2) (.slice Ao41 t169.length co41)) (fun _ hk => trivial)⟩, ⟨by (with_reducible repeat (first | refine blk_drewN ?_ _ | refine blk_drew ?_ | refine blk_alloc ?_ _)); refine blk_far ?_ NB160_164.out _; (with_reducible repeat (first | refine blk_drewN ?_ _ | refine blk_drew ?_ | refine blk_alloc ?_ _)); exact BK160.out⟩, ⟨by (with_reducible repeat (first | refine blk_drewN ?_ _ | refine blk_drew ?_ | refine blk_alloc ?_ _)); refine blk_far ?_ NB161_164.out _; (with_reducible repeat (first | refine blk_drewN ?_ _ | refine blk_drew ?_ | refine blk_alloc ?_ _)); exact BK161.out⟩, ⟨by (with_reducible repeat (first | refine blk_drewN ?_ _ | refine blk_drew ?_ | refine blk_alloc ?_ _)); refine blk_far ?_ NB162_164.out _; (with_reducible repeat (first | refine blk_drewN ?_ _ | refine blk_drew ?_ | refine blk_alloc ?_ _)); exact BK162.out⟩, ⟨by (with_reducible repeat (first | refine blk_drewN ?_ _ | refine blk_drew ?_ | refine blk_alloc ?_ _)); refine blk_put (cs := #[.slice none 0 0, .slice none 0 0, .int .i64 5]) ?_ 0 _ rfl; (with_reducible repeat (first | refine blk_drewN ?_ _ | refine blk_drew ?_ | refine blk_alloc ?_ _)); exact BK164.out⟩, ⟨z9_⟩⟩
    case round =>
     clear H'; (try clear c20); (try clear hcz10_0 hcz10_1 hcz10_2); (try clear hcz33_0 hcz33_1 hcz33_2); (try clear hcz36_0 hcz36_1 hcz36_2); (try clear hcz38_0 hcz38_1 hcz38_2); (try clear hcz42_0 hcz42_1 hcz42_2); (try clear hfz10_0 hfz10_1 hfz10_2); (try clear hfz33_0 hfz33_1 hfz33_2); (try clear hfz36_0 hfz36_1 hfz36_2); (try clear hfz38_0 hfz38_1 hfz38_2); (try clear hfz42_0 hfz42_1 hfz42_2)
     obtain ⟨x14_2, x162002_2, rfl, HA, HK2, HO_165000, BK160, BK161, BK162, BK164, HB⟩ := hrel
     cases gk with
     | zero => exact absurd HA.out (by simp [pursuivantref14_Read.l0])
     | succ k2 =>
      have H := HA.out
      clear HA
      simp only [pursuivantref14_Read.l0] at H
      by_cases c43 : x14_2 < (t169.length : Int)
      ·rw [if_pos c43] at H
       have c43b0 : decide (x14_2 < (t169.length : Int)) = true := decide_eq_true c43; clear c43
       by_cases c44 : 0 ≤ x14_2
       ·rw [if_pos c44] at H
        have c44b0 : decide (0 ≤ x14_2) = true := decide_eq_true c44; clear c44
        replace H := Option.bind_eq_some_iff.mp H
        obtain ⟨t173, A450, H⟩ := H
        replace H : (if t173 = true then (pursuivantref14_Read.l0 k2 t167 (wrap64 (x14_2 + 1)) a0_0 l0_1 a0_2 0 t169 5) else (some (([] : List ByteArray), ([] : List ByteArray), 0, false))) = some (r1, r2, r3, r4) := H
        have A45 := Aside0.mk A450; clear A450
        by_cases c46 : t173 = true
        ·subst c46
         have H1 : (pursuivantref14_Read.l0 k2 t167 (wrap64 (x14_2 + 1)) a0_0 l0_1 a0_2 0 t169 5) = some (r1, r2, r3, r4) := by rw [if_pos rfl] at H; exact H
         clear H
         have H := H1
         clear H1
         have H' := Aside0.mk H
         clear H; have hnb47 := NB164_160.out; have hnc47 := NB160_164.out; have hnb48 := NB164_161.out; have hnc48 := NB161_164.out; have hnb49 := NB164_162.out; have hnc49 := NB162_164.out; obtain ⟨hcz50_0, hcz50_1, hcz50_2⟩ := blkc3_ BK164.out; obtain ⟨hfz50_0, hfz50_1, hfz50_2⟩ := blkf3_ BK164.out
         have p172 : 0 ≤ (x14_2 : Int) := of_decide_eq_true z55_
         have q172 : x14_2 < (t169.length : Int) := of_decide_eq_true z55_
         obtain ⟨ad172, e172, hx172_0⟩ := Kd.at_string (Kd.R_reads' HO_165000.out).2.2 x14_2 p172 q172
         cases e172
         replace p172 := eq_true p172
         replace q172 := eq_true q172
         go_wp2_with (first | ((with_reducible refine gate_callee (f := 33) rfl ?_); refine goesL_ (some 63) rfl rfl Tryz.func33 (by kernel_rfl) rfl #[.string (rdOf ByteArray.empty t169 x14_2)] rfl z24_ ?_; (with_reducible refine (pursuivantref04_Token.calls k2 (rdOf ByteArray.empty t169 x14_2) true _ ?gw25_ A45.out).mono ?_); (case gw25_ => exact z0_); rintro e w' ⟨rfl, ⟨nd, rfl⟩⟩; refine ⟨_, rfl, ?_⟩))
         go_roundg k2
         case measure => have := HJ3.out; have := HK2.out; omega
         case rel => exact ⟨(wrap64 (x14_2 + 1)), (x162002_2), z51_, H', ⟨by have := HJ3.out; have := HK2.out; omega⟩, ⟨z41_⟩, ⟨z33_⟩, ⟨z34_⟩, ⟨z35_⟩, ⟨z36_⟩, ⟨z9_⟩⟩
        ·replace c46 := Bool.eq_false_iff.mpr c46
         subst c46
         have H1 : (some (([] : List ByteArray), ([] : List ByteArray), 0, false)) = some (r1, r2, r3, r4) := by rw [if_neg (show ¬ (false = true) by decide)] at H; exact H
         clear H
         have H := H1
         clear H1
         simp only [Option.some.injEq, Prod.mk.injEq] at H
         obtain ⟨rfl, rfl, rfl, rfl⟩ := H
         have hnb51 := NB164_160.out; have hnc51 := NB160_164.out; have hnb52 := NB164_161.out; have hnc52 := NB161_164.out; have hnb53 := NB164_162.out; have hnc53 := NB162_164.out; obtain ⟨hcz54_0, hcz54_1, hcz54_2⟩ := blkc3_ BK164.out; obtain ⟨hfz54_0, hfz54_1, hfz54_2⟩ := blkf3_ BK164.out
         have p172 : 0 ≤ (x14_2 : Int) := of_decide_eq_true z55_
         have q172 : x14_2 < (t169.length : Int) := of_decide_eq_true z55_
         obtain ⟨ad172, e172, hx172_0⟩ := Kd.at_string (Kd.R_reads' HO_165000.out).2.2 x14_2 p172 q172
         cases e172
         replace p172 := eq_true p172
         replace q172 := eq_true q172
         go_wp2_with (first | ((with_reducible refine gate_callee (f := 33) rfl ?_); refine goesL_ (some 63) rfl rfl Tryz.func33 (by kernel_rfl) rfl #[.string (rdOf ByteArray.empty t169 x14_2)] rfl z24_ ?_; (with_reducible refine (pursuivantref04_Token.calls k2 (rdOf ByteArray.empty t169 x14_2) false _ ?gw26_ A45.out).mono ?_); (case gw26_ => exact z0_); rintro e w' ⟨rfl, ⟨nd, rfl⟩⟩; refine ⟨_, rfl, ?_⟩; (try (rw [drewN_self wr]; generalize hq_ : World.drewN wr _ = wr; have n0_ : Aside0 (Kd.R Kd.string 9 wr w.heap.size (fun _ => True) (.slice (some ad172) t169.length co41) t169) := ⟨z26_⟩; have n1_ : Aside0 (wr.heap[gb160]? = some (.cells #[.int .i64 a0_0, .slice A0_1 l0_1.length c0_1, .string a0_2] 30 (0, 0))) := ⟨z20_⟩; have n2_ : Aside0 (wr.heap[gb161]? = some (.cells #[.slice none 0 0, .slice none 0 0, .int .i64 x162002_2] 36 (0, 0))) := ⟨z21_⟩; have n3_ : Aside0 (wr.heap[gb162]? = some (.cells #[.slice none 0 0, .slice none 0 0, .int .i64 0] 36 (0, 0))) := ⟨z22_⟩; have n4_ : Aside0 (wr.heap[gb164]? = some (.cells #[.slice (some ad172) t169.length co41, .slice none 0 0, .int .i64 5] 36 (0, 0))) := ⟨z23_⟩; have n5_ : Aside0 (Below w.heap.size w wr) := ⟨z7_⟩; clear HO_165000 BK160 BK161 BK162 BK164 HB hq_; have HO_165000 := n0_; have BK160 := n1_; have BK161 := n2_; have BK162 := n3_; have BK164 := n4_; have HB := n5_; clear n0_ n1_ n2_ n3_ n4_ n5_)); have hnb55 := NB162_160.out; have hnc55 := NB160_162.out; have hnb56 := NB162_161.out; have hnc56 := NB161_162.out; have hcz57_0 : wr.cell? ⟨gb162, 0, none⟩ = some (.slice none 0 0) := (blk_cell BK162.out 0).trans rfl; have hcz57_1 : wr.cell? ⟨gb162, 1, none⟩ = some (.slice none 0 0) := (blk_cell BK162.out 1).trans rfl; have hcz57_2 : wr.cell? ⟨gb162, 2, none⟩ = some (.int .i64 0) := (blk_cell BK162.out 2).trans rfl; have hfz57_0 := blk_frozen BK162.out 0; have hfz57_1 := blk_frozen BK162.out 1; have hfz57_2 := blk_frozen BK162.out 2; have hnb58 := NB161_160.out; have hnc58 := NB160_161.out; have hcz59_0 : wr.cell? ⟨gb161, 0, none⟩ = some (.slice none 0 0) := (blk_cell BK161.out 0).trans rfl; have hcz59_1 : wr.cell? ⟨gb161, 1, none⟩ = some (.slice none 0 0) := (blk_cell BK161.out 1).trans rfl; have hcz59_2 : wr.cell? ⟨gb161, 2, none⟩ = some (.int .i64 x162002_2) := (blk_cell BK161.out 2).trans rfl; have hfz59_0 := blk_frozen BK161.out 0; have hfz59_1 := blk_frozen BK161.out 1; have hfz59_2 := blk_frozen BK161.out 2))
         refine bodyPost_ret (results_ct rfl _ _ gb161 36 #[.slice none 0 0, .slice none 0 0, .int .i64 0] (0, 0) _ rfl (by (with_reducible repeat (first | refine blk_drewN ?_ _ | refine blk_drew ?_ | refine blk_alloc ?_ _)); refine blk_put (cs := #[.slice none 0 0, .slice none 0 0, .int .i64 x162002_2]) ?_ 2 _ rfl; (with_reducible repeat (first | refine blk_drewN ?_ _ | refine blk_drew ?_ | refine blk_alloc ?_ _)); refine blk_put (cs := #[.slice none 0 0, .slice none 0 0, .int .i64 x162002_2]) ?_ 1 _ rfl; (with_reducible repeat (first | refine blk_drewN ?_ _ | refine blk_drew ?_ | refine blk_alloc ?_ _)); refine blk_put (cs := #[.slice none 0 0, .slice none 0 0, .int .i64 x162002_2]) ?_ 0 _ rfl; (with_reducible repeat (first | refine blk_drewN ?_ _ | refine blk_drew ?_ | refine blk_alloc ?_ _)); exact BK161.out) Tryz.underlying36 rfl (by kernel_rfl)) rfl ?_
         exact ⟨_, _, z28_, z19_, z19_, z9_⟩
       ·rw [if_neg c44] at H
        exact absurd H (by simp)
      ·rw [if_neg c43] at H
       have c43b0 : decide (x14_2 < (t169.length : Int)) = false := decide_eq_false c43; clear c43
       replace H := Option.bind_eq_some_iff.mp H
       obtain ⟨t174, A600, H⟩ := H
       replace H : (pursuivantref14_Read.l1 k2 t174 0 a0_0 l0_1 a0_2 0 t169 ([] : List ByteArray) 5) = some (r1, r2, r3, r4) := H
       have A60 := Aside0.mk A600; clear A600
       have H' := Aside0.mk H
       clear H; have hnb61 := NB164_160.out; have hnc61 := NB160_164.out; have hnb62 := NB164_161.out; have hnc62 := NB161_164.out; have hnb63 := NB164_162.out; have hnc63 := NB162_164.out; obtain ⟨hcz64_0, hcz64_1, hcz64_2⟩ := blkc3_ BK164.out; obtain ⟨hfz64_0, hfz64_1, hfz64_2⟩ := blkf3_ BK164.out
       go_wp2_with (first | ((with_reducible refine gate_callee (f := 32) rfl ?_); refine goesL_ (some 67) rfl rfl Tryz.func32 (by kernel_rfl) rfl #[.string t167] rfl z24_ ?_; (with_reducible refine (pursuivantref04_List.calls k2 t167 t174 _ ?gw27_ A60.out).mono ?_); (case gw27_ => exact z0_); rintro e w65 ⟨v175, rfl, ho0, hb⟩; refine ⟨_, rfl, ?_⟩; have n0_ := Aside0.mk (Kd.R_elder' z41_ (Kd.R_base ho0) hb); have n1_ := Aside0.mk (Kd.R_lower (Kd.R_new' ho0 (Kd.R_lt z41_)) (below_size z9_)); have n2_ := Aside0.mk (blk_below (g := gb160) (o := .cells #[.int .i64 a0_0, .slice A0_1 l0_1.length c0_1, .string a0_2] 30 (0, 0)) z33_ hb); have n3_ := Aside0.mk (blk_below (g := gb161) (o := .cells #[.slice none 0 0, .slice none 0 0, .int .i64 x162002_2] 36 (0, 0)) z34_ hb); have n4_ := Aside0.mk (blk_below (g := gb162) (o := .cells #[.slice none 0 0, .slice none 0 0, .int .i64 0] 36 (0, 0)) z35_ hb); have n5_ := Aside0.mk (blk_below (g := gb164) (o := .cells #[.slice Ao41 t169.length co41, .slice none 0 0, .int .i64 5] 36 (0, 0)) z36_ hb); have n6_ := Aside0.mk (below_step z9_ hb); clear HO_165000; clear BK160; clear BK161; clear BK162; clear BK164; clear HB; have HO_165000 := n0_; have HO176 := n1_; have BK160 := n2_; have BK161 := n3_; have BK162 := n4_; have BK164 := n5_; have HB := n6_; clear n0_ n1_ n2_ n3_ n4_ n5_ n6_; (try clear hb); (try clear hb2); (try clear hk); (try clear hi); (try clear ho0)))
       go_loopg [16] k2 (fun kq v16 w' => ∃ (x16_3 : Int) (x162002_3 : Int) (x165001_3 : List ByteArray) (u165001 : Value), v16 = .int .i64 x16_3 ∧ Aside0 (pursuivantref14_Read.l1 kq t174 x16_3 a0_0 l0_1 a0_2 0 t169 x165001_3 5 = some (r1, r2, r3, r4)) ∧ Aside0 (kq ≤ k2) ∧ Aside0 (Kd.R Kd.string 9 w' w.heap.size (fun k_ => some k_ ≠ ((.slice Ao41 t169.length co41) : Value).ownBlock ∧ some k_ ≠ (u165001 : Value).ownBlock) v175 t174) ∧ Aside0 (Kd.R Kd.string 9 w' w.heap.size (fun k_ => some k_ ≠ (v175 : Value).ownBlock ∧ some k_ ≠ (u165001 : Value).ownBlock) (.slice Ao41 t169.length co41) t169) ∧ Aside0 (Kd.R Kd.string 9 w' w.heap.size (fun k_ => some k_ ≠ (v175 : Value).ownBlock ∧ some k_ ≠ ((.slice Ao41 t169.length co41) : Value).ownBlock) u165001 x165001_3) ∧ Aside0 (w'.heap[gb160]? = some (.cells #[.int .i64 a0_0, (.slice A0_1 l0_1.length c0_1), .string a0_2] 30 (0, 0))) ∧ Aside0 (w'.heap[gb161]? = some (.cells #[(.slice none 0 0), (.slice none 0 0), .int .i64 x162002_3] 36 (0, 0))) ∧ Aside0 (w'.heap[gb162]? = some (.cells #[(.slice none 0 0), (.slice none 0 0), .int .i64 0] 36 (0, 0))) ∧ Aside0 (w'.heap[gb164]? = some (.cells #[(.slice Ao41 t169.length co41), u165001, .int .i64 5] 36 (0, 0))) ∧ Aside0 (Below w.heap.size w w'))
       case atStart => exact ⟨(0), (x162002_2), (([] : List ByteArray)), (.slice none 0 0), z51_, H', ⟨Nat.le_refl _⟩, ⟨by (with_reducible repeat (first | apply Kd.R_alloc | apply Kd.R_drewN | apply Kd.R_drew)); exact Kd.R_mono HO176.out (fun _ hk => ⟨hk.2, (by simp [Value.ownBlock])⟩)⟩, ⟨by (with_reducible repeat (first | apply Kd.R_alloc | apply Kd.R_drewN | apply Kd.R_drew)); exact Kd.R_mono HO_165000.out (fun _ hk => ⟨hk.2, (by simp [Value.ownBlock])⟩)⟩, ⟨z19_⟩, ⟨z33_⟩, ⟨z34_⟩, ⟨z35_⟩, ⟨z36_⟩, ⟨z9_⟩⟩
       case round =>
        clear H'; (try clear c20); (try clear c43); (try clear c43b0); (try clear hcz10_0 hcz10_1 hcz10_2); (try clear hcz33_0 hcz33_1 hcz33_2); (try clear hcz36_0 hcz36_1 hcz36_2); (try clear hcz38_0 hcz38_1 hcz38_2); (try clear hcz42_0 hcz42_1 hcz42_2); (try clear hcz64_0 hcz64_1 hcz64_2); (try clear hfz10_0 hfz10_1 hfz10_2); (try clear hfz33_0 hfz33_1 hfz33_2); (try clear hfz36_0 hfz36_1 hfz36_2); (try clear hfz38_0 hfz38_1 hfz38_2); (try clear hfz42_0 hfz42_1 hfz42_2); (try clear hfz64_0 hfz64_1 hfz64_2)
        obtain ⟨x16_3, x162002_3, x165001_3, u165001, rfl, HA, HK3, HO_15, HO_165000, HO_165001, BK160, BK161, BK162, BK164, HB⟩ := hrel
        cases gk with
        | zero => exact absurd HA.out (by simp [pursuivantref14_Read.l1])
        | succ k3 =>
         have H := HA.out
         clear HA
         simp only [pursuivantref14_Read.l1] at H
         by_cases c66 : x16_3 < (t174.length : Int)
         ·rw [if_pos c66] at H
          have c66b0 : decide (x16_3 < (t174.length : Int)) = true := decide_eq_true c66; clear c66
          by_cases c67 : 0 ≤ x16_3
          ·rw [if_pos c67] at H
           have c67b0 : decide (0 ≤ x16_3) = true := decide_eq_true c67; clear c67
           replace H := Option.bind_eq_some_iff.mp H
           obtain ⟨t178, A680, H⟩ := H
           replace H : (if t178 = true then ((pursuivantref04_Lower.f k3 (rdOf ByteArray.empty t174 x16_3)).bind fun t180 => (if x165001_3.length < 8796093022208 then (pursuivantref14_Read.l1 k3 t174 (wrap64 (x16_3 + 1)) a0_0 l0_1 a0_2 0 t169 (x165001_3 ++ [t180]) 5) else (none))) else (some (([] : List ByteArray), ([] : List ByteArray), 0, false))) = some (r1, r2, r3, r4) := H
           have A68 := Aside0.mk A680; clear A680
           by_cases c69 : t178 = true
           ·subst c69
            have H1 : ((pursuivantref04_Lower.f k3 (rdOf ByteArray.empty t174 x16_3)).bind fun t180 => (if x165001_3.length < 8796093022208 then (pursuivantref14_Read.l1 k3 t174 (wrap64 (x16_3 + 1)) a0_0 l0_1 a0_2 0 t169 (x165001_3 ++ [t180]) 5) else (none))) = some (r1, r2, r3, r4) := by rw [if_pos rfl] at H; exact H
            clear H
            have H := H1
            clear H1
            replace H := Option.bind_eq_some_iff.mp H
            obtain ⟨t180, A700, H⟩ := H
            replace H : (if x165001_3.length < 8796093022208 then (pursuivantref14_Read.l1 k3 t174 (wrap64 (x16_3 + 1)) a0_0 l0_1 a0_2 0 t169 (x165001_3 ++ [t180]) 5) else (none)) = some (r1, r2, r3, r4) := H
            have A70 := Aside0.mk A700; clear A700
            by_cases c71 : x165001_3.length < 8796093022208
            ·rw [if_pos c71] at H
             have LMc71 := Aside0.mk c71; clear c71
             obtain ⟨y181, hy181⟩ : ∃ y_ : List ByteArray, y_ = (x165001_3 ++ [t180]) := ⟨_, rfl⟩
             replace H : (pursuivantref14_Read.l1 k3 t174 (wrap64 (x16_3 + 1)) a0_0 l0_1 a0_2 0 t169 y181 5) = some (r1, r2, r3, r4) := by first | (rw [hy181]; with_reducible exact H) | (have H2_ := (Option.bind_some _ _).symm.trans H; rw [hy181]; with_reducible exact H2_) | (have H2_ := (Option.bind_some _ _).symm.trans H; with_reducible exact H2_) | with_reducible exact H | (rw [hy181]; exact H) | exact H
             have Ny181 := Aside0.mk hy181; clear hy181
             have H' := Aside0.mk H
             clear H
             obtain ⟨Ao72, co72, eo72⟩ := Kd.R_slice HO_15.out
             subst eo72
             have p177 : 0 ≤ (x16_3 : Int) := of_decide_eq_true z55_
             have q177 : x16_3 < (t174.length : Int) := of_decide_eq_true z55_
             obtain ⟨ad177, e177, hx177_0⟩ := Kd.at_string (Kd.R_reads' HO_15.out).2.2 x16_3 p177 q177
             cases e177
             replace p177 := eq_true p177
             replace q177 := eq_true q177
             try go_wp2_with (first | ((with_reducible refine gate_callee (f := 33) rfl ?_); refine goesL_ (some 78) rfl rfl Tryz.func33 (by kernel_rfl) rfl #[.string (rdOf ByteArray.empty t174 x16_3)] rfl z24_ ?_; (with_reducible refine (pursuivantref04_Token.calls k3 (rdOf ByteArray.empty t174 x16_3) true _ ?gw28_ A68.out).mono ?_); (case gw28_ => exact z0_); rintro e w' ⟨rfl, ⟨nd, rfl⟩⟩; refine ⟨_, rfl, ?_⟩; (try (rw [drewN_self wr]; generalize hq_ : World.drewN wr _ = wr; have n0_ : Aside0 (Kd.R Kd.string 9 wr w.heap.size (fun k_ => some k_ ≠ (.slice Ao41 t169.length co41 : Value).ownBlock ∧ some k_ ≠ (u165001 : Value).ownBlock) (.slice (some ad177) t174.length co72) t174) := ⟨z31_⟩; have n1_ : Aside0 (Kd.R Kd.string 9 wr w.heap.size (fun k_ => some k_ ≠ (.slice (some ad177) t174.length co72 : Value).ownBlock ∧ some k_ ≠ (u165001 : Value).ownBlock) (.slice Ao41 t169.length co41) t169) := ⟨z26_⟩; have n2_ : Aside0 (Kd.R Kd.string 9 wr w.heap.size (fun k_ => some k_ ≠ (.slice (some ad177) t174.length co72 : Value).ownBlock ∧ some k_ ≠ (.slice Ao41 t169.length co41 : Value).ownBlock) u165001 x165001_3) := ⟨z27_⟩; have n3_ : Aside0 (wr.heap[gb160]? = some (.cells #[.int .i64 a0_0, .slice A0_1 l0_1.length c0_1, .string a0_2] 30 (0, 0))) := ⟨z20_⟩; have n4_ : Aside0 (wr.heap[gb161]? = some (.cells #[.slice none 0 0, .slice none 0 0, .int .i64 x162002_3] 36 (0, 0))) := ⟨z21_⟩; have n5_ : Aside0 (wr.heap[gb162]? = some (.cells #[.slice none 0 0, .slice none 0 0, .int .i64 0] 36 (0, 0))) := ⟨z22_⟩; have n6_ : Aside0 (wr.heap[gb164]? = some (.cells #[.slice Ao41 t169.length co41, u165001, .int .i64 5] 36 (0, 0))) := ⟨z23_⟩; have n7_ : Aside0 (Below w.heap.size w wr) := ⟨z7_⟩; clear HO_15 HO_165000 HO_165001 BK160 BK161 BK162 BK164 HB hq_; have HO_15 := n0_; have HO_165000 := n1_; have HO_165001 := n2_; have BK160 := n3_; have BK161 := n4_; have BK162 := n5_; have BK164 := n6_; have HB := n7_; clear n0_ n1_ n2_ n3_ n4_ n5_ n6_ n7_))))
             have n0_ := Aside0.mk (Kd.R_drew HO_15.out)
             have n1_ := Aside0.mk (Kd.R_drew HO_165000.out)
             have n2_ := Aside0.mk (Kd.R_drew HO_165001.out)
             have n3_ := Aside0.mk (blk_drew BK160.out)
             have n4_ := Aside0.mk (blk_drew BK161.out)
             have n5_ := Aside0.mk (blk_drew BK162.out)
             have n6_ := Aside0.mk (blk_drew BK164.out)
             have n7_ := Aside0.mk (below_drew1 HB.out)
             clear HO_15; clear HO_165000; clear HO_165001; clear BK160; clear BK161; clear BK162; clear BK164; clear HB
             have HO_15 := n0_
             have HO_165000 := n1_
             have HO_165001 := n2_
             have BK160 := n3_
             have BK161 := n4_
             have BK162 := n5_
             have BK164 := n6_
             have HB := n7_
             clear n0_ n1_ n2_ n3_ n4_ n5_ n6_ n7_
             have p179 : 0 ≤ (x16_3 : Int) := of_decide_eq_true z55_
             have q179 : x16_3 < (t174.length : Int) := of_decide_eq_true z55_
             obtain ⟨ad179, e179, hx179_0⟩ := Kd.at_string (Kd.R_reads' HO_15.out).2.2 x16_3 p179 q179
             obtain rfl : ad177 = ad179 := (by injection e179)
             replace p179 := eq_true p179
             replace q179 := eq_true q179
             refine start_ (n := 11) (S := fun w' => w'.cell? ⟨gb164, 0, none⟩ = some (.slice Ao41 t169.length co41) ∧ w'.cell? ⟨gb164, 1, none⟩ = some (u165001) ∧ w'.cell? ⟨gb164, 2, none⟩ = some (.int .i64 5) ∧ w'.cell? (ad177.add (x16_3).toNat) = some (.string (rdOf ByteArray.empty t174 x16_3))) (ds := [8, 10]) #[false, false, false, false, false, false, false, false, false, false, false] (by kernel_rfl) rfl rfl ⟨(blk_cell BK164.out 0).trans rfl, (blk_cell BK164.out 1).trans rfl, (blk_cell BK164.out 2).trans rfl, hx179_0⟩ (fun hHeld => ?_); refine with_tabW pursuivantref14_Read.tab19 pursuivantref14_Read.bits19 (fun HT_ HW_ => ?_)
             generalize wr.drew = w73 at HO_15 HO_165000 HO_165001 BK160 BK161 BK162 BK164 HB hx179_0 hHeld ⊢
             refine pure_ (i := 0) (N := some 81) (v := ?_) (a' := ?_) #[true, false, false, false, false, false, false, false, false, false, false] rfl rfl (any_of HT_.out (by kernel_rfl)) (fun _ _ _ h => h) (Or.inl ⟨by rfl, ?_⟩) ?_ ?_
             rotate_left
             ·intro w'
              go_simp
              with_reducible rfl
             rotate_left
             ·simp only [Act.put, List.setIfInBounds_toArray, List.set_cons_zero, List.set_cons_succ, i64_w, i32_w]
              rfl
             refine pure_ (i := 2) (N := some 83) (v := ?_) (a' := ?_) #[true, false, true, false, false, false, false, false, false, false, false] rfl rfl (any_of HT_.out (by kernel_rfl)) (fun _ _ _ h => h) (Or.inl ⟨by rfl, ?_⟩) ?_ ?_
             rotate_left
             ·intro w'
              go_simp
              with_reducible rfl
             rotate_left
             ·simp only [Act.put, List.setIfInBounds_toArray, List.set_cons_zero, List.set_cons_succ, i64_w, i32_w]
              rfl
             refine pure_ (i := 3) (N := some 84) (v := ?_) (a' := ?_) #[true, false, true, true, false, false, false, false, false, false, false] rfl rfl (any_of HT_.out (by kernel_rfl)) (fun _ _ _ h => h) (Or.inl ⟨by rfl, ?_⟩) ?_ ?_
             rotate_left
             ·intro w'
              go_simp
              with_reducible rfl
             rotate_left
             ·simp only [Act.put, List.setIfInBounds_toArray, List.set_cons_zero, List.set_cons_succ, i64_w, i32_w]
              rfl
             refine pure_ (i := 4) (N := some 85) (v := ?_) (a' := ?_) #[true, false, true, true, true, false, false, false, false, false, false] rfl rfl (any_of HT_.out (by kernel_rfl)) (fun _ _ _ h => h) (Or.inl ⟨by rfl, ?_⟩) ?_ ?_
             rotate_left
             ·intro w'
              go_simp
              with_reducible rfl
             rotate_left
             ·simp only [Act.put, List.setIfInBounds_toArray, List.set_cons_zero, List.set_cons_succ, i64_w, i32_w]
              rfl
             refine take_ (i := 1) (N := some 82) (v := ?_) (a' := ?_) #[true, true, true, true, true, false, false, false, false, false, false] rfl rfl (take_ofW HT_.out HW_.out (by kernel_rfl)) (fun _ _ _ h => h) (Or.inl ⟨by rfl, ?_⟩) hHeld ?_ ?_
             rotate_left
             ·rintro w' ⟨s0, s1, s2, s3⟩
              go_simp
              with_reducible rfl
             rotate_left
             ·simp only [Act.put, List.setIfInBounds_toArray, List.set_cons_zero, List.set_cons_succ, i64_w, i32_w]
              rfl
             refine take_ (i := 5) (N := some 86) (v := ?_) (a' := ?_) #[true, true, true, true, true, true, false, false, false, false, false] rfl rfl (take_ofW HT_.out HW_.out (by kernel_rfl)) (fun _ _ _ h => h) (Or.inl ⟨by rfl, ?_⟩) hHeld ?_ ?_
             rotate_left
             ·rintro w' ⟨s0, s1, s2, s3⟩
              go_simp
              with_reducible rfl
             rotate_left
             ·simp only [Act.put, List.setIfInBounds_toArray, List.set_cons_zero, List.set_cons_succ, i64_w, i32_w]
              rfl
             refine one_ (i := 6) (N := some 87) #[true, true, true, true, true, true, true, false, false, false, false] rfl rfl (one_of HT_.out (by kernel_rfl)) (by decide) (fun K hK => ?_)
             refine goes_ Tryz.func34 (by kernel_rfl) rfl #[.string (rdOf ByteArray.empty t174 x16_3)] (by rfl) rfl rfl z24_ ?_
             with_reducible refine (pursuivantref04_Lower.calls k3 (rdOf ByteArray.empty t174 x16_3) t180 _ ?gw79_ A70.out).mono ?_
             case gw79_ => exact z0_
             rintro e w74 ⟨rfl, hb⟩
             have HS3_ := (hb.cell (World.block_lt_of_cell? _ _ (hHeld.2.2.2))).trans (hHeld.2.2.2)
             refine ⟨_, rfl, ?_⟩
             have n0_ := Aside0.mk (Kd.R_below z45_ hb)
             have n1_ := Aside0.mk (Kd.R_below z41_ hb)
             have n2_ := Aside0.mk (Kd.R_below z42_ hb)
             have n3_ := Aside0.mk (blk_below (g := gb160) (o := .cells #[.int .i64 a0_0, .slice A0_1 l0_1.length c0_1, .string a0_2] 30 (0, 0)) z33_ hb)
             have n4_ := Aside0.mk (blk_below (g := gb161) (o := .cells #[.slice none 0 0, .slice none 0 0, .int .i64 x162002_3] 36 (0, 0)) z34_ hb)
             have n5_ := Aside0.mk (blk_below (g := gb162) (o := .cells #[.slice none 0 0, .slice none 0 0, .int .i64 0] 36 (0, 0)) z35_ hb)
             have n6_ := Aside0.mk (blk_below (g := gb164) (o := .cells #[.slice Ao41 t169.length co41, u165001, .int .i64 5] 36 (0, 0)) z36_ hb)
             have n7_ := Aside0.mk (below_step z9_ hb)
             clear HO_15; clear HO_165000; clear HO_165001; clear BK160; clear BK161; clear BK162; clear BK164; clear HB
             have HO_15 := n0_
             have HO_165000 := n1_
             have HO_165001 := n2_
             have BK160 := n3_
             have BK161 := n4_
             have BK162 := n5_
             have BK164 := n6_
             have HB := n7_
             clear n0_ n1_ n2_ n3_ n4_ n5_ n6_ n7_
             (try clear hb)
             (try clear hb2)
             (try clear hk)
             (try clear hi)
             refine hK.out _ _ ⟨(blk_cell BK164.out 0).trans rfl, (blk_cell BK164.out 1).trans rfl, (blk_cell BK164.out 2).trans rfl, HS3_⟩ (fun hHeld => ?_)
             clear hK K
             refine norm_ (a' := ?_) ?_ ?_
             rotate_left
             ·show Act.put _ (some 87) _ = _
              simp only [Act.put, List.setIfInBounds_toArray, List.set_cons_zero, List.set_cons_succ, i64_w, i32_w]
              rfl
             refine one_ (i := 7) (N := some 88) #[true, true, true, true, true, true, true, true, false, false, false] rfl rfl (one_of HT_.out (by kernel_rfl)) (by decide) (fun K hK => ?_)
             refine value_ (w1 := ?_) (v := ?_) (by rfl) rfl ?_ ?_
             rotate_left 2
             ·go_simp
              constructor
              ·rfl
              ·rfl
             refine hK.out _ _ ⟨(blk_cell (blk_alloc BK164.out _) 0).trans rfl, (blk_cell (blk_alloc BK164.out _) 1).trans rfl, (blk_cell (blk_alloc BK164.out _) 2).trans rfl, (World.cell?_alloc_lt _ _ _ (World.block_lt_of_cell? _ _ (hHeld.2.2.2))).trans (hHeld.2.2.2)⟩ (fun hHeld => ?_)
             clear hK K
             refine norm_ (a' := ?_) ?_ ?_
             rotate_left
             ·show Act.put _ (some 88) _ = _
              simp only [Act.put, List.setIfInBounds_toArray, List.set_cons_zero, List.set_cons_succ, i64_w, i32_w]
              rfl
             refine last_ (i := 8) (N := some 89) #[true, true, true, true, true, true, true, true, true, false, false] rfl rfl (one_of HT_.out (by kernel_rfl)) (by decide) (fun K hK => ?_)
             refine Kd.R_append_step Kd.string (w0 := w) w.heap.size (by rfl) (.tmp 82) (.tmp 88) 31 9 (.string ⟨#[]⟩) 16 rfl Tryz.underlying31 info9 rfl (by decide) (by omega) u165001 x165001_3 t180 [.string t180] (fun k_ => some k_ ≠ (.slice (some ad177) t174.length co72 : Value).ownBlock ∧ some k_ ≠ (.slice Ao41 t169.length co41 : Value).ownBlock) (fun _ => False) rfl rfl ?aP (fun _ hk => hk.elim) ?aF ?aO ?aB ?aS ?aL ?_
             (case aP => exact rfl)
             (case aB => exact z9_)
             (case aF => exact (fun k_ hk => ⟨Kd.fresh' (Kd.R_lt z45_) k_ hk, Kd.fresh' (Kd.R_lt z41_) k_ hk⟩))
             (case aO => exact z42_)
             (case aS => exact (below_size z9_))
             (case aL => have := LMc71.out; omega)
             intro v182 w75 ho hb hg hat
             rw [← Ny181.out] at ho
             have n0_ := Aside0.mk (Kd.R_after (ok := (fun k_ => some k_ ≠ (.slice Ao41 t169.length co41 : Value).ownBlock)) z45_ hg hat)
             have n1_ := Aside0.mk (Kd.R_after (ok := (fun k_ => some k_ ≠ (.slice (some ad177) t174.length co72 : Value).ownBlock)) z41_ hg hat)
             have n2_ := Aside0.mk (blk_grown (g := gb160) (o := .cells #[.int .i64 a0_0, .slice A0_1 l0_1.length c0_1, .string a0_2] 30 (0, 0)) z33_ hg (Kd.R_ne HO_165001.out BK160.out (by decide)))
             have n3_ := Aside0.mk (blk_grown (g := gb161) (o := .cells #[.slice none 0 0, .slice none 0 0, .int .i64 x162002_3] 36 (0, 0)) z34_ hg (Kd.R_ne HO_165001.out BK161.out (by decide)))
             have n4_ := Aside0.mk (blk_grown (g := gb162) (o := .cells #[.slice none 0 0, .slice none 0 0, .int .i64 0] 36 (0, 0)) z35_ hg (Kd.R_ne HO_165001.out BK162.out (by decide)))
             have n5_ := Aside0.mk (blk_grown (g := gb164) (o := .cells #[.slice Ao41 t169.length co41, u165001, .int .i64 5] 36 (0, 0)) z36_ hg (Kd.R_ne HO_165001.out BK164.out (by decide)))
             have n6_ := Aside0.mk (hb)
             have n7_ := Aside0.mk (ho)
             clear HO_15; clear HO_165000; clear BK160; clear BK161; clear BK162; clear BK164; clear HB; clear HO_165001
             have HO_15 := n0_
             have HO_165000 := n1_
             have BK160 := n2_
             have BK161 := n3_
             have BK162 := n4_
             have BK164 := n5_
             have HB := n6_
             have HO183 := n7_
             clear n0_ n1_ n2_ n3_ n4_ n5_ n6_ n7_; clear ho hb hg hat
             obtain ⟨Ao76, co76, eo76⟩ := Kd.R_slice HO183.out
             (first | subst eo76 | (injection eo76 with f1_ f2_ f3_; have f4_ := f1_.symm; have f5_ := f3_.symm; clear f1_ f2_ f3_; subst f4_; subst f5_))
             refine hK.out _ _ ?_
             clear hK K
             refine norm_ (a' := ?_) ?_ ?_
             rotate_left
             ·show Act.put _ (some 89) _ = _
              simp only [Act.put, List.setIfInBounds_toArray, List.set_cons_zero, List.set_cons_succ, i64_w, i32_w]
              rfl
             refine pure_ (i := 9) (N := some 90) (v := ?_) (a' := ?_) #[true, true, true, true, true, true, true, true, true, true, false] rfl rfl (any_of HT_.out (by kernel_rfl)) (fun _ _ _ h => h) (Or.inl ⟨by rfl, ?_⟩) ?_ ?_
             rotate_left
             ·intro w'
              go_simp
              with_reducible rfl
             rotate_left
             ·simp only [Act.put, List.setIfInBounds_toArray, List.set_cons_zero, List.set_cons_succ, i64_w, i32_w]
              rfl
             refine last_ (i := 10) (N := none) #[true, true, true, true, true, true, true, true, true, true, true] rfl rfl (one_of HT_.out (by kernel_rfl)) (by decide) (fun K hK => ?_)
             have hs77 : w75.cell? ⟨gb164, 1, none⟩ = some (u165001) := (blk_cell BK164.out 1).trans rfl
             have hfs77 := blk_frozen BK164.out 1; have hns77_0 := NB160_164.out; have hns77_1 := NB161_164.out; have hns77_2 := NB162_164.out
             have hms77_0 := NB164_160.out
             have hms77_1 := NB164_161.out
             have hms77_2 := NB164_162.out
             refine skip_ (w1 := ?_) (by rfl) rfl ?_ ?_
             rotate_left
             ·go_simp
              rfl
             refine hK.out _ _ ?_
             clear hK K
             refine done_ (done_of HT_.out (by kernel_rfl)) ?_
             try go_wp2
             go_roundg k3
             case measure => have := HJ3.out; have := HK2.out; have := HK3.out; omega
             case rel => exact ⟨(wrap64 (x16_3 + 1)), (x162002_3), (y181), (.slice Ao76 y181.length co76), z51_, H', ⟨by have := HJ3.out; have := HK2.out; have := HK3.out; omega⟩, ⟨by (with_reducible repeat (first | apply Kd.R_alloc | apply Kd.R_drewN | apply Kd.R_drew)); exact Kd.R_mono (Kd.R_far (p := ⟨gb164, 1, none⟩) (Kd.R_types HO_15.out BK164.out (by decide)) (fun _ hk => hk.2) (.slice Ao76 y181.length co76)) (fun _ hk => ⟨hk.1.1, hk.1.2⟩)⟩, ⟨by (with_reducible repeat (first | apply Kd.R_alloc | apply Kd.R_drewN | apply Kd.R_drew)); exact Kd.R_mono (Kd.R_far (p := ⟨gb164, 1, none⟩) (Kd.R_types HO_165000.out BK164.out (by decide)) (fun _ hk => hk.2) (.slice Ao76 y181.length co76)) (fun _ hk => ⟨hk.1.1, hk.1.2⟩)⟩, ⟨by (with_reducible repeat (first | apply Kd.R_alloc | apply Kd.R_drewN | apply Kd.R_drew)); exact Kd.R_mono (Kd.R_far (p := ⟨gb164, 1, none⟩) (Kd.R_types HO183.out BK164.out (by decide)) (fun _ hk => hk.2) (.slice Ao76 y181.length co76)) (fun _ hk => ⟨hk.1.1, hk.1.2⟩)⟩, ⟨by (with_reducible repeat (first | refine blk_drewN ?_ _ | refine blk_drew ?_ | refine blk_alloc ?_ _)); refine blk_far ?_ NB160_164.out _; (with_reducible repeat (first | refine blk_drewN ?_ _ | refine blk_drew ?_ | refine blk_alloc ?_ _)); exact BK160.out⟩, ⟨by (with_reducible repeat (first | refine blk_drewN ?_ _ | refine blk_drew ?_ | refine blk_alloc ?_ _)); refine blk_far ?_ NB161_164.out _; (with_reducible repeat (first | refine blk_drewN ?_ _ | refine blk_drew ?_ | refine blk_alloc ?_ _)); exact BK161.out⟩, ⟨by (with_reducible repeat (first | refine blk_drewN ?_ _ | refine blk_drew ?_ | refine blk_alloc ?_ _)); refine blk_far ?_ NB162_164.out _; (with_reducible repeat (first | refine blk_drewN ?_ _ | refine blk_drew ?_ | refine blk_alloc ?_ _)); exact BK162.out⟩, ⟨by (with_reducible repeat (first | refine blk_drewN ?_ _ | refine blk_drew ?_ | refine blk_alloc ?_ _)); refine blk_put (cs := #[.slice Ao41 t169.length co41, u165001, .int .i64 5]) ?_ 1 _ rfl; (with_reducible repeat (first | refine blk_drewN ?_ _ | refine blk_drew ?_ | refine blk_alloc ?_ _)); exact BK164.out⟩, ⟨z9_⟩⟩
            ·rw [if_neg c71] at H
             exact absurd H (by simp)
           ·replace c69 := Bool.eq_false_iff.mpr c69
            subst c69
            have H1 : (some (([] : List ByteArray), ([] : List ByteArray), 0, false)) = some (r1, r2, r3, r4) := by rw [if_neg (show ¬ (false = true) by decide)] at H; exact H
            clear H
            have H := H1
            clear H1
            simp only [Option.some.injEq, Prod.mk.injEq] at H
            obtain ⟨rfl, rfl, rfl, rfl⟩ := H
            obtain ⟨Ao78, co78, eo78⟩ := Kd.R_slice HO_15.out
            subst eo78
            have p177 : 0 ≤ (x16_3 : Int) := of_decide_eq_true z55_
            have q177 : x16_3 < (t174.length : Int) := of_decide_eq_true z55_
            obtain ⟨ad177, e177, hx177_0⟩ := Kd.at_string (Kd.R_reads' HO_15.out).2.2 x16_3 p177 q177
            cases e177
            replace p177 := eq_true p177
            replace q177 := eq_true q177
            go_wp2_with (first | ((with_reducible refine gate_callee (f := 33) rfl ?_); refine goesL_ (some 78) rfl rfl Tryz.func33 (by kernel_rfl) rfl #[.string (rdOf ByteArray.empty t174 x16_3)] rfl z24_ ?_; (with_reducible refine (pursuivantref04_Token.calls k3 (rdOf ByteArray.empty t174 x16_3) false _ ?gw29_ A68.out).mono ?_); (case gw29_ => exact z0_); rintro e w' ⟨rfl, ⟨nd, rfl⟩⟩; refine ⟨_, rfl, ?_⟩; (try (rw [drewN_self wr]; generalize hq_ : World.drewN wr _ = wr; have n0_ : Aside0 (Kd.R Kd.string 9 wr w.heap.size (fun k_ => some k_ ≠ (.slice Ao41 t169.length co41 : Value).ownBlock ∧ some k_ ≠ (u165001 : Value).ownBlock) (.slice (some ad177) t174.length co78) t174) := ⟨z31_⟩; have n1_ : Aside0 (Kd.R Kd.string 9 wr w.heap.size (fun k_ => some k_ ≠ (.slice (some ad177) t174.length co78 : Value).ownBlock ∧ some k_ ≠ (u165001 : Value).ownBlock) (.slice Ao41 t169.length co41) t169) := ⟨z26_⟩; have n2_ : Aside0 (Kd.R Kd.string 9 wr w.heap.size (fun k_ => some k_ ≠ (.slice (some ad177) t174.length co78 : Value).ownBlock ∧ some k_ ≠ (.slice Ao41 t169.length co41 : Value).ownBlock) u165001 x165001_3) := ⟨z27_⟩; have n3_ : Aside0 (wr.heap[gb160]? = some (.cells #[.int .i64 a0_0, .slice A0_1 l0_1.length c0_1, .string a0_2] 30 (0, 0))) := ⟨z20_⟩; have n4_ : Aside0 (wr.heap[gb161]? = some (.cells #[.slice none 0 0, .slice none 0 0, .int .i64 x162002_3] 36 (0, 0))) := ⟨z21_⟩; have n5_ : Aside0 (wr.heap[gb162]? = some (.cells #[.slice none 0 0, .slice none 0 0, .int .i64 0] 36 (0, 0))) := ⟨z22_⟩; have n6_ : Aside0 (wr.heap[gb164]? = some (.cells #[.slice Ao41 t169.length co41, u165001, .int .i64 5] 36 (0, 0))) := ⟨z23_⟩; have n7_ : Aside0 (Below w.heap.size w wr) := ⟨z7_⟩; clear HO_15 HO_165000 HO_165001 BK160 BK161 BK162 BK164 HB hq_; have HO_15 := n0_; have HO_165000 := n1_; have HO_165001 := n2_; have BK160 := n3_; have BK161 := n4_; have BK162 := n5_; have BK164 := n6_; have HB := n7_; clear n0_ n1_ n2_ n3_ n4_ n5_ n6_ n7_)); have hnb79 := NB162_160.out; have hnc79 := NB160_162.out; have hnb80 := NB162_161.out; have hnc80 := NB161_162.out; have hnb81 := NB162_164.out; have hnc81 := NB164_162.out; have hcz82_0 : wr.cell? ⟨gb162, 0, none⟩ = some (.slice none 0 0) := (blk_cell BK162.out 0).trans rfl; have hcz82_1 : wr.cell? ⟨gb162, 1, none⟩ = some (.slice none 0 0) := (blk_cell BK162.out 1).trans rfl; have hcz82_2 : wr.cell? ⟨gb162, 2, none⟩ = some (.int .i64 0) := (blk_cell BK162.out 2).trans rfl; have hfz82_0 := blk_frozen BK162.out 0; have hfz82_1 := blk_frozen BK162.out 1; have hfz82_2 := blk_frozen BK162.out 2; have hnb83 := NB161_160.out; have hnc83 := NB160_161.out; have hnb84 := NB161_164.out; have hnc84 := NB164_161.out; have hcz85_0 : wr.cell? ⟨gb161, 0, none⟩ = some (.slice none 0 0) := (blk_cell BK161.out 0).trans rfl; have hcz85_1 : wr.cell? ⟨gb161, 1, none⟩ = some (.slice none 0 0) := (blk_cell BK161.out 1).trans rfl; have hcz85_2 : wr.cell? ⟨gb161, 2, none⟩ = some (.int .i64 x162002_3) := (blk_cell BK161.out 2).trans rfl; have hfz85_0 := blk_frozen BK161.out 0; have hfz85_1 := blk_frozen BK161.out 1; have hfz85_2 := blk_frozen BK161.out 2))
            refine bodyPost_ret (results_ct rfl _ _ gb161 36 #[.slice none 0 0, .slice none 0 0, .int .i64 0] (0, 0) _ rfl (by (with_reducible repeat (first | refine blk_drewN ?_ _ | refine blk_drew ?_ | refine blk_alloc ?_ _)); refine blk_put (cs := #[.slice none 0 0, .slice none 0 0, .int .i64 x162002_3]) ?_ 2 _ rfl; (with_reducible repeat (first | refine blk_drewN ?_ _ | refine blk_drew ?_ | refine blk_alloc ?_ _)); refine blk_put (cs := #[.slice none 0 0, .slice none 0 0, .int .i64 x162002_3]) ?_ 1 _ rfl; (with_reducible repeat (first | refine blk_drewN ?_ _ | refine blk_drew ?_ | refine blk_alloc ?_ _)); refine blk_put (cs := #[.slice none 0 0, .slice none 0 0, .int .i64 x162002_3]) ?_ 0 _ rfl; (with_reducible repeat (first | refine blk_drewN ?_ _ | refine blk_drew ?_ | refine blk_alloc ?_ _)); exact BK161.out) Tryz.underlying36 rfl (by kernel_rfl)) rfl ?_
            exact ⟨_, _, z28_, z19_, z19_, z9_⟩
          ·rw [if_neg c67] at H
           exact absurd H (by simp)
         ·rw [if_neg c66] at H
          have c66b0 : decide (x16_3 < (t174.length : Int)) = false := decide_eq_false c66; clear c66
          replace H := Option.bind_eq_some_iff.mp H
          obtain ⟨⟨t184, t185⟩, A860, H⟩ := H
          replace H : ((pursuivantref04_Number.f k3 t184 86400).bind fun bt186 => (if bt186.2 = true then (some (t169, x165001_3, bt186.1, true)) else (some (t169, x165001_3, 5, true)))) = some (r1, r2, r3, r4) := H
          have A86 := Aside0.mk A860; clear A860
          replace H := Option.bind_eq_some_iff.mp H
          obtain ⟨⟨t186, t187⟩, A870, H⟩ := H
          replace H : (if t187 = true then (some (t169, x165001_3, t186, true)) else (some (t169, x165001_3, 5, true))) = some (r1, r2, r3, r4) := H
          have A87 := Aside0.mk A870; clear A870
          by_cases c88 : t187 = true
          ·subst c88
           have H1 : (some (t169, x165001_3, t186, true)) = some (r1, r2, r3, r4) := by rw [if_pos rfl] at H; exact H
           clear H
           have H := H1
           clear H1
           simp only [Option.some.injEq, Prod.mk.injEq] at H
           obtain ⟨rfl, rfl, rfl, rfl⟩ := H
           obtain ⟨Ao89, co89, eo89⟩ := Kd.R_slice HO_15.out
           subst eo89
           have hnb90 := NB160_161.out; have hnc90 := NB161_160.out; have hnb91 := NB160_162.out; have hnc91 := NB162_160.out; have hnb92 := NB160_164.out; have hnc92 := NB164_160.out; obtain ⟨hcz93_0, hcz93_1, hcz93_2⟩ := blkc3_ BK160.out; obtain ⟨hfz93_0, hfz93_1, hfz93_2⟩ := blkf3_ BK160.out
           go_wp2_with (first | ((with_reducible refine gate_callee (f := 31) rfl ?_); refine goesL_ (some 94) rfl rfl Tryz.func31 (by kernel_rfl) rfl #[.slice A0_1 l0_1.length c0_1, .string (⟨#[97, 99, 99, 101, 115, 115, 45, 99, 111, 110, 116, 114, 111, 108, 45, 109, 97, 120, 45, 97, 103, 101]⟩ : ByteArray)] rfl z24_ ?_; (with_reducible refine (pursuivantref09_Get.calls k3 _ _ l0_1 (⟨#[97, 99, 99, 101, 115, 115, 45, 99, 111, 110, 116, 114, 111, 108, 45, 109, 97, 120, 45, 97, 103, 101]⟩ : ByteArray) t184 t185 _ ?gw30_ ?side1 ?side2 A86.out).mono ?_); (case gw30_ => exact z0_); (case side1 => repeat (first | exact (Kd.C_below HR0_1.out HB.out) | (with_reducible refine Kd.C_alloc ?_ _) | (with_reducible refine Kd.C_drewN ?_ _) | (with_reducible refine Kd.C_drew ?_))); (case side2 => exact HC0_1.out); rintro e w94 ⟨rfl, hb⟩; refine ⟨_, rfl, ?_⟩; have n0_ := Aside0.mk (Kd.R_below z45_ hb); have n1_ := Aside0.mk (Kd.R_below z41_ hb); have n2_ := Aside0.mk (Kd.R_below z42_ hb); have n3_ := Aside0.mk (blk_below (g := gb160) (o := .cells #[.int .i64 a0_0, .slice A0_1 l0_1.length c0_1, .string a0_2] 30 (0, 0)) z33_ hb); have n4_ := Aside0.mk (blk_below (g := gb161) (o := .cells #[.slice none 0 0, .slice none 0 0, .int .i64 x162002_3] 36 (0, 0)) z34_ hb); have n5_ := Aside0.mk (blk_below (g := gb162) (o := .cells #[.slice none 0 0, .slice none 0 0, .int .i64 0] 36 (0, 0)) z35_ hb); have n6_ := Aside0.mk (blk_below (g := gb164) (o := .cells #[.slice Ao41 t169.length co41, u165001, .int .i64 5] 36 (0, 0)) z36_ hb); have n7_ := Aside0.mk (below_step z9_ hb); clear HO_15; clear HO_165000; clear HO_165001; clear BK160; clear BK161; clear BK162; clear BK164; clear HB; have HO_15 := n0_; have HO_165000 := n1_; have HO_165001 := n2_; have BK160 := n3_; have BK161 := n4_; have BK162 := n5_; have BK164 := n6_; have HB := n7_; clear n0_ n1_ n2_ n3_ n4_ n5_ n6_ n7_; (try clear hb); (try clear hb2); (try clear hk); (try clear hi)) | ((with_reducible refine gate_callee (f := 35) rfl ?_); refine goesL_ (some 99) rfl rfl Tryz.func35 (by kernel_rfl) rfl #[.string t184, .int .i64 86400] rfl z24_ ?_; (with_reducible refine (pursuivantref04_Number.calls k3 t184 86400 t186 true _ ?gw31_ A87.out).mono ?_); (case gw31_ => exact z0_); rintro e w' ⟨rfl, ⟨nd, rfl⟩⟩; refine ⟨_, rfl, ?_⟩; (try (rw [drewN_self w94]; generalize hq_ : World.drewN w94 _ = w94; have n0_ : Aside0 (Kd.R Kd.string 9 w94 w.heap.size (fun k_ => some k_ ≠ (.slice Ao41 t169.length co41 : Value).ownBlock ∧ some k_ ≠ (u165001 : Value).ownBlock) (.slice Ao89 t174.length co89) t174) := ⟨z31_⟩; have n1_ : Aside0 (Kd.R Kd.string 9 w94 w.heap.size (fun k_ => some k_ ≠ (.slice Ao89 t174.length co89 : Value).ownBlock ∧ some k_ ≠ (u165001 : Value).ownBlock) (.slice Ao41 t169.length co41) t169) := ⟨z26_⟩; have n2_ : Aside0 (Kd.R Kd.string 9 w94 w.heap.size (fun k_ => some k_ ≠ (.slice Ao89 t174.length co89 : Value).ownBlock ∧ some k_ ≠ (.slice Ao41 t169.length co41 : Value).ownBlock) u165001 x165001_3) := ⟨z27_⟩; have n3_ : Aside0 (w94.heap[gb160]? = some (.cells #[.int .i64 a0_0, .slice A0_1 l0_1.length c0_1, .string a0_2] 30 (0, 0))) := ⟨z20_⟩; have n4_ : Aside0 (w94.heap[gb161]? = some (.cells #[.slice none 0 0, .slice none 0 0, .int .i64 x162002_3] 36 (0, 0))) := ⟨z21_⟩; have n5_ : Aside0 (w94.heap[gb162]? = some (.cells #[.slice none 0 0, .slice none 0 0, .int .i64 0] 36 (0, 0))) := ⟨z22_⟩; have n6_ : Aside0 (w94.heap[gb164]? = some (.cells #[.slice Ao41 t169.length co41, u165001, .int .i64 5] 36 (0, 0))) := ⟨z23_⟩; have n7_ : Aside0 (Below w.heap.size w w94) := ⟨z7_⟩; clear HO_15 HO_165000 HO_165001 BK160 BK161 BK162 BK164 HB hq_; have HO_15 := n0_; have HO_165000 := n1_; have HO_165001 := n2_; have BK160 := n3_; have BK161 := n4_; have BK162 := n5_; have BK164 := n6_; have HB := n7_; clear n0_ n1_ n2_ n3_ n4_ n5_ n6_ n7_)); have hnb95 := NB164_161.out; have hnc95 := NB161_164.out; have hnb96 := NB164_162.out; have hnc96 := NB162_164.out; have hcz97_0 : w94.cell? ⟨gb164, 0, none⟩ = some (.slice Ao41 t169.length co41) := (blk_cell BK164.out 0).trans rfl; have hcz97_1 : w94.cell? ⟨gb164, 1, none⟩ = some (u165001) := (blk_cell BK164.out 1).trans rfl; have hcz97_2 : w94.cell? ⟨gb164, 2, none⟩ = some (.int .i64 5) := (blk_cell BK164.out 2).trans rfl; have hfz97_0 := blk_frozen BK164.out 0; have hfz97_1 := blk_frozen BK164.out 1; have hfz97_2 := blk_frozen BK164.out 2; have hnb98 := NB161_162.out; have hnc98 := NB162_161.out; have hcz99_0 : w94.cell? ⟨gb161, 0, none⟩ = some (.slice none 0 0) := (blk_cell BK161.out 0).trans rfl; have hcz99_1 : w94.cell? ⟨gb161, 1, none⟩ = some (.slice none 0 0) := (blk_cell BK161.out 1).trans rfl; have hcz99_2 : w94.cell? ⟨gb161, 2, none⟩ = some (.int .i64 x162002_3) := (blk_cell BK161.out 2).trans rfl; have hfz99_0 := blk_frozen BK161.out 0; have hfz99_1 := blk_frozen BK161.out 1; have hfz99_2 := blk_frozen BK161.out 2; obtain ⟨Ao100, co100, eo100⟩ := Kd.R_slice HO_165001.out; subst eo100))
           refine bodyPost_ret (results_ct rfl _ _ gb161 36 #[.slice Ao41 t169.length co41, .slice Ao100 x165001_3.length co100, .int .i64 t186] (0, 0) _ rfl (by (with_reducible repeat (first | refine blk_drewN ?_ _ | refine blk_drew ?_ | refine blk_alloc ?_ _)); refine blk_put (cs := #[.slice Ao41 t169.length co41, .slice Ao100 x165001_3.length co100, .int .i64 x162002_3]) ?_ 2 _ rfl; (with_reducible repeat (first | refine blk_drewN ?_ _ | refine blk_drew ?_ | refine blk_alloc ?_ _)); refine blk_put (cs := #[.slice Ao41 t169.length co41, .slice none 0 0, .int .i64 x162002_3]) ?_ 1 _ rfl; (with_reducible repeat (first | refine blk_drewN ?_ _ | refine blk_drew ?_ | refine blk_alloc ?_ _)); refine blk_put (cs := #[.slice none 0 0, .slice none 0 0, .int .i64 x162002_3]) ?_ 0 _ rfl; (with_reducible repeat (first | refine blk_drewN ?_ _ | refine blk_drew ?_ | refine blk_alloc ?_ _)); refine blk_far ?_ NB161_164.out _; (with_reducible repeat (first | refine blk_drewN ?_ _ | refine blk_drew ?_ | refine blk_alloc ?_ _)); exact BK161.out) Tryz.underlying36 rfl (by kernel_rfl)) rfl ?_
           exact ⟨_, _, z28_, by (with_reducible repeat (first | apply Kd.R_alloc | apply Kd.R_drewN | apply Kd.R_drew)); exact Kd.R_mono (Kd.R_far (p := ⟨gb161, 2, none⟩) (Kd.R_far (p := ⟨gb161, 1, none⟩) (Kd.R_far (p := ⟨gb161, 0, none⟩) (Kd.R_far (p := ⟨gb164, 2, none⟩) (Kd.R_types (Kd.R_types HO_165000.out BK164.out (by decide)) BK161.out (by decide)) (fun _ hk => hk.1.2) (.int .i64 t186)) (fun _ hk => hk.2) (.slice Ao41 t169.length co41)) (fun _ hk => hk.2) (.slice Ao100 x165001_3.length co100)) (fun _ hk => hk.2) (.int .i64 t186)) (fun _ hk => hk.1.1.2), by (with_reducible repeat (first | apply Kd.R_alloc | apply Kd.R_drewN | apply Kd.R_drew)); exact Kd.R_mono (Kd.R_far (p := ⟨gb161, 2, none⟩) (Kd.R_far (p := ⟨gb161, 1, none⟩) (Kd.R_far (p := ⟨gb161, 0, none⟩) (Kd.R_far (p := ⟨gb164, 2, none⟩) (Kd.R_types (Kd.R_types HO_165001.out BK164.out (by decide)) BK161.out (by decide)) (fun _ hk => hk.1.2) (.int .i64 t186)) (fun _ hk => hk.2) (.slice Ao41 t169.length co41)) (fun _ hk => hk.2) (.slice Ao100 x165001_3.length co100)) (fun _ hk => hk.2) (.int .i64 t186)) (fun _ hk => hk.1.1.2), z9_⟩
          ·replace c88 := Bool.eq_false_iff.mpr c88
           subst c88
           have H1 : (some (t169, x165001_3, 5, true)) = some (r1, r2, r3, r4) := by rw [if_neg (show ¬ (false = true) by decide)] at H; exact H
           clear H
           have H := H1
           clear H1
           simp only [Option.some.injEq, Prod.mk.injEq] at H
           obtain ⟨rfl, rfl, rfl, rfl⟩ := H
           obtain ⟨Ao101, co101, eo101⟩ := Kd.R_slice HO_15.out
           subst eo101
           have hnb102 := NB160_161.out; have hnc102 := NB161_160.out; have hnb103 := NB160_162.out; have hnc103 := NB162_160.out; have hnb104 := NB160_164.out; have hnc104 := NB164_160.out; obtain ⟨hcz105_0, hcz105_1, hcz105_2⟩ := blkc3_ BK160.out; obtain ⟨hfz105_0, hfz105_1, hfz105_2⟩ := blkf3_ BK160.out
           go_wp2_with (first | ((with_reducible refine gate_callee (f := 31) rfl ?_); refine goesL_ (some 94) rfl rfl Tryz.func31 (by kernel_rfl) rfl #[.slice A0_1 l0_1.length c0_1, .string (⟨#[97, 99, 99, 101, 115, 115, 45, 99, 111, 110, 116, 114, 111, 108, 45, 109, 97, 120, 45, 97, 103, 101]⟩ : ByteArray)] rfl z24_ ?_; (with_reducible refine (pursuivantref09_Get.calls k3 _ _ l0_1 (⟨#[97, 99, 99, 101, 115, 115, 45, 99, 111, 110, 116, 114, 111, 108, 45, 109, 97, 120, 45, 97, 103, 101]⟩ : ByteArray) t184 t185 _ ?gw32_ ?side1 ?side2 A86.out).mono ?_); (case gw32_ => exact z0_); (case side1 => repeat (first | exact (Kd.C_below HR0_1.out HB.out) | (with_reducible refine Kd.C_alloc ?_ _) | (with_reducible refine Kd.C_drewN ?_ _) | (with_reducible refine Kd.C_drew ?_))); (case side2 => exact HC0_1.out); rintro e w106 ⟨rfl, hb⟩; refine ⟨_, rfl, ?_⟩; have n0_ := Aside0.mk (Kd.R_below z45_ hb); have n1_ := Aside0.mk (Kd.R_below z41_ hb); have n2_ := Aside0.mk (Kd.R_below z42_ hb); have n3_ := Aside0.mk (blk_below (g := gb160) (o := .cells #[.int .i64 a0_0, .slice A0_1 l0_1.length c0_1, .string a0_2] 30 (0, 0)) z33_ hb); have n4_ := Aside0.mk (blk_below (g := gb161) (o := .cells #[.slice none 0 0, .slice none 0 0, .int .i64 x162002_3] 36 (0, 0)) z34_ hb); have n5_ := Aside0.mk (blk_below (g := gb162) (o := .cells #[.slice none 0 0, .slice none 0 0, .int .i64 0] 36 (0, 0)) z35_ hb); have n6_ := Aside0.mk (blk_below (g := gb164) (o := .cells #[.slice Ao41 t169.length co41, u165001, .int .i64 5] 36 (0, 0)) z36_ hb); have n7_ := Aside0.mk (below_step z9_ hb); clear HO_15; clear HO_165000; clear HO_165001; clear BK160; clear BK161; clear BK162; clear BK164; clear HB; have HO_15 := n0_; have HO_165000 := n1_; have HO_165001 := n2_; have BK160 := n3_; have BK161 := n4_; have BK162 := n5_; have BK164 := n6_; have HB := n7_; clear n0_ n1_ n2_ n3_ n4_ n5_ n6_ n7_; (try clear hb); (try clear hb2); (try clear hk); (try clear hi)) | ((with_reducible refine gate_callee (f := 35) rfl ?_); refine goesL_ (some 99) rfl rfl Tryz.func35 (by kernel_rfl) rfl #[.string t184, .int .i64 86400] rfl z24_ ?_; (with_reducible refine (pursuivantref04_Number.calls k3 t184 86400 t186 false _ ?gw33_ A87.out).mono ?_); (case gw33_ => exact z0_); rintro e w' ⟨rfl, ⟨nd, rfl⟩⟩; refine ⟨_, rfl, ?_⟩; (try (rw [drewN_self w106]; generalize hq_ : World.drewN w106 _ = w106; have n0_ : Aside0 (Kd.R Kd.string 9 w106 w.heap.size (fun k_ => some k_ ≠ (.slice Ao41 t169.length co41 : Value).ownBlock ∧ some k_ ≠ (u165001 : Value).ownBlock) (.slice Ao101 t174.length co101) t174) := ⟨z31_⟩; have n1_ : Aside0 (Kd.R Kd.string 9 w106 w.heap.size (fun k_ => some k_ ≠ (.slice Ao101 t174.length co101 : Value).ownBlock ∧ some k_ ≠ (u165001 : Value).ownBlock) (.slice Ao41 t169.length co41) t169) := ⟨z26_⟩; have n2_ : Aside0 (Kd.R Kd.string 9 w106 w.heap.size (fun k_ => some k_ ≠ (.slice Ao101 t174.length co101 : Value).ownBlock ∧ some k_ ≠ (.slice Ao41 t169.length co41 : Value).ownBlock) u165001 x165001_3) := ⟨z27_⟩; have n3_ : Aside0 (w106.heap[gb160]? = some (.cells #[.int .i64 a0_0, .slice A0_1 l0_1.length c0_1, .string a0_2] 30 (0, 0))) := ⟨z20_⟩; have n4_ : Aside0 (w106.heap[gb161]? = some (.cells #[.slice none 0 0, .slice none 0 0, .int .i64 x162002_3] 36 (0, 0))) := ⟨z21_⟩; have n5_ : Aside0 (w106.heap[gb162]? = some (.cells #[.slice none 0 0, .slice none 0 0, .int .i64 0] 36 (0, 0))) := ⟨z22_⟩; have n6_ : Aside0 (w106.heap[gb164]? = some (.cells #[.slice Ao41 t169.length co41, u165001, .int .i64 5] 36 (0, 0))) := ⟨z23_⟩; have n7_ : Aside0 (Below w.heap.size w w106) := ⟨z7_⟩; clear HO_15 HO_165000 HO_165001 BK160 BK161 BK162 BK164 HB hq_; have HO_15 := n0_; have HO_165000 := n1_; have HO_165001 := n2_; have BK160 := n3_; have BK161 := n4_; have BK162 := n5_; have BK164 := n6_; have HB := n7_; clear n0_ n1_ n2_ n3_ n4_ n5_ n6_ n7_)); have hnb107 := NB164_161.out; have hnc107 := NB161_164.out; have hnb108 := NB164_162.out; have hnc108 := NB162_164.out; have hcz109_0 : w106.cell? ⟨gb164, 0, none⟩ = some (.slice Ao41 t169.length co41) := (blk_cell BK164.out 0).trans rfl; have hcz109_1 : w106.cell? ⟨gb164, 1, none⟩ = some (u165001) := (blk_cell BK164.out 1).trans rfl; have hcz109_2 : w106.cell? ⟨gb164, 2, none⟩ = some (.int .i64 5) := (blk_cell BK164.out 2).trans rfl; have hfz109_0 := blk_frozen BK164.out 0; have hfz109_1 := blk_frozen BK164.out 1; have hfz109_2 := blk_frozen BK164.out 2; have hnb110 := NB161_162.out; have hnc110 := NB162_161.out; have hcz111_0 : w106.cell? ⟨gb161, 0, none⟩ = some (.slice none 0 0) := (blk_cell BK161.out 0).trans rfl; have hcz111_1 : w106.cell? ⟨gb161, 1, none⟩ = some (.slice none 0 0) := (blk_cell BK161.out 1).trans rfl; have hcz111_2 : w106.cell? ⟨gb161, 2, none⟩ = some (.int .i64 x162002_3) := (blk_cell BK161.out 2).trans rfl; have hfz111_0 := blk_frozen BK161.out 0; have hfz111_1 := blk_frozen BK161.out 1; have hfz111_2 := blk_frozen BK161.out 2; obtain ⟨Ao112, co112, eo112⟩ := Kd.R_slice HO_165001.out; subst eo112))
           refine bodyPost_ret (results_ct rfl _ _ gb161 36 #[.slice Ao41 t169.length co41, .slice Ao112 x165001_3.length co112, .int .i64 5] (0, 0) _ rfl (by (with_reducible repeat (first | refine blk_drewN ?_ _ | refine blk_drew ?_ | refine blk_alloc ?_ _)); refine blk_put (cs := #[.slice Ao41 t169.length co41, .slice Ao112 x165001_3.length co112, .int .i64 x162002_3]) ?_ 2 _ rfl; (with_reducible repeat (first | refine blk_drewN ?_ _ | refine blk_drew ?_ | refine blk_alloc ?_ _)); refine blk_put (cs := #[.slice Ao41 t169.length co41, .slice none 0 0, .int .i64 x162002_3]) ?_ 1 _ rfl; (with_reducible repeat (first | refine blk_drewN ?_ _ | refine blk_drew ?_ | refine blk_alloc ?_ _)); refine blk_put (cs := #[.slice none 0 0, .slice none 0 0, .int .i64 x162002_3]) ?_ 0 _ rfl; (with_reducible repeat (first | refine blk_drewN ?_ _ | refine blk_drew ?_ | refine blk_alloc ?_ _)); exact BK161.out) Tryz.underlying36 rfl (by kernel_rfl)) rfl ?_
           exact ⟨_, _, z28_, by (with_reducible repeat (first | apply Kd.R_alloc | apply Kd.R_drewN | apply Kd.R_drew)); exact Kd.R_mono (Kd.R_far (p := ⟨gb161, 2, none⟩) (Kd.R_far (p := ⟨gb161, 1, none⟩) (Kd.R_far (p := ⟨gb161, 0, none⟩) (Kd.R_types HO_165000.out BK161.out (by decide)) (fun _ hk => hk.2) (.slice Ao41 t169.length co41)) (fun _ hk => hk.2) (.slice Ao112 x165001_3.length co112)) (fun _ hk => hk.2) (.int .i64 5)) (fun _ hk => hk.1.2), by (with_reducible repeat (first | apply Kd.R_alloc | apply Kd.R_drewN | apply Kd.R_drew)); exact Kd.R_mono (Kd.R_far (p := ⟨gb161, 2, none⟩) (Kd.R_far (p := ⟨gb161, 1, none⟩) (Kd.R_far (p := ⟨gb161, 0, none⟩) (Kd.R_types HO_165001.out BK161.out (by decide)) (fun _ hk => hk.2) (.slice Ao41 t169.length co41)) (fun _ hk => hk.2) (.slice Ao112 x165001_3.length co112)) (fun _ hk => hk.2) (.int .i64 5)) (fun _ hk => hk.1.2), z9_⟩

def pursuivantref14_among.l0 : Nat → ByteArray → List ByteArray → Int → Option (Bool)
 | 0, _, _, _ => none
 | k + 1, x0, x1, x5 => if x5 < (x1.length : Int) then (if 0 ≤ x5 then (if (rdOf ByteArray.empty x1 x5).toList = x0.toList then (some true) else (pursuivantref14_among.l0 k x0 x1 (wrap64 (x5 + 1)))) else (none)) else (some false)
def pursuivantref14_among.f (k : Nat) (a0 : ByteArray) (l1 : List ByteArray) : Option (Bool) := pursuivantref14_among.l0 k a0 l1 0
set_option maxHeartbeats 8000000 in
set_option maxRecDepth 100000 in
theorem pursuivantref14_among.calls (k : Nat) (a0 : ByteArray) (A1 : Option Addr) (c1 : Nat) (l1 : List ByteArray) (r : Bool) (w : World) (hG_ : GW w) (hr1 : Kd.C Kd.string w A1 l1.length l1) (hc1 : l1.length ≤ c1) (h : pursuivantref14_among.f k a0 l1 = some r) :
  Calls Tryz.prog 39 #[.string a0, .slice A1 l1.length c1] w fun e w' => e = .returned (.bool r) ∧ Drawn0 w w' := by
 have HR1 := Aside0.mk hr1; have HC1 := Aside0.mk hc1; clear hr1 hc1
 have H : (pursuivantref14_among.l0 k a0 l1 0) = some r := h
 clear h
 have H' := Aside0.mk H
 clear H
 go_enter Tryz.func39, Tryz.ntmps39
 go_wp2
 go_loopg [5] k (fun kq v5 w' => ∃ (x5_1 : Int), v5 = .int .i64 x5_1 ∧ Aside0 (pursuivantref14_among.l0 kq a0 l1 x5_1 = some r) ∧ Aside0 (kq ≤ k) ∧ Drawn0 w w')
 case atStart => exact ⟨(0), z51_, H', ⟨Nat.le_refl _⟩, z52_⟩
 case round =>
  clear H'; (try clear c1)
  obtain ⟨x5_1, rfl, HA, HK1, ⟨m1, rfl⟩⟩ := hrel
  cases gk with
  | zero => exact absurd HA.out (by simp [pursuivantref14_among.l0])
  | succ k1 =>
   have H := HA.out
   clear HA
   simp only [pursuivantref14_among.l0] at H
   by_cases c3 : x5_1 < (l1.length : Int)
   ·rw [if_pos c3] at H
    have c3b0 : decide (x5_1 < (l1.length : Int)) = true := decide_eq_true c3; clear c3
    by_cases c4 : 0 ≤ x5_1
    ·rw [if_pos c4] at H
     have c4b0 : decide (0 ≤ x5_1) = true := decide_eq_true c4; clear c4
     by_cases c5 : (rdOf ByteArray.empty l1 x5_1).toList = a0.toList
     ·rw [if_pos c5] at H
      have c5b0 : ((rdOf ByteArray.empty l1 x5_1).toList == a0.toList) = true := beq_iff_eq.mpr c5
      have c5b1 : ((rdOf ByteArray.empty l1 x5_1).toList != a0.toList) = false := bne_eq_false_iff_eq.mpr c5
      clear c5
      obtain rfl := Option.some.inj H
      have p188 : 0 ≤ (x5_1 : Int) := of_decide_eq_true z55_
      have q188 : x5_1 < (l1.length : Int) := of_decide_eq_true z55_
      obtain ⟨ad188, e188, hx188_0⟩ := Kd.at_string HR1.out x5_1 p188 q188
      cases e188
      replace p188 := eq_true p188
      replace q188 := eq_true q188
      go_wp2
      go_ret
      exact ⟨z51_, z52_⟩
     ·rw [if_neg c5] at H
      have c5b0 : ((rdOf ByteArray.empty l1 x5_1).toList == a0.toList) = false := beq_eq_false_iff_ne.mpr c5
      have c5b1 : ((rdOf ByteArray.empty l1 x5_1).toList != a0.toList) = true := bne_iff_ne.mpr c5
      have H' := Aside0.mk H
      clear H
      have p188 : 0 ≤ (x5_1 : Int) := of_decide_eq_true z55_
      have q188 : x5_1 < (l1.length : Int) := of_decide_eq_true z55_
      obtain ⟨ad188, e188, hx188_0⟩ := Kd.at_string HR1.out x5_1 p188 q188
      cases e188
      replace p188 := eq_true p188
      replace q188 := eq_true q188
      go_wp2
      go_roundg k1
      case measure => have := HK1.out; omega
      case rel => exact ⟨(wrap64 (x5_1 + 1)), z51_, H', ⟨z58_⟩, z52_⟩
    ·rw [if_neg c4] at H
     exact absurd H (by simp)
   ·rw [if_neg c3] at H
    have c3b0 : decide (x5_1 < (l1.length : Int)) = false := decide_eq_false c3; clear c3
    obtain rfl := Option.some.inj H
    go_wp2
    go_ret
    exact ⟨z51_, z52_⟩

mutual
def pursuivantref14_Answer_Lets.j0 : Nat → List ByteArray → Int → Bool → List ByteArray → List ByteArray → Int → Option (Bool)
 | 0, _, _, _, _, _, _ => none
 | k + 1, x2, x3, x29, x190000, x190001, x190002 => if x29 = true then (some false) else (pursuivantref14_Answer_Lets.l0 k x2 x3 0 x190000 x190001 x190002)
def pursuivantref14_Answer_Lets.l0 : Nat → List ByteArray → Int → Int → List ByteArray → List ByteArray → Int → Option (Bool)
 | 0, _, _, _, _, _, _ => none
 | k + 1, x2, x3, x9, x190000, x190001, x190002 => if x9 < (x2.length : Int) then (if 0 ≤ x9 then ((pursuivantref14_among.f k (rdOf ByteArray.empty x2 x9) x190001).bind fun t194 => (if t194 = true then (pursuivantref14_Answer_Lets.l0 k x2 x3 (wrap64 (x9 + 1)) x190000 x190001 x190002) else (if x3 = 3 then (some false) else (if (rdOf ByteArray.empty x2 x9).toList = ([97, 117, 116, 104, 111, 114, 105, 122, 97, 116, 105, 111, 110] : List UInt8) then (some false) else ((pursuivantref14_among.f k (⟨#[42]⟩ : ByteArray) x190001).bind fun t196 => (if t196 = true then (pursuivantref14_Answer_Lets.l0 k x2 x3 (wrap64 (x9 + 1)) x190000 x190001 x190002) else (some false))))))) else (none)) else (some true)
end
def pursuivantref14_Answer_Lets.f (k : Nat) (l0_0 : List ByteArray) (l0_1 : List ByteArray) (a0_2 : Int) (a1 : ByteArray) (l2 : List ByteArray) (a3 : Int) : Option (Bool) := (pursuivantref10_Simple.f k a1).bind fun t190 => (if t190 = true then (pursuivantref14_Answer_Lets.j0 k l2 a3 false l0_0 l0_1 a0_2) else ((pursuivantref14_among.f k a1 l0_0).bind fun t191 => (if t191 = true then (pursuivantref14_Answer_Lets.j0 k l2 a3 false l0_0 l0_1 a0_2) else (if a3 = 3 then (pursuivantref14_Answer_Lets.j0 k l2 a3 true l0_0 l0_1 a0_2) else ((pursuivantref14_among.f k (⟨#[42]⟩ : ByteArray) l0_0).bind fun t192 => (pursuivantref14_Answer_Lets.j0 k l2 a3 (!t192) l0_0 l0_1 a0_2))))))
set_option maxHeartbeats 8000000 in
set_option maxRecDepth 100000 in
theorem pursuivantref14_Answer_Lets.calls (k : Nat) (A0_0 : Option Addr) (c0_0 : Nat) (l0_0 : List ByteArray) (A0_1 : Option Addr) (c0_1 : Nat) (l0_1 : List ByteArray) (a0_2 : Int) (a1 : ByteArray) (A2 : Option Addr) (c2 : Nat) (l2 : List ByteArray) (a3 : Int) (r : Bool) (w : World) (hG_ : GW w) (hr0_0 : Kd.C Kd.string w A0_0 l0_0.length l0_0) (hc0_0 : l0_0.length ≤ c0_0) (hr0_1 : Kd.C Kd.string w A0_1 l0_1.length l0_1) (hc0_1 : l0_1.length ≤ c0_1) (hr2 : Kd.C Kd.string w A2 l2.length l2) (hc2 : l2.length ≤ c2) (h : pursuivantref14_Answer_Lets.f k l0_0 l0_1 a0_2 a1 l2 a3 = some r) :
  Calls Tryz.prog 17 #[.agg #[.slice A0_0 l0_0.length c0_0, .slice A0_1 l0_1.length c0_1, .int .i64 a0_2], .string a1, .slice A2 l2.length c2, .int .i64 a3] w fun e w' => e = .returned (.bool r) ∧ Below w.heap.size w w' := by
 have hu36 := Tryz.underlying36
 have HR0_0 := Aside0.mk hr0_0; have HC0_0 := Aside0.mk hc0_0; clear hr0_0 hc0_0; have HR0_1 := Aside0.mk hr0_1; have HC0_1 := Aside0.mk hc0_1; clear hr0_1 hc0_1; have HR2 := Aside0.mk hr2; have HC2 := Aside0.mk hc2; clear hr2 hc2
 have HB := Aside0.mk (Below.refl w.heap.size w)
 have H : ((pursuivantref10_Simple.f k a1).bind fun t190 => (if t190 = true then (pursuivantref14_Answer_Lets.j0 k l2 a3 false l0_0 l0_1 a0_2) else ((pursuivantref14_among.f k a1 l0_0).bind fun t191 => (if t191 = true then (pursuivantref14_Answer_Lets.j0 k l2 a3 false l0_0 l0_1 a0_2) else (if a3 = 3 then (pursuivantref14_Answer_Lets.j0 k l2 a3 true l0_0 l0_1 a0_2) else ((pursuivantref14_among.f k (⟨#[42]⟩ : ByteArray) l0_0).bind fun t192 => (pursuivantref14_Answer_Lets.j0 k l2 a3 (!t192) l0_0 l0_1 a0_2))))))) = some r := h
 clear h; have HC5 := Aside0.mk H; clear H
 go_enter Tryz.func17, Tryz.ntmps17
 go_upto_region 1 with (first | ((with_reducible refine gate_dst (N := 4) rfl ?_); refine box_event ?hg (N := 4) ?hd (cs := #[.slice A0_0 l0_0.length c0_0, .slice A0_1 l0_1.length c0_1, .int .i64 a0_2]) (t := 36) ?hr ?_; (case hd => rfl); (case hg => rfl); (case hr => first | (go_simp; done) | (go_simp; rfl)); intro gb189 hg w6 hbox hb; have n0_ := Aside0.mk (below_step z25_ hb); have n1_ := Aside0.mk (hbox); have n2_ := Aside0.mk ((by rw [hg]; exact (below_size z25_) : w.heap.size ≤ gb189)); have n3_ := Aside0.mk ((by rw [hg]; exact (below_size z25_) : w.heap.size ≤ gb189)); clear HB; have HB := n0_; have BK189 := n1_; have GW189 := n2_; have GE189 := n3_; clear n0_ n1_ n2_ n3_; clear hb hbox hg))
 repeat (go_quiet (first | ((with_reducible refine gate_dst (N := 4) rfl ?_); refine box_event ?hg (N := 4) ?hd (cs := #[.slice A0_0 l0_0.length c0_0, .slice A0_1 l0_1.length c0_1, .int .i64 a0_2]) (t := 36) ?hr ?_; (case hd => rfl); (case hg => rfl); (case hr => first | (go_simp; done) | (go_simp; rfl)); intro gb189 hg w6 hbox hb; have n0_ := Aside0.mk (below_step z25_ hb); have n1_ := Aside0.mk (hbox); have n2_ := Aside0.mk ((by rw [hg]; exact (below_size z25_) : w.heap.size ≤ gb189)); have n3_ := Aside0.mk ((by rw [hg]; exact (below_size z25_) : w.heap.size ≤ gb189)); clear HB; have HB := n0_; have BK189 := n1_; have GW189 := n2_; have GE189 := n3_; clear n0_ n1_ n2_ n3_; clear hb hbox hg)); go_upto_region 1 with (first | ((with_reducible refine gate_dst (N := 4) rfl ?_); refine box_event ?hg (N := 4) ?hd (cs := #[.slice A0_0 l0_0.length c0_0, .slice A0_1 l0_1.length c0_1, .int .i64 a0_2]) (t := 36) ?hr ?_; (case hd => rfl); (case hg => rfl); (case hr => first | (go_simp; done) | (go_simp; rfl)); intro gb189 hg w6 hbox hb; have n0_ := Aside0.mk (below_step z25_ hb); have n1_ := Aside0.mk (hbox); have n2_ := Aside0.mk ((by rw [hg]; exact (below_size z25_) : w.heap.size ≤ gb189)); have n3_ := Aside0.mk ((by rw [hg]; exact (below_size z25_) : w.heap.size ≤ gb189)); clear HB; have HB := n0_; have BK189 := n1_; have GW189 := n2_; have GE189 := n3_; clear n0_ n1_ n2_ n3_; clear hb hbox hg)))
 (try simp only [Act.put, List.setIfInBounds_toArray, List.set_cons_zero, List.set_cons_succ])
 go_cut [29] (fun v29 wc => ∃ (kq : Nat) (x29_4 : Bool), v29 = .bool x29_4 ∧ Aside0 (pursuivantref14_Answer_Lets.j0 kq l2 a3 x29_4 l0_0 l0_1 a0_2 = some r) ∧ Aside0 (kq ≤ k) ∧ Aside0 (wc.heap[gb189]? = some (.cells #[(.slice A0_0 l0_0.length c0_0), (.slice A0_1 l0_1.length c0_1), .int .i64 a0_2] 36 (0, 0))) ∧ Aside0 (Below w.heap.size w wc))
 case first =>
  have H := HC5.out
  clear HC5
  replace H := Option.bind_eq_some_iff.mp H
  obtain ⟨t190, A70, H⟩ := H
  replace H : (if t190 = true then (pursuivantref14_Answer_Lets.j0 k l2 a3 false l0_0 l0_1 a0_2) else ((pursuivantref14_among.f k a1 l0_0).bind fun t191 => (if t191 = true then (pursuivantref14_Answer_Lets.j0 k l2 a3 false l0_0 l0_1 a0_2) else (if a3 = 3 then (pursuivantref14_Answer_Lets.j0 k l2 a3 true l0_0 l0_1 a0_2) else ((pursuivantref14_among.f k (⟨#[42]⟩ : ByteArray) l0_0).bind fun t192 => (pursuivantref14_Answer_Lets.j0 k l2 a3 (!t192) l0_0 l0_1 a0_2)))))) = some r := H
  have A7 := Aside0.mk A70; clear A70
  by_cases c8 : t190 = true
  ·subst c8
   have H1 : (pursuivantref14_Answer_Lets.j0 k l2 a3 false l0_0 l0_1 a0_2) = some r := by rw [if_pos rfl] at H; exact H
   clear H
   have H := H1
   clear H1
   have H' := Aside0.mk H
   clear H
   go_wp2_with (first | (go_at_call 22; (fail_if_success (have z_ := U_3)); have U_3 := trivial; (with_reducible refine (pursuivantref10_Simple.calls k a1 true _ ?gw34_ A7.out).mono ?_); (case gw34_ => exact z3_); rintro e w9 ⟨rfl, hb⟩; have n0_ := Aside0.mk (blk_below (g := gb189) (o := .cells #[.slice A0_0 l0_0.length c0_0, .slice A0_1 l0_1.length c0_1, .int .i64 a0_2] 36 (0, 0)) z37_ hb); have n1_ := Aside0.mk (below_step z17_ hb); clear BK189; clear HB; have BK189 := n0_; have HB := n1_; clear n0_ n1_; (try clear hb); (try clear hb2); (try clear hk); (try clear hi)))
   repeat (go_quiet (first | (go_at_call 22; (fail_if_success (have z_ := U_4)); have U_4 := trivial; (with_reducible refine (pursuivantref10_Simple.calls k a1 true _ ?gw35_ A7.out).mono ?_); (case gw35_ => exact z3_); rintro e w9 ⟨rfl, hb⟩; have n0_ := Aside0.mk (blk_below (g := gb189) (o := .cells #[.slice A0_0 l0_0.length c0_0, .slice A0_1 l0_1.length c0_1, .int .i64 a0_2] 36 (0, 0)) z37_ hb); have n1_ := Aside0.mk (below_step z17_ hb); clear BK189; clear HB; have BK189 := n0_; have HB := n1_; clear n0_ n1_; (try clear hb); (try clear hb2); (try clear hk); (try clear hi))); try go_wp2_with (first | (go_at_call 22; (fail_if_success (have z_ := U_5)); have U_5 := trivial; (with_reducible refine (pursuivantref10_Simple.calls k a1 true _ ?gw36_ A7.out).mono ?_); (case gw36_ => exact z3_); rintro e w9 ⟨rfl, hb⟩; have n0_ := Aside0.mk (blk_below (g := gb189) (o := .cells #[.slice A0_0 l0_0.length c0_0, .slice A0_1 l0_1.length c0_1, .int .i64 a0_2] 36 (0, 0)) z37_ hb); have n1_ := Aside0.mk (below_step z17_ hb); clear BK189; clear HB; have BK189 := n0_; have HB := n1_; clear n0_ n1_; (try clear hb); (try clear hb2); (try clear hk); (try clear hi))))
   go_meet
   case rel => exact ⟨_, (false), z51_, H', ⟨z57_⟩, ⟨z37_⟩, ⟨z17_⟩⟩
  ·replace c8 := Bool.eq_false_iff.mpr c8
   subst c8
   have H1 : ((pursuivantref14_among.f k a1 l0_0).bind fun t191 => (if t191 = true then (pursuivantref14_Answer_Lets.j0 k l2 a3 false l0_0 l0_1 a0_2) else (if a3 = 3 then (pursuivantref14_Answer_Lets.j0 k l2 a3 true l0_0 l0_1 a0_2) else ((pursuivantref14_among.f k (⟨#[42]⟩ : ByteArray) l0_0).bind fun t192 => (pursuivantref14_Answer_Lets.j0 k l2 a3 (!t192) l0_0 l0_1 a0_2))))) = some r := by rw [if_neg (show ¬ (false = true) by decide)] at H; exact H
   clear H
   have H := H1
   clear H1
   replace H := Option.bind_eq_some_iff.mp H
   obtain ⟨t191, A100, H⟩ := H
   replace H : (if t191 = true then (pursuivantref14_Answer_Lets.j0 k l2 a3 false l0_0 l0_1 a0_2) else (if a3 = 3 then (pursuivantref14_Answer_Lets.j0 k l2 a3 true l0_0 l0_1 a0_2) else ((pursuivantref14_among.f k (⟨#[42]⟩ : ByteArray) l0_0).bind fun t192 => (pursuivantref14_Answer_Lets.j0 k l2 a3 (!t192) l0_0 l0_1 a0_2)))) = some r := H
   have A10 := Aside0.mk A100; clear A100
   by_cases c11 : t191 = true
   ·subst c11
    have H1 : (pursuivantref14_Answer_Lets.j0 k l2 a3 false l0_0 l0_1 a0_2) = some r := by rw [if_pos rfl] at H; exact H
    clear H
    have H := H1
    clear H1
    have H' := Aside0.mk H
    clear H
    go_wp2_with (first | (go_at_call 22; (fail_if_success (have z_ := U_6)); have U_6 := trivial; (with_reducible refine (pursuivantref10_Simple.calls k a1 false _ ?gw37_ A7.out).mono ?_); (case gw37_ => exact z3_); rintro e w12 ⟨rfl, hb⟩; have n0_ := Aside0.mk (blk_below (g := gb189) (o := .cells #[.slice A0_0 l0_0.length c0_0, .slice A0_1 l0_1.length c0_1, .int .i64 a0_2] 36 (0, 0)) z37_ hb); have n1_ := Aside0.mk (below_step z17_ hb); clear BK189; clear HB; have BK189 := n0_; have HB := n1_; clear n0_ n1_; (try clear hb); (try clear hb2); (try clear hk); (try clear hi); have hcz13_0 : w12.cell? ⟨gb189, 0, none⟩ = some (.slice A0_0 l0_0.length c0_0) := (blk_cell BK189.out 0).trans rfl; have hcz13_1 : w12.cell? ⟨gb189, 1, none⟩ = some (.slice A0_1 l0_1.length c0_1) := (blk_cell BK189.out 1).trans rfl; have hcz13_2 : w12.cell? ⟨gb189, 2, none⟩ = some (.int .i64 a0_2) := (blk_cell BK189.out 2).trans rfl; have hfz13_0 := blk_frozen BK189.out 0; have hfz13_1 := blk_frozen BK189.out 1; have hfz13_2 := blk_frozen BK189.out 2) | (go_at_call 39; (fail_if_success (have z_ := U_7)); have U_7 := trivial; (with_reducible refine (pursuivantref14_among.calls k a1 _ _ l0_0 true _ ?gw38_ ?side1 ?side2 A10.out).mono ?_); (case gw38_ => exact z3_); (case side1 => repeat (first | exact (Kd.C_below HR0_0.out HB.out) | (with_reducible refine Kd.C_alloc ?_ _) | (with_reducible refine Kd.C_drewN ?_ _) | (with_reducible refine Kd.C_drew ?_))); (case side2 => exact HC0_0.out); rintro e w' ⟨rfl, ⟨nd, rfl⟩⟩; (try first | exact ⟨rfl, _, World.drewN_drewN _ _ _⟩ | exact ⟨rfl, _, Eq.trans (World.drewN_drewN _ _ _) (congrArg (World.drewN _) (Nat.add_assoc _ _ _))⟩)))
    repeat (go_quiet (first | (go_at_call 22; (fail_if_success (have z_ := U_8)); have U_8 := trivial; (with_reducible refine (pursuivantref10_Simple.calls k a1 false _ ?gw39_ A7.out).mono ?_); (case gw39_ => exact z3_); rintro e w12 ⟨rfl, hb⟩; have n0_ := Aside0.mk (blk_below (g := gb189) (o := .cells #[.slice A0_0 l0_0.length c0_0, .slice A0_1 l0_1.length c0_1, .int .i64 a0_2] 36 (0, 0)) z37_ hb); have n1_ := Aside0.mk (below_step z17_ hb); clear BK189; clear HB; have BK189 := n0_; have HB := n1_; clear n0_ n1_; (try clear hb); (try clear hb2); (try clear hk); (try clear hi); have hcz13_0 : w12.cell? ⟨gb189, 0, none⟩ = some (.slice A0_0 l0_0.length c0_0) := (blk_cell BK189.out 0).trans rfl; have hcz13_1 : w12.cell? ⟨gb189, 1, none⟩ = some (.slice A0_1 l0_1.length c0_1) := (blk_cell BK189.out 1).trans rfl; have hcz13_2 : w12.cell? ⟨gb189, 2, none⟩ = some (.int .i64 a0_2) := (blk_cell BK189.out 2).trans rfl; have hfz13_0 := blk_frozen BK189.out 0; have hfz13_1 := blk_frozen BK189.out 1; have hfz13_2 := blk_frozen BK189.out 2) | (go_at_call 39; (fail_if_success (have z_ := U_9)); have U_9 := trivial; (with_reducible refine (pursuivantref14_among.calls k a1 _ _ l0_0 true _ ?gw40_ ?side1 ?side2 A10.out).mono ?_); (case gw40_ => exact z3_); (case side1 => repeat (first | exact (Kd.C_below HR0_0.out HB.out) | (with_reducible refine Kd.C_alloc ?_ _) | (with_reducible refine Kd.C_drewN ?_ _) | (with_reducible refine Kd.C_drew ?_))); (case side2 => exact HC0_0.out); rintro e w' ⟨rfl, ⟨nd, rfl⟩⟩; (try first | exact ⟨rfl, _, World.drewN_drewN _ _ _⟩ | exact ⟨rfl, _, Eq.trans (World.drewN_drewN _ _ _) (congrArg (World.drewN _) (Nat.add_assoc _ _ _))⟩))); try go_wp2_with (first | (go_at_call 22; (fail_if_success (have z_ := U_10)); have U_10 := trivial; (with_reducible refine (pursuivantref10_Simple.calls k a1 false _ ?gw41_ A7.out).mono ?_); (case gw41_ => exact z3_); rintro e w12 ⟨rfl, hb⟩; have n0_ := Aside0.mk (blk_below (g := gb189) (o := .cells #[.slice A0_0 l0_0.length c0_0, .slice A0_1 l0_1.length c0_1, .int .i64 a0_2] 36 (0, 0)) z37_ hb); have n1_ := Aside0.mk (below_step z17_ hb); clear BK189; clear HB; have BK189 := n0_; have HB := n1_; clear n0_ n1_; (try clear hb); (try clear hb2); (try clear hk); (try clear hi); have hcz13_0 : w12.cell? ⟨gb189, 0, none⟩ = some (.slice A0_0 l0_0.length c0_0) := (blk_cell BK189.out 0).trans rfl; have hcz13_1 : w12.cell? ⟨gb189, 1, none⟩ = some (.slice A0_1 l0_1.length c0_1) := (blk_cell BK189.out 1).trans rfl; have hcz13_2 : w12.cell? ⟨gb189, 2, none⟩ = some (.int .i64 a0_2) := (blk_cell BK189.out 2).trans rfl; have hfz13_0 := blk_frozen BK189.out 0; have hfz13_1 := blk_frozen BK189.out 1; have hfz13_2 := blk_frozen BK189.out 2) | (go_at_call 39; (fail_if_success (have z_ := U_11)); have U_11 := trivial; (with_reducible refine (pursuivantref14_among.calls k a1 _ _ l0_0 true _ ?gw42_ ?side1 ?side2 A10.out).mono ?_); (case gw42_ => exact z3_); (case side1 => repeat (first | exact (Kd.C_below HR0_0.out HB.out) | (with_reducible refine Kd.C_alloc ?_ _) | (with_reducible refine Kd.C_drewN ?_ _) | (with_reducible refine Kd.C_drew ?_))); (case side2 => exact HC0_0.out); rintro e w' ⟨rfl, ⟨nd, rfl⟩⟩; (try first | exact ⟨rfl, _, World.drewN_drewN _ _ _⟩ | exact ⟨rfl, _, Eq.trans (World.drewN_drewN _ _ _) (congrArg (World.drewN _) (Nat.add_assoc _ _ _))⟩))))
    go_meet
    case rel => exact ⟨_, (false), z51_, H', ⟨z57_⟩, ⟨z37_⟩, ⟨z17_⟩⟩
   ·replace c11 := Bool.eq_false_iff.mpr c11
    subst c11
    have H1 : (if a3 = 3 then (pursuivantref14_Answer_Lets.j0 k l2 a3 true l0_0 l0_1 a0_2) else ((pursuivantref14_among.f k (⟨#[42]⟩ : ByteArray) l0_0).bind fun t192 => (pursuivantref14_Answer_Lets.j0 k l2 a3 (!t192) l0_0 l0_1 a0_2))) = some r := by rw [if_neg (show ¬ (false = true) by decide)] at H; exact H
    clear H
    have H := H1
    clear H1
    by_cases c14 : a3 = 3
    ·rw [if_pos c14] at H
     have c14b0 : (a3 == 3) = true := beq_iff_eq.mpr c14
     have c14b1 : (a3 != 3) = false := bne_eq_false_iff_eq.mpr c14
     clear c14
     (first | rw [c14b0] | (simp only [i64_w, i32_w]; rw [c14b0]) | skip)
     have H' := Aside0.mk H
     clear H
     go_wp2_with (first | (go_at_call 22; (fail_if_success (have z_ := U_12)); have U_12 := trivial; (with_reducible refine (pursuivantref10_Simple.calls k a1 false _ ?gw43_ A7.out).mono ?_); (case gw43_ => exact z3_); rintro e w15 ⟨rfl, hb⟩; have n0_ := Aside0.mk (blk_below (g := gb189) (o := .cells #[.slice A0_0 l0_0.length c0_0, .slice A0_1 l0_1.length c0_1, .int .i64 a0_2] 36 (0, 0)) z37_ hb); have n1_ := Aside0.mk (below_step z17_ hb); clear BK189; clear HB; have BK189 := n0_; have HB := n1_; clear n0_ n1_; (try clear hb); (try clear hb2); (try clear hk); (try clear hi); have hcz16_0 : w15.cell? ⟨gb189, 0, none⟩ = some (.slice A0_0 l0_0.length c0_0) := (blk_cell BK189.out 0).trans rfl; have hcz16_1 : w15.cell? ⟨gb189, 1, none⟩ = some (.slice A0_1 l0_1.length c0_1) := (blk_cell BK189.out 1).trans rfl; have hcz16_2 : w15.cell? ⟨gb189, 2, none⟩ = some (.int .i64 a0_2) := (blk_cell BK189.out 2).trans rfl; have hfz16_0 := blk_frozen BK189.out 0; have hfz16_1 := blk_frozen BK189.out 1; have hfz16_2 := blk_frozen BK189.out 2) | (go_at_call 39; (fail_if_success (have z_ := U_13)); have U_13 := trivial; (with_reducible refine (pursuivantref14_among.calls k a1 _ _ l0_0 false _ ?gw44_ ?side1 ?side2 A10.out).mono ?_); (case gw44_ => exact z3_); (case side1 => repeat (first | exact (Kd.C_below HR0_0.out HB.out) | (with_reducible refine Kd.C_alloc ?_ _) | (with_reducible refine Kd.C_drewN ?_ _) | (with_reducible refine Kd.C_drew ?_))); (case side2 => exact HC0_0.out); rintro e w' ⟨rfl, ⟨nd, rfl⟩⟩; (try first | exact ⟨rfl, _, World.drewN_drewN _ _ _⟩ | exact ⟨rfl, _, Eq.trans (World.drewN_drewN _ _ _) (congrArg (World.drewN _) (Nat.add_assoc _ _ _))⟩)))
     repeat (go_quiet (first | (go_at_call 22; (fail_if_success (have z_ := U_14)); have U_14 := trivial; (with_reducible refine (pursuivantref10_Simple.calls k a1 false _ ?gw45_ A7.out).mono ?_); (case gw45_ => exact z3_); rintro e w15 ⟨rfl, hb⟩; have n0_ := Aside0.mk (blk_below (g := gb189) (o := .cells #[.slice A0_0 l0_0.length c0_0, .slice A0_1 l0_1.length c0_1, .int .i64 a0_2] 36 (0, 0)) z37_ hb); have n1_ := Aside0.mk (below_step z17_ hb); clear BK189; clear HB; have BK189 := n0_; have HB := n1_; clear n0_ n1_; (try clear hb); (try clear hb2); (try clear hk); (try clear hi); have hcz16_0 : w15.cell? ⟨gb189, 0, none⟩ = some (.slice A0_0 l0_0.length c0_0) := (blk_cell BK189.out 0).trans rfl; have hcz16_1 : w15.cell? ⟨gb189, 1, none⟩ = some (.slice A0_1 l0_1.length c0_1) := (blk_cell BK189.out 1).trans rfl; have hcz16_2 : w15.cell? ⟨gb189, 2, none⟩ = some (.int .i64 a0_2) := (blk_cell BK189.out 2).trans rfl; have hfz16_0 := blk_frozen BK189.out 0; have hfz16_1 := blk_frozen BK189.out 1; have hfz16_2 := blk_frozen BK189.out 2) | (go_at_call 39; (fail_if_success (have z_ := U_15)); have U_15 := trivial; (with_reducible refine (pursuivantref14_among.calls k a1 _ _ l0_0 false _ ?gw46_ ?side1 ?side2 A10.out).mono ?_); (case gw46_ => exact z3_); (case side1 => repeat (first | exact (Kd.C_below HR0_0.out HB.out) | (with_reducible refine Kd.C_alloc ?_ _) | (with_reducible refine Kd.C_drewN ?_ _) | (with_reducible refine Kd.C_drew ?_))); (case side2 => exact HC0_0.out); rintro e w' ⟨rfl, ⟨nd, rfl⟩⟩; (try first | exact ⟨rfl, _, World.drewN_drewN _ _ _⟩ | exact ⟨rfl, _, Eq.trans (World.drewN_drewN _ _ _) (congrArg (World.drewN _) (Nat.add_assoc _ _ _))⟩))); try go_wp2_with (first | (go_at_call 22; (fail_if_success (have z_ := U_16)); have U_16 := trivial; (with_reducible refine (pursuivantref10_Simple.calls k a1 false _ ?gw47_ A7.out).mono ?_); (case gw47_ => exact z3_); rintro e w15 ⟨rfl, hb⟩; have n0_ := Aside0.mk (blk_below (g := gb189) (o := .cells #[.slice A0_0 l0_0.length c0_0, .slice A0_1 l0_1.length c0_1, .int .i64 a0_2] 36 (0, 0)) z37_ hb); have n1_ := Aside0.mk (below_step z17_ hb); clear BK189; clear HB; have BK189 := n0_; have HB := n1_; clear n0_ n1_; (try clear hb); (try clear hb2); (try clear hk); (try clear hi); have hcz16_0 : w15.cell? ⟨gb189, 0, none⟩ = some (.slice A0_0 l0_0.length c0_0) := (blk_cell BK189.out 0).trans rfl; have hcz16_1 : w15.cell? ⟨gb189, 1, none⟩ = some (.slice A0_1 l0_1.length c0_1) := (blk_cell BK189.out 1).trans rfl; have hcz16_2 : w15.cell? ⟨gb189, 2, none⟩ = some (.int .i64 a0_2) := (blk_cell BK189.out 2).trans rfl; have hfz16_0 := blk_frozen BK189.out 0; have hfz16_1 := blk_frozen BK189.out 1; have hfz16_2 := blk_frozen BK189.out 2) | (go_at_call 39; (fail_if_success (have z_ := U_17)); have U_17 := trivial; (with_reducible refine (pursuivantref14_among.calls k a1 _ _ l0_0 false _ ?gw48_ ?side1 ?side2 A10.out).mono ?_); (case gw48_ => exact z3_); (case side1 => repeat (first | exact (Kd.C_below HR0_0.out HB.out) | (with_reducible refine Kd.C_alloc ?_ _) | (with_reducible refine Kd.C_drewN ?_ _) | (with_reducible refine Kd.C_drew ?_))); (case side2 => exact HC0_0.out); rintro e w' ⟨rfl, ⟨nd, rfl⟩⟩; (try first | exact ⟨rfl, _, World.drewN_drewN _ _ _⟩ | exact ⟨rfl, _, Eq.trans (World.drewN_drewN _ _ _) (congrArg (World.drewN _) (Nat.add_assoc _ _ _))⟩))))
     go_meet
     case rel => exact ⟨_, (true), z51_, H', ⟨z57_⟩, ⟨z37_⟩, ⟨z17_⟩⟩
    ·rw [if_neg c14] at H
     have c14b0 : (a3 == 3) = false := beq_eq_false_iff_ne.mpr c14
     have c14b1 : (a3 != 3) = true := bne_iff_ne.mpr c14
     (first | rw [c14b0] | (simp only [i64_w, i32_w]; rw [c14b0]) | skip)
     replace H := Option.bind_eq_some_iff.mp H
     obtain ⟨t192, A170, H⟩ := H
     replace H : (pursuivantref14_Answer_Lets.j0 k l2 a3 (!t192) l0_0 l0_1 a0_2) = some r := H
     have A17 := Aside0.mk A170; clear A170
     have H' := Aside0.mk H
     clear H
     go_wp2_with (first | (go_at_call 22; (fail_if_success (have z_ := U_18)); have U_18 := trivial; (with_reducible refine (pursuivantref10_Simple.calls k a1 false _ ?gw49_ A7.out).mono ?_); (case gw49_ => exact z3_); rintro e w18 ⟨rfl, hb⟩; have n0_ := Aside0.mk (blk_below (g := gb189) (o := .cells #[.slice A0_0 l0_0.length c0_0, .slice A0_1 l0_1.length c0_1, .int .i64 a0_2] 36 (0, 0)) z37_ hb); have n1_ := Aside0.mk (below_step z17_ hb); clear BK189; clear HB; have BK189 := n0_; have HB := n1_; clear n0_ n1_; (try clear hb); (try clear hb2); (try clear hk); (try clear hi); have hcz19_0 : w18.cell? ⟨gb189, 0, none⟩ = some (.slice A0_0 l0_0.length c0_0) := (blk_cell BK189.out 0).trans rfl; have hcz19_1 : w18.cell? ⟨gb189, 1, none⟩ = some (.slice A0_1 l0_1.length c0_1) := (blk_cell BK189.out 1).trans rfl; have hcz19_2 : w18.cell? ⟨gb189, 2, none⟩ = some (.int .i64 a0_2) := (blk_cell BK189.out 2).trans rfl; have hfz19_0 := blk_frozen BK189.out 0; have hfz19_1 := blk_frozen BK189.out 1; have hfz19_2 := blk_frozen BK189.out 2) | (go_at_call 39; (fail_if_success (have z_ := U_19)); have U_19 := trivial; (with_reducible refine (pursuivantref14_among.calls k a1 _ _ l0_0 false _ ?gw50_ ?side1 ?side2 A10.out).mono ?_); (case gw50_ => exact z3_); (case side1 => repeat (first | exact (Kd.C_below HR0_0.out HB.out) | (with_reducible refine Kd.C_alloc ?_ _) | (with_reducible refine Kd.C_drewN ?_ _) | (with_reducible refine Kd.C_drew ?_))); (case side2 => exact HC0_0.out); rintro e w' ⟨rfl, ⟨nd, rfl⟩⟩; (try first | exact ⟨rfl, _, World.drewN_drewN _ _ _⟩ | exact ⟨rfl, _, Eq.trans (World.drewN_drewN _ _ _) (congrArg (World.drewN _) (Nat.add_assoc _ _ _))⟩)) | (go_at_call 39; (fail_if_success (have z_ := U_20)); have U_20 := trivial; (with_reducible refine (pursuivantref14_among.calls k (⟨#[42]⟩ : ByteArray) _ _ l0_0 t192 _ ?gw51_ ?side1 ?side2 A17.out).mono ?_); (case gw51_ => exact z3_); (case side1 => repeat (first | exact (Kd.C_below HR0_0.out z17_) | (with_reducible refine Kd.C_alloc ?_ _) | (with_reducible refine Kd.C_drewN ?_ _) | (with_reducible refine Kd.C_drew ?_))); (case side2 => exact HC0_0.out); rintro e w' ⟨rfl, ⟨nd, rfl⟩⟩; (try first | exact ⟨rfl, _, World.drewN_drewN _ _ _⟩ | exact ⟨rfl, _, Eq.trans (World.drewN_drewN _ _ _) (congrArg (World.drewN _) (Nat.add_assoc _ _ _))⟩)))
     repeat (go_quiet (first | (go_at_call 22; (fail_if_success (have z_ := U_21)); have U_21 := trivial; (with_reducible refine (pursuivantref10_Simple.calls k a1 false _ ?gw52_ A7.out).mono ?_); (case gw52_ => exact z3_); rintro e w18 ⟨rfl, hb⟩; have n0_ := Aside0.mk (blk_below (g := gb189) (o := .cells #[.slice A0_0 l0_0.length c0_0, .slice A0_1 l0_1.length c0_1, .int .i64 a0_2] 36 (0, 0)) z37_ hb); have n1_ := Aside0.mk (below_step z17_ hb); clear BK189; clear HB; have BK189 := n0_; have HB := n1_; clear n0_ n1_; (try clear hb); (try clear hb2); (try clear hk); (try clear hi); have hcz19_0 : w18.cell? ⟨gb189, 0, none⟩ = some (.slice A0_0 l0_0.length c0_0) := (blk_cell BK189.out 0).trans rfl; have hcz19_1 : w18.cell? ⟨gb189, 1, none⟩ = some (.slice A0_1 l0_1.length c0_1) := (blk_cell BK189.out 1).trans rfl; have hcz19_2 : w18.cell? ⟨gb189, 2, none⟩ = some (.int .i64 a0_2) := (blk_cell BK189.out 2).trans rfl; have hfz19_0 := blk_frozen BK189.out 0; have hfz19_1 := blk_frozen BK189.out 1; have hfz19_2 := blk_frozen BK189.out 2) | (go_at_call 39; (fail_if_success (have z_ := U_22)); have U_22 := trivial; (with_reducible refine (pursuivantref14_among.calls k a1 _ _ l0_0 false _ ?gw53_ ?side1 ?side2 A10.out).mono ?_); (case gw53_ => exact z3_); (case side1 => repeat (first | exact (Kd.C_below HR0_0.out HB.out) | (with_reducible refine Kd.C_alloc ?_ _) | (with_reducible refine Kd.C_drewN ?_ _) | (with_reducible refine Kd.C_drew ?_))); (case side2 => exact HC0_0.out); rintro e w' ⟨rfl, ⟨nd, rfl⟩⟩; (try first | exact ⟨rfl, _, World.drewN_drewN _ _ _⟩ | exact ⟨rfl, _, Eq.trans (World.drewN_drewN _ _ _) (congrArg (World.drewN _) (Nat.add_assoc _ _ _))⟩)) | (go_at_call 39; (fail_if_success (have z_ := U_23)); have U_23 := trivial; (with_reducible refine (pursuivantref14_among.calls k (⟨#[42]⟩ : ByteArray) _ _ l0_0 t192 _ ?gw54_ ?side1 ?side2 A17.out).mono ?_); (case gw54_ => exact z3_); (case side1 => repeat (first | exact (Kd.C_below HR0_0.out z17_) | (with_reducible refine Kd.C_alloc ?_ _) | (with_reducible refine Kd.C_drewN ?_ _) | (with_reducible refine Kd.C_drew ?_))); (case side2 => exact HC0_0.out); rintro e w' ⟨rfl, ⟨nd, rfl⟩⟩; (try first | exact ⟨rfl, _, World.drewN_drewN _ _ _⟩ | exact ⟨rfl, _, Eq.trans (World.drewN_drewN _ _ _) (congrArg (World.drewN _) (Nat.add_assoc _ _ _))⟩))); try go_wp2_with (first | (go_at_call 22; (fail_if_success (have z_ := U_24)); have U_24 := trivial; (with_reducible refine (pursuivantref10_Simple.calls k a1 false _ ?gw55_ A7.out).mono ?_); (case gw55_ => exact z3_); rintro e w18 ⟨rfl, hb⟩; have n0_ := Aside0.mk (blk_below (g := gb189) (o := .cells #[.slice A0_0 l0_0.length c0_0, .slice A0_1 l0_1.length c0_1, .int .i64 a0_2] 36 (0, 0)) z37_ hb); have n1_ := Aside0.mk (below_step z17_ hb); clear BK189; clear HB; have BK189 := n0_; have HB := n1_; clear n0_ n1_; (try clear hb); (try clear hb2); (try clear hk); (try clear hi); have hcz19_0 : w18.cell? ⟨gb189, 0, none⟩ = some (.slice A0_0 l0_0.length c0_0) := (blk_cell BK189.out 0).trans rfl; have hcz19_1 : w18.cell? ⟨gb189, 1, none⟩ = some (.slice A0_1 l0_1.length c0_1) := (blk_cell BK189.out 1).trans rfl; have hcz19_2 : w18.cell? ⟨gb189, 2, none⟩ = some (.int .i64 a0_2) := (blk_cell BK189.out 2).trans rfl; have hfz19_0 := blk_frozen BK189.out 0; have hfz19_1 := blk_frozen BK189.out 1; have hfz19_2 := blk_frozen BK189.out 2) | (go_at_call 39; (fail_if_success (have z_ := U_25)); have U_25 := trivial; (with_reducible refine (pursuivantref14_among.calls k a1 _ _ l0_0 false _ ?gw56_ ?side1 ?side2 A10.out).mono ?_); (case gw56_ => exact z3_); (case side1 => repeat (first | exact (Kd.C_below HR0_0.out HB.out) | (with_reducible refine Kd.C_alloc ?_ _) | (with_reducible refine Kd.C_drewN ?_ _) | (with_reducible refine Kd.C_drew ?_))); (case side2 => exact HC0_0.out); rintro e w' ⟨rfl, ⟨nd, rfl⟩⟩; (try first | exact ⟨rfl, _, World.drewN_drewN _ _ _⟩ | exact ⟨rfl, _, Eq.trans (World.drewN_drewN _ _ _) (congrArg (World.drewN _) (Nat.add_assoc _ _ _))⟩)) | (go_at_call 39; (fail_if_success (have z_ := U_26)); have U_26 := trivial; (with_reducible refine (pursuivantref14_among.calls k (⟨#[42]⟩ : ByteArray) _ _ l0_0 t192 _ ?gw57_ ?side1 ?side2 A17.out).mono ?_); (case gw57_ => exact z3_); (case side1 => repeat (first | exact (Kd.C_below HR0_0.out z17_) | (with_reducible refine Kd.C_alloc ?_ _) | (with_reducible refine Kd.C_drewN ?_ _) | (with_reducible refine Kd.C_drew ?_))); (case side2 => exact HC0_0.out); rintro e w' ⟨rfl, ⟨nd, rfl⟩⟩; (try first | exact ⟨rfl, _, World.drewN_drewN _ _ _⟩ | exact ⟨rfl, _, Eq.trans (World.drewN_drewN _ _ _) (congrArg (World.drewN _) (Nat.add_assoc _ _ _))⟩))))
     go_meet
     case rel => exact ⟨_, (!t192), z51_, H', ⟨z57_⟩, ⟨z37_⟩, ⟨z17_⟩⟩
 case rest =>
  clear HC5; (try clear c2)
  obtain ⟨kq, x29_4, rfl, HA, HJ4, BK189, HB⟩ := hcut
  cases kq with
  | zero => exact absurd HA.out (by simp [pursuivantref14_Answer_Lets.j0])
  | succ kj4 =>
   have H := HA.out
   clear HA
   simp only [pursuivantref14_Answer_Lets.j0] at H
   by_cases c20 : x29_4 = true
   ·subst c20
    have H1 : (some false) = some r := by rw [if_pos rfl] at H; exact H
    clear H
    have H := H1
    clear H1
    obtain rfl := Option.some.inj H
    go_wp2
    repeat (go_quiet (fail); try go_wp2)
    go_ret
    exact ⟨z28_, z17_⟩
   ·replace c20 := Bool.eq_false_iff.mpr c20
    subst c20
    have H1 : (pursuivantref14_Answer_Lets.l0 kj4 l2 a3 0 l0_0 l0_1 a0_2) = some r := by rw [if_neg (show ¬ (false = true) by decide)] at H; exact H
    clear H
    have H := H1
    clear H1
    have H' := Aside0.mk H
    clear H; go_wp2
    repeat (go_quiet (fail); try go_wp2)
    go_loopg [9] kj4 (fun kq v9 w' => ∃ (x9_2 : Int), v9 = .int .i64 x9_2 ∧ Aside0 (pursuivantref14_Answer_Lets.l0 kq l2 a3 x9_2 l0_0 l0_1 a0_2 = some r) ∧ Aside0 (kq ≤ kj4) ∧ Aside0 (w'.heap[gb189]? = some (.cells #[(.slice A0_0 l0_0.length c0_0), (.slice A0_1 l0_1.length c0_1), .int .i64 a0_2] 36 (0, 0))) ∧ Aside0 (Below w.heap.size w w'))
    case atStart => exact ⟨(0), z51_, H', ⟨Nat.le_refl _⟩, ⟨z37_⟩, ⟨z17_⟩⟩
    case round =>
     clear H'; (try clear c2); (try clear c20)
     obtain ⟨x9_2, rfl, HA, HK2, BK189, HB⟩ := hrel
     cases gk with
     | zero => exact absurd HA.out (by simp [pursuivantref14_Answer_Lets.l0])
     | succ k2 =>
      have H := HA.out
      clear HA
      simp only [pursuivantref14_Answer_Lets.l0] at H
      by_cases c21 : x9_2 < (l2.length : Int)
      ·rw [if_pos c21] at H
       have c21b0 : decide (x9_2 < (l2.length : Int)) = true := decide_eq_true c21; clear c21
       by_cases c22 : 0 ≤ x9_2
       ·rw [if_pos c22] at H
        have c22b0 : decide (0 ≤ x9_2) = true := decide_eq_true c22; clear c22
        replace H := Option.bind_eq_some_iff.mp H
        obtain ⟨t194, A230, H⟩ := H
        replace H : (if t194 = true then (pursuivantref14_Answer_Lets.l0 k2 l2 a3 (wrap64 (x9_2 + 1)) l0_0 l0_1 a0_2) else (if a3 = 3 then (some false) else (if (rdOf ByteArray.empty l2 x9_2).toList = ([97, 117, 116, 104, 111, 114, 105, 122, 97, 116, 105, 111, 110] : List UInt8) then (some false) else ((pursuivantref14_among.f k2 (⟨#[42]⟩ : ByteArray) l0_1).bind fun t196 => (if t196 = true then (pursuivantref14_Answer_Lets.l0 k2 l2 a3 (wrap64 (x9_2 + 1)) l0_0 l0_1 a0_2) else (some false)))))) = some r := H
        have A23 := Aside0.mk A230; clear A230
        by_cases c24 : t194 = true
        ·subst c24
         have H1 : (pursuivantref14_Answer_Lets.l0 k2 l2 a3 (wrap64 (x9_2 + 1)) l0_0 l0_1 a0_2) = some r := by rw [if_pos rfl] at H; exact H
         clear H
         have H := H1
         clear H1
         have H' := Aside0.mk H
         clear H
         have p193 : 0 ≤ (x9_2 : Int) := of_decide_eq_true z55_
         have q193 : x9_2 < (l2.length : Int) := of_decide_eq_true z55_
         obtain ⟨ad193, e193, hx193_0⟩ := Kd.at_string HR2.out x9_2 p193 q193
         cases e193
         replace hx193_0 := (HB.out.cell (World.block_lt_of_cell? w _ hx193_0)).trans hx193_0
         replace p193 := eq_true p193
         replace q193 := eq_true q193
         obtain ⟨hcz25_0, hcz25_1, hcz25_2⟩ := blkc3_ BK189.out; obtain ⟨hfz25_0, hfz25_1, hfz25_2⟩ := blkf3_ BK189.out
         go_wp2_with (first | (go_at_call 39; (fail_if_success (have z_ := U_27)); have U_27 := trivial; (with_reducible refine (pursuivantref14_among.calls k2 (rdOf ByteArray.empty l2 x9_2) _ _ l0_1 true _ ?gw58_ ?side1 ?side2 A23.out).mono ?_); (case gw58_ => exact z3_); (case side1 => repeat (first | exact (Kd.C_below HR0_1.out HB.out) | (with_reducible refine Kd.C_alloc ?_ _) | (with_reducible refine Kd.C_drewN ?_ _) | (with_reducible refine Kd.C_drew ?_))); (case side2 => exact HC0_1.out); rintro e w' ⟨rfl, ⟨nd, rfl⟩⟩; (try first | exact ⟨rfl, _, World.drewN_drewN _ _ _⟩ | exact ⟨rfl, _, Eq.trans (World.drewN_drewN _ _ _) (congrArg (World.drewN _) (Nat.add_assoc _ _ _))⟩)))
         repeat (go_quiet (first | (go_at_call 39; (fail_if_success (have z_ := U_28)); have U_28 := trivial; (with_reducible refine (pursuivantref14_among.calls k2 (rdOf ByteArray.empty l2 x9_2) _ _ l0_1 true _ ?gw59_ ?side1 ?side2 A23.out).mono ?_); (case gw59_ => exact z3_); (case side1 => repeat (first | exact (Kd.C_below HR0_1.out HB.out) | (with_reducible refine Kd.C_alloc ?_ _) | (with_reducible refine Kd.C_drewN ?_ _) | (with_reducible refine Kd.C_drew ?_))); (case side2 => exact HC0_1.out); rintro e w' ⟨rfl, ⟨nd, rfl⟩⟩; (try first | exact ⟨rfl, _, World.drewN_drewN _ _ _⟩ | exact ⟨rfl, _, Eq.trans (World.drewN_drewN _ _ _) (congrArg (World.drewN _) (Nat.add_assoc _ _ _))⟩))); try go_wp2_with (first | (go_at_call 39; (fail_if_success (have z_ := U_29)); have U_29 := trivial; (with_reducible refine (pursuivantref14_among.calls k2 (rdOf ByteArray.empty l2 x9_2) _ _ l0_1 true _ ?gw60_ ?side1 ?side2 A23.out).mono ?_); (case gw60_ => exact z3_); (case side1 => repeat (first | exact (Kd.C_below HR0_1.out HB.out) | (with_reducible refine Kd.C_alloc ?_ _) | (with_reducible refine Kd.C_drewN ?_ _) | (with_reducible refine Kd.C_drew ?_))); (case side2 => exact HC0_1.out); rintro e w' ⟨rfl, ⟨nd, rfl⟩⟩; (try first | exact ⟨rfl, _, World.drewN_drewN _ _ _⟩ | exact ⟨rfl, _, Eq.trans (World.drewN_drewN _ _ _) (congrArg (World.drewN _) (Nat.add_assoc _ _ _))⟩))))
         go_roundg k2
         case measure => have := HJ4.out; have := HK2.out; omega
         case rel => exact ⟨(wrap64 (x9_2 + 1)), z51_, H', ⟨by have := HJ4.out; have := HK2.out; omega⟩, ⟨z37_⟩, ⟨z17_⟩⟩
        ·replace c24 := Bool.eq_false_iff.mpr c24
         subst c24
         have H1 : (if a3 = 3 then (some false) else (if (rdOf ByteArray.empty l2 x9_2).toList = ([97, 117, 116, 104, 111, 114, 105, 122, 97, 116, 105, 111, 110] : List UInt8) then (some false) else ((pursuivantref14_among.f k2 (⟨#[42]⟩ : ByteArray) l0_1).bind fun t196 => (if t196 = true then (pursuivantref14_Answer_Lets.l0 k2 l2 a3 (wrap64 (x9_2 + 1)) l0_0 l0_1 a0_2) else (some false))))) = some r := by rw [if_neg (show ¬ (false = true) by decide)] at H; exact H
         clear H
         have H := H1
         clear H1
         by_cases c26 : a3 = 3
         ·rw [if_pos c26] at H
          have c26b0 : (a3 == 3) = true := beq_iff_eq.mpr c26
          have c26b1 : (a3 != 3) = false := bne_eq_false_iff_eq.mpr c26
          clear c26
          obtain rfl := Option.some.inj H
          have p193 : 0 ≤ (x9_2 : Int) := of_decide_eq_true z55_
          have q193 : x9_2 < (l2.length : Int) := of_decide_eq_true z55_
          obtain ⟨ad193, e193, hx193_0⟩ := Kd.at_string HR2.out x9_2 p193 q193
          cases e193
          replace hx193_0 := (HB.out.cell (World.block_lt_of_cell? w _ hx193_0)).trans hx193_0
          replace p193 := eq_true p193
          replace q193 := eq_true q193
          obtain ⟨hcz27_0, hcz27_1, hcz27_2⟩ := blkc3_ BK189.out; obtain ⟨hfz27_0, hfz27_1, hfz27_2⟩ := blkf3_ BK189.out
          go_wp2_with (first | (go_at_call 39; (fail_if_success (have z_ := U_30)); have U_30 := trivial; (with_reducible refine (pursuivantref14_among.calls k2 (rdOf ByteArray.empty l2 x9_2) _ _ l0_1 false _ ?gw61_ ?side1 ?side2 A23.out).mono ?_); (case gw61_ => exact z3_); (case side1 => repeat (first | exact (Kd.C_below HR0_1.out HB.out) | (with_reducible refine Kd.C_alloc ?_ _) | (with_reducible refine Kd.C_drewN ?_ _) | (with_reducible refine Kd.C_drew ?_))); (case side2 => exact HC0_1.out); rintro e w' ⟨rfl, ⟨nd, rfl⟩⟩; (try first | exact ⟨rfl, _, World.drewN_drewN _ _ _⟩ | exact ⟨rfl, _, Eq.trans (World.drewN_drewN _ _ _) (congrArg (World.drewN _) (Nat.add_assoc _ _ _))⟩)))
          repeat (go_quiet (first | (go_at_call 39; (fail_if_success (have z_ := U_31)); have U_31 := trivial; (with_reducible refine (pursuivantref14_among.calls k2 (rdOf ByteArray.empty l2 x9_2) _ _ l0_1 false _ ?gw62_ ?side1 ?side2 A23.out).mono ?_); (case gw62_ => exact z3_); (case side1 => repeat (first | exact (Kd.C_below HR0_1.out HB.out) | (with_reducible refine Kd.C_alloc ?_ _) | (with_reducible refine Kd.C_drewN ?_ _) | (with_reducible refine Kd.C_drew ?_))); (case side2 => exact HC0_1.out); rintro e w' ⟨rfl, ⟨nd, rfl⟩⟩; (try first | exact ⟨rfl, _, World.drewN_drewN _ _ _⟩ | exact ⟨rfl, _, Eq.trans (World.drewN_drewN _ _ _) (congrArg (World.drewN _) (Nat.add_assoc _ _ _))⟩))); try go_wp2_with (first | (go_at_call 39; (fail_if_success (have z_ := U_32)); have U_32 := trivial; (with_reducible refine (pursuivantref14_among.calls k2 (rdOf ByteArray.empty l2 x9_2) _ _ l0_1 false _ ?gw63_ ?side1 ?side2 A23.out).mono ?_); (case gw63_ => exact z3_); (case side1 => repeat (first | exact (Kd.C_below HR0_1.out HB.out) | (with_reducible refine Kd.C_alloc ?_ _) | (with_reducible refine Kd.C_drewN ?_ _) | (with_reducible refine Kd.C_drew ?_))); (case side2 => exact HC0_1.out); rintro e w' ⟨rfl, ⟨nd, rfl⟩⟩; (try first | exact ⟨rfl, _, World.drewN_drewN _ _ _⟩ | exact ⟨rfl, _, Eq.trans (World.drewN_drewN _ _ _) (congrArg (World.drewN _) (Nat.add_assoc _ _ _))⟩))))
          go_ret
          exact ⟨z28_, z17_⟩
         ·rw [if_neg c26] at H
          have c26b0 : (a3 == 3) = false := beq_eq_false_iff_ne.mpr c26
          have c26b1 : (a3 != 3) = true := bne_iff_ne.mpr c26
          by_cases c28 : (rdOf ByteArray.empty l2 x9_2).toList = ([97, 117, 116, 104, 111, 114, 105, 122, 97, 116, 105, 111, 110] : List UInt8)
          ·rw [if_pos c28] at H
           have c28b0 : ((rdOf ByteArray.empty l2 x9_2).toList == ([97, 117, 116, 104, 111, 114, 105, 122, 97, 116, 105, 111, 110] : List UInt8)) = true := beq_iff_eq.mpr c28
           have c28b1 : ((rdOf ByteArray.empty l2 x9_2).toList != ([97, 117, 116, 104, 111, 114, 105, 122, 97, 116, 105, 111, 110] : List UInt8)) = false := bne_eq_false_iff_eq.mpr c28
           clear c28
           obtain rfl := Option.some.inj H
           have p193 : 0 ≤ (x9_2 : Int) := of_decide_eq_true z55_
           have q193 : x9_2 < (l2.length : Int) := of_decide_eq_true z55_
           obtain ⟨ad193, e193, hx193_0⟩ := Kd.at_string HR2.out x9_2 p193 q193
           cases e193
           replace hx193_0 := (HB.out.cell (World.block_lt_of_cell? w _ hx193_0)).trans hx193_0
           replace p193 := eq_true p193
           replace q193 := eq_true q193
           obtain ⟨hcz29_0, hcz29_1, hcz29_2⟩ := blkc3_ BK189.out; obtain ⟨hfz29_0, hfz29_1, hfz29_2⟩ := blkf3_ BK189.out
           go_wp2_with (first | (go_at_call 39; (fail_if_success (have z_ := U_33)); have U_33 := trivial; (with_reducible refine (pursuivantref14_among.calls k2 (rdOf ByteArray.empty l2 x9_2) _ _ l0_1 false _ ?gw64_ ?side1 ?side2 A23.out).mono ?_); (case gw64_ => exact z3_); (case side1 => repeat (first | exact (Kd.C_below HR0_1.out HB.out) | (with_reducible refine Kd.C_alloc ?_ _) | (with_reducible refine Kd.C_drewN ?_ _) | (with_reducible refine Kd.C_drew ?_))); (case side2 => exact HC0_1.out); rintro e w' ⟨rfl, ⟨nd, rfl⟩⟩; (try first | exact ⟨rfl, _, World.drewN_drewN _ _ _⟩ | exact ⟨rfl, _, Eq.trans (World.drewN_drewN _ _ _) (congrArg (World.drewN _) (Nat.add_assoc _ _ _))⟩); have p195 : 0 ≤ (x9_2 : Int) := of_decide_eq_true z55_; have q195 : x9_2 < (l2.length : Int) := of_decide_eq_true z55_; obtain ⟨ad195, e195, hx195_0⟩ := Kd.at_string HR2.out x9_2 p195 q195; obtain rfl : ad193 = ad195 := (by injection e195); replace hx195_0 := (HB.out.cell (World.block_lt_of_cell? w _ hx195_0)).trans hx195_0; replace p195 := eq_true p195; replace q195 := eq_true q195))
           repeat (go_quiet (first | (go_at_call 39; (fail_if_success (have z_ := U_34)); have U_34 := trivial; (with_reducible refine (pursuivantref14_among.calls k2 (rdOf ByteArray.empty l2 x9_2) _ _ l0_1 false _ ?gw65_ ?side1 ?side2 A23.out).mono ?_); (case gw65_ => exact z3_); (case side1 => repeat (first | exact (Kd.C_below HR0_1.out HB.out) | (with_reducible refine Kd.C_alloc ?_ _) | (with_reducible refine Kd.C_drewN ?_ _) | (with_reducible refine Kd.C_drew ?_))); (case side2 => exact HC0_1.out); rintro e w' ⟨rfl, ⟨nd, rfl⟩⟩; (try first | exact ⟨rfl, _, World.drewN_drewN _ _ _⟩ | exact ⟨rfl, _, Eq.trans (World.drewN_drewN _ _ _) (congrArg (World.drewN _) (Nat.add_assoc _ _ _))⟩); have p195 : 0 ≤ (x9_2 : Int) := of_decide_eq_true z55_; have q195 : x9_2 < (l2.length : Int) := of_decide_eq_true z55_; obtain ⟨ad195, e195, hx195_0⟩ := Kd.at_string HR2.out x9_2 p195 q195; obtain rfl : ad193 = ad195 := (by injection e195); replace hx195_0 := (HB.out.cell (World.block_lt_of_cell? w _ hx195_0)).trans hx195_0; replace p195 := eq_true p195; replace q195 := eq_true q195)); try go_wp2_with (first | (go_at_call 39; (fail_if_success (have z_ := U_35)); have U_35 := trivial; (with_reducible refine (pursuivantref14_among.calls k2 (rdOf ByteArray.empty l2 x9_2) _ _ l0_1 false _ ?gw66_ ?side1 ?side2 A23.out).mono ?_); (case gw66_ => exact z3_); (case side1 => repeat (first | exact (Kd.C_below HR0_1.out HB.out) | (with_reducible refine Kd.C_alloc ?_ _) | (with_reducible refine Kd.C_drewN ?_ _) | (with_reducible refine Kd.C_drew ?_))); (case side2 => exact HC0_1.out); rintro e w' ⟨rfl, ⟨nd, rfl⟩⟩; (try first | exact ⟨rfl, _, World.drewN_drewN _ _ _⟩ | exact ⟨rfl, _, Eq.trans (World.drewN_drewN _ _ _) (congrArg (World.drewN _) (Nat.add_assoc _ _ _))⟩); have p195 : 0 ≤ (x9_2 : Int) := of_decide_eq_true z55_; have q195 : x9_2 < (l2.length : Int) := of_decide_eq_true z55_; obtain ⟨ad195, e195, hx195_0⟩ := Kd.at_string HR2.out x9_2 p195 q195; obtain rfl : ad193 = ad195 := (by injection e195); replace hx195_0 := (HB.out.cell (World.block_lt_of_cell? w _ hx195_0)).trans hx195_0; replace p195 := eq_true p195; replace q195 := eq_true q195)))
           go_ret
           exact ⟨z28_, z17_⟩
          ·rw [if_neg c28] at H
           have c28b0 : ((rdOf ByteArray.empty l2 x9_2).toList == ([97, 117, 116, 104, 111, 114, 105, 122, 97, 116, 105, 111, 110] : List UInt8)) = false := beq_eq_false_iff_ne.mpr c28
           have c28b1 : ((rdOf ByteArray.empty l2 x9_2).toList != ([97, 117, 116, 104, 111, 114, 105, 122, 97, 116, 105, 111, 110] : List UInt8)) = true := bne_iff_ne.mpr c28
           replace H := Option.bind_eq_some_iff.mp H
           obtain ⟨t196, A300, H⟩ := H
           replace H : (if t196 = true then (pursuivantref14_Answer_Lets.l0 k2 l2 a3 (wrap64 (x9_2 + 1)) l0_0 l0_1 a0_2) else (some false)) = some r := H
           have A30 := Aside0.mk A300; clear A300
           by_cases c31 : t196 = true
           ·subst c31
            have H1 : (pursuivantref14_Answer_Lets.l0 k2 l2 a3 (wrap64 (x9_2 + 1)) l0_0 l0_1 a0_2) = some r := by rw [if_pos rfl] at H; exact H
            clear H
            have H := H1
            clear H1
            have H' := Aside0.mk H
            clear H
            have p193 : 0 ≤ (x9_2 : Int) := of_decide_eq_true z55_
            have q193 : x9_2 < (l2.length : Int) := of_decide_eq_true z55_
            obtain ⟨ad193, e193, hx193_0⟩ := Kd.at_string HR2.out x9_2 p193 q193
            cases e193
            replace hx193_0 := (HB.out.cell (World.block_lt_of_cell? w _ hx193_0)).trans hx193_0
            replace p193 := eq_true p193
            replace q193 := eq_true q193
            obtain ⟨hcz32_0, hcz32_1, hcz32_2⟩ := blkc3_ BK189.out; obtain ⟨hfz32_0, hfz32_1, hfz32_2⟩ := blkf3_ BK189.out
            go_wp2_with (first | (go_at_call 39; (fail_if_success (have z_ := U_36)); have U_36 := trivial; (with_reducible refine (pursuivantref14_among.calls k2 (rdOf ByteArray.empty l2 x9_2) _ _ l0_1 false _ ?gw67_ ?side1 ?side2 A23.out).mono ?_); (case gw67_ => exact z3_); (case side1 => repeat (first | exact (Kd.C_below HR0_1.out HB.out) | (with_reducible refine Kd.C_alloc ?_ _) | (with_reducible refine Kd.C_drewN ?_ _) | (with_reducible refine Kd.C_drew ?_))); (case side2 => exact HC0_1.out); rintro e w' ⟨rfl, ⟨nd, rfl⟩⟩; (try first | exact ⟨rfl, _, World.drewN_drewN _ _ _⟩ | exact ⟨rfl, _, Eq.trans (World.drewN_drewN _ _ _) (congrArg (World.drewN _) (Nat.add_assoc _ _ _))⟩); have p195 : 0 ≤ (x9_2 : Int) := of_decide_eq_true z55_; have q195 : x9_2 < (l2.length : Int) := of_decide_eq_true z55_; obtain ⟨ad195, e195, hx195_0⟩ := Kd.at_string HR2.out x9_2 p195 q195; obtain rfl : ad193 = ad195 := (by injection e195); replace hx195_0 := (HB.out.cell (World.block_lt_of_cell? w _ hx195_0)).trans hx195_0; replace p195 := eq_true p195; replace q195 := eq_true q195) | (go_at_call 39; (fail_if_success (have z_ := U_37)); have U_37 := trivial; (with_reducible refine (pursuivantref14_among.calls k2 (⟨#[42]⟩ : ByteArray) _ _ l0_1 true _ ?gw68_ ?side1 ?side2 A30.out).mono ?_); (case gw68_ => exact z3_); (case side1 => repeat (first | exact (Kd.C_below HR0_1.out z17_) | (with_reducible refine Kd.C_alloc ?_ _) | (with_reducible refine Kd.C_drewN ?_ _) | (with_reducible refine Kd.C_drew ?_))); (case side2 => exact HC0_1.out); rintro e w' ⟨rfl, ⟨nd, rfl⟩⟩; (try first | exact ⟨rfl, _, World.drewN_drewN _ _ _⟩ | exact ⟨rfl, _, Eq.trans (World.drewN_drewN _ _ _) (congrArg (World.drewN _) (Nat.add_assoc _ _ _))⟩)))
            repeat (go_quiet (first | (go_at_call 39; (fail_if_success (have z_ := U_38)); have U_38 := trivial; (with_reducible refine (pursuivantref14_among.calls k2 (rdOf ByteArray.empty l2 x9_2) _ _ l0_1 false _ ?gw69_ ?side1 ?side2 A23.out).mono ?_); (case gw69_ => exact z3_); (case side1 => repeat (first | exact (Kd.C_below HR0_1.out HB.out) | (with_reducible refine Kd.C_alloc ?_ _) | (with_reducible refine Kd.C_drewN ?_ _) | (with_reducible refine Kd.C_drew ?_))); (case side2 => exact HC0_1.out); rintro e w' ⟨rfl, ⟨nd, rfl⟩⟩; (try first | exact ⟨rfl, _, World.drewN_drewN _ _ _⟩ | exact ⟨rfl, _, Eq.trans (World.drewN_drewN _ _ _) (congrArg (World.drewN _) (Nat.add_assoc _ _ _))⟩); have p195 : 0 ≤ (x9_2 : Int) := of_decide_eq_true z55_; have q195 : x9_2 < (l2.length : Int) := of_decide_eq_true z55_; obtain ⟨ad195, e195, hx195_0⟩ := Kd.at_string HR2.out x9_2 p195 q195; obtain rfl : ad193 = ad195 := (by injection e195); replace hx195_0 := (HB.out.cell (World.block_lt_of_cell? w _ hx195_0)).trans hx195_0; replace p195 := eq_true p195; replace q195 := eq_true q195) | (go_at_call 39; (fail_if_success (have z_ := U_39)); have U_39 := trivial; (with_reducible refine (pursuivantref14_among.calls k2 (⟨#[42]⟩ : ByteArray) _ _ l0_1 true _ ?gw70_ ?side1 ?side2 A30.out).mono ?_); (case gw70_ => exact z3_); (case side1 => repeat (first | exact (Kd.C_below HR0_1.out z17_) | (with_reducible refine Kd.C_alloc ?_ _) | (with_reducible refine Kd.C_drewN ?_ _) | (with_reducible refine Kd.C_drew ?_))); (case side2 => exact HC0_1.out); rintro e w' ⟨rfl, ⟨nd, rfl⟩⟩; (try first | exact ⟨rfl, _, World.drewN_drewN _ _ _⟩ | exact ⟨rfl, _, Eq.trans (World.drewN_drewN _ _ _) (congrArg (World.drewN _) (Nat.add_assoc _ _ _))⟩))); try go_wp2_with (first | (go_at_call 39; (fail_if_success (have z_ := U_40)); have U_40 := trivial; (with_reducible refine (pursuivantref14_among.calls k2 (rdOf ByteArray.empty l2 x9_2) _ _ l0_1 false _ ?gw71_ ?side1 ?side2 A23.out).mono ?_); (case gw71_ => exact z3_); (case side1 => repeat (first | exact (Kd.C_below HR0_1.out HB.out) | (with_reducible refine Kd.C_alloc ?_ _) | (with_reducible refine Kd.C_drewN ?_ _) | (with_reducible refine Kd.C_drew ?_))); (case side2 => exact HC0_1.out); rintro e w' ⟨rfl, ⟨nd, rfl⟩⟩; (try first | exact ⟨rfl, _, World.drewN_drewN _ _ _⟩ | exact ⟨rfl, _, Eq.trans (World.drewN_drewN _ _ _) (congrArg (World.drewN _) (Nat.add_assoc _ _ _))⟩); have p195 : 0 ≤ (x9_2 : Int) := of_decide_eq_true z55_; have q195 : x9_2 < (l2.length : Int) := of_decide_eq_true z55_; obtain ⟨ad195, e195, hx195_0⟩ := Kd.at_string HR2.out x9_2 p195 q195; obtain rfl : ad193 = ad195 := (by injection e195); replace hx195_0 := (HB.out.cell (World.block_lt_of_cell? w _ hx195_0)).trans hx195_0; replace p195 := eq_true p195; replace q195 := eq_true q195) | (go_at_call 39; (fail_if_success (have z_ := U_41)); have U_41 := trivial; (with_reducible refine (pursuivantref14_among.calls k2 (⟨#[42]⟩ : ByteArray) _ _ l0_1 true _ ?gw72_ ?side1 ?side2 A30.out).mono ?_); (case gw72_ => exact z3_); (case side1 => repeat (first | exact (Kd.C_below HR0_1.out z17_) | (with_reducible refine Kd.C_alloc ?_ _) | (with_reducible refine Kd.C_drewN ?_ _) | (with_reducible refine Kd.C_drew ?_))); (case side2 => exact HC0_1.out); rintro e w' ⟨rfl, ⟨nd, rfl⟩⟩; (try first | exact ⟨rfl, _, World.drewN_drewN _ _ _⟩ | exact ⟨rfl, _, Eq.trans (World.drewN_drewN _ _ _) (congrArg (World.drewN _) (Nat.add_assoc _ _ _))⟩))))
            go_roundg k2
            case measure => have := HJ4.out; have := HK2.out; omega
            case rel => exact ⟨(wrap64 (x9_2 + 1)), z51_, H', ⟨by have := HJ4.out; have := HK2.out; omega⟩, ⟨z37_⟩, ⟨z17_⟩⟩
           ·replace c31 := Bool.eq_false_iff.mpr c31
            subst c31
            have H1 : (some false) = some r := by rw [if_neg (show ¬ (false = true) by decide)] at H; exact H
            clear H
            have H := H1
            clear H1
            obtain rfl := Option.some.inj H
            have p193 : 0 ≤ (x9_2 : Int) := of_decide_eq_true z55_
            have q193 : x9_2 < (l2.length : Int) := of_decide_eq_true z55_
            obtain ⟨ad193, e193, hx193_0⟩ := Kd.at_string HR2.out x9_2 p193 q193
            cases e193
            replace hx193_0 := (HB.out.cell (World.block_lt_of_cell? w _ hx193_0)).trans hx193_0
            replace p193 := eq_true p193
            replace q193 := eq_true q193
            obtain ⟨hcz33_0, hcz33_1, hcz33_2⟩ := blkc3_ BK189.out; obtain ⟨hfz33_0, hfz33_1, hfz33_2⟩ := blkf3_ BK189.out
            go_wp2_with (first | (go_at_call 39; (fail_if_success (have z_ := U_42)); have U_42 := trivial; (with_reducible refine (pursuivantref14_among.calls k2 (rdOf ByteArray.empty l2 x9_2) _ _ l0_1 false _ ?gw73_ ?side1 ?side2 A23.out).mono ?_); (case gw73_ => exact z3_); (case side1 => repeat (first | exact (Kd.C_below HR0_1.out HB.out) | (with_reducible refine Kd.C_alloc ?_ _) | (with_reducible refine Kd.C_drewN ?_ _) | (with_reducible refine Kd.C_drew ?_))); (case side2 => exact HC0_1.out); rintro e w' ⟨rfl, ⟨nd, rfl⟩⟩; (try first | exact ⟨rfl, _, World.drewN_drewN _ _ _⟩ | exact ⟨rfl, _, Eq.trans (World.drewN_drewN _ _ _) (congrArg (World.drewN _) (Nat.add_assoc _ _ _))⟩); have p195 : 0 ≤ (x9_2 : Int) := of_decide_eq_true z55_; have q195 : x9_2 < (l2.length : Int) := of_decide_eq_true z55_; obtain ⟨ad195, e195, hx195_0⟩ := Kd.at_string HR2.out x9_2 p195 q195; obtain rfl : ad193 = ad195 := (by injection e195); replace hx195_0 := (HB.out.cell (World.block_lt_of_cell? w _ hx195_0)).trans hx195_0; replace p195 := eq_true p195; replace q195 := eq_true q195) | (go_at_call 39; (fail_if_success (have z_ := U_43)); have U_43 := trivial; (with_reducible refine (pursuivantref14_among.calls k2 (⟨#[42]⟩ : ByteArray) _ _ l0_1 false _ ?gw74_ ?side1 ?side2 A30.out).mono ?_); (case gw74_ => exact z3_); (case side1 => repeat (first | exact (Kd.C_below HR0_1.out z17_) | (with_reducible refine Kd.C_alloc ?_ _) | (with_reducible refine Kd.C_drewN ?_ _) | (with_reducible refine Kd.C_drew ?_))); (case side2 => exact HC0_1.out); rintro e w' ⟨rfl, ⟨nd, rfl⟩⟩; (try first | exact ⟨rfl, _, World.drewN_drewN _ _ _⟩ | exact ⟨rfl, _, Eq.trans (World.drewN_drewN _ _ _) (congrArg (World.drewN _) (Nat.add_assoc _ _ _))⟩)))
            repeat (go_quiet (first | (go_at_call 39; (fail_if_success (have z_ := U_44)); have U_44 := trivial; (with_reducible refine (pursuivantref14_among.calls k2 (rdOf ByteArray.empty l2 x9_2) _ _ l0_1 false _ ?gw75_ ?side1 ?side2 A23.out).mono ?_); (case gw75_ => exact z3_); (case side1 => repeat (first | exact (Kd.C_below HR0_1.out HB.out) | (with_reducible refine Kd.C_alloc ?_ _) | (with_reducible refine Kd.C_drewN ?_ _) | (with_reducible refine Kd.C_drew ?_))); (case side2 => exact HC0_1.out); rintro e w' ⟨rfl, ⟨nd, rfl⟩⟩; (try first | exact ⟨rfl, _, World.drewN_drewN _ _ _⟩ | exact ⟨rfl, _, Eq.trans (World.drewN_drewN _ _ _) (congrArg (World.drewN _) (Nat.add_assoc _ _ _))⟩); have p195 : 0 ≤ (x9_2 : Int) := of_decide_eq_true z55_; have q195 : x9_2 < (l2.length : Int) := of_decide_eq_true z55_; obtain ⟨ad195, e195, hx195_0⟩ := Kd.at_string HR2.out x9_2 p195 q195; obtain rfl : ad193 = ad195 := (by injection e195); replace hx195_0 := (HB.out.cell (World.block_lt_of_cell? w _ hx195_0)).trans hx195_0; replace p195 := eq_true p195; replace q195 := eq_true q195) | (go_at_call 39; (fail_if_success (have z_ := U_45)); have U_45 := trivial; (with_reducible refine (pursuivantref14_among.calls k2 (⟨#[42]⟩ : ByteArray) _ _ l0_1 false _ ?gw76_ ?side1 ?side2 A30.out).mono ?_); (case gw76_ => exact z3_); (case side1 => repeat (first | exact (Kd.C_below HR0_1.out z17_) | (with_reducible refine Kd.C_alloc ?_ _) | (with_reducible refine Kd.C_drewN ?_ _) | (with_reducible refine Kd.C_drew ?_))); (case side2 => exact HC0_1.out); rintro e w' ⟨rfl, ⟨nd, rfl⟩⟩; (try first | exact ⟨rfl, _, World.drewN_drewN _ _ _⟩ | exact ⟨rfl, _, Eq.trans (World.drewN_drewN _ _ _) (congrArg (World.drewN _) (Nat.add_assoc _ _ _))⟩))); try go_wp2_with (first | (go_at_call 39; (fail_if_success (have z_ := U_46)); have U_46 := trivial; (with_reducible refine (pursuivantref14_among.calls k2 (rdOf ByteArray.empty l2 x9_2) _ _ l0_1 false _ ?gw77_ ?side1 ?side2 A23.out).mono ?_); (case gw77_ => exact z3_); (case side1 => repeat (first | exact (Kd.C_below HR0_1.out HB.out) | (with_reducible refine Kd.C_alloc ?_ _) | (with_reducible refine Kd.C_drewN ?_ _) | (with_reducible refine Kd.C_drew ?_))); (case side2 => exact HC0_1.out); rintro e w' ⟨rfl, ⟨nd, rfl⟩⟩; (try first | exact ⟨rfl, _, World.drewN_drewN _ _ _⟩ | exact ⟨rfl, _, Eq.trans (World.drewN_drewN _ _ _) (congrArg (World.drewN _) (Nat.add_assoc _ _ _))⟩); have p195 : 0 ≤ (x9_2 : Int) := of_decide_eq_true z55_; have q195 : x9_2 < (l2.length : Int) := of_decide_eq_true z55_; obtain ⟨ad195, e195, hx195_0⟩ := Kd.at_string HR2.out x9_2 p195 q195; obtain rfl : ad193 = ad195 := (by injection e195); replace hx195_0 := (HB.out.cell (World.block_lt_of_cell? w _ hx195_0)).trans hx195_0; replace p195 := eq_true p195; replace q195 := eq_true q195) | (go_at_call 39; (fail_if_success (have z_ := U_47)); have U_47 := trivial; (with_reducible refine (pursuivantref14_among.calls k2 (⟨#[42]⟩ : ByteArray) _ _ l0_1 false _ ?gw78_ ?side1 ?side2 A30.out).mono ?_); (case gw78_ => exact z3_); (case side1 => repeat (first | exact (Kd.C_below HR0_1.out z17_) | (with_reducible refine Kd.C_alloc ?_ _) | (with_reducible refine Kd.C_drewN ?_ _) | (with_reducible refine Kd.C_drew ?_))); (case side2 => exact HC0_1.out); rintro e w' ⟨rfl, ⟨nd, rfl⟩⟩; (try first | exact ⟨rfl, _, World.drewN_drewN _ _ _⟩ | exact ⟨rfl, _, Eq.trans (World.drewN_drewN _ _ _) (congrArg (World.drewN _) (Nat.add_assoc _ _ _))⟩))))
            go_ret
            exact ⟨z28_, z17_⟩
       ·rw [if_neg c22] at H
        exact absurd H (by simp)
      ·rw [if_neg c21] at H
       have c21b0 : decide (x9_2 < (l2.length : Int)) = false := decide_eq_false c21; clear c21
       obtain rfl := Option.some.inj H
       go_wp2
       repeat (go_quiet (fail); try go_wp2)
       go_ret
       exact ⟨z28_, z17_⟩

end Go.Proofs.YtfibkgmbgdaeoaaGreatDoor.Hand
