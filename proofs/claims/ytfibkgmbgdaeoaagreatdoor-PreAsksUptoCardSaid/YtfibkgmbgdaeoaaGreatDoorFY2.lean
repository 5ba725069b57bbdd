/- What each Go function here computes, and that its call computes it, over contracts proved by hand (written by this project's xprint.py, which drives the kit's print). -/
import Derived.Test.YtfibkgmbgdaeoaaGreatDoorZ
import Derived.Test.YtfibkgmbgdaeoaaGreatDoorK
import Derived.Test.YtfibkgmbgdaeoaaGreatDoorPreJ
import Derived.Test.YtfibkgmbgdaeoaaGreatDoorPreL
import Derived.Test.YtfibkgmbgdaeoaaGreatDoorPreR
import Derived.Test.YtfibkgmbgdaeoaaGreatDoorSafeU
import Derived.Test.YtfibkgmbgdaeoaaGreatDoorSafeR
import Derived.Test.YtfibkgmbgdaeoaaGreatDoorList
import Derived.Test.YtfibkgmbgdaeoaaGreatDoorFA1
import Derived.Test.YtfibkgmbgdaeoaaGreatDoorFP1
import Derived.Test.YtfibkgmbgdaeoaaGreatDoorFPB1
import Derived.Test.YtfibkgmbgdaeoaaGreatDoorFYA1
import Derived.Test.YtfibkgmbgdaeoaaGreatDoorFYB1
import Derived.Test.YtfibkgmbgdaeoaaGreatDoorFY1
namespace Go.Proofs.YtfibkgmbgdaeoaaGreatDoor.Hand
open Go.RowKit Go.Proofs.YtfibkgmbgdaeoaaGreatDoorW.PrintWords Go.Proofs.YtfibkgmbgdaeoaaGreatDoorW.PrintLast Go.Proofs.YtfibkgmbgdaeoaaGreatDoorW.PrintMore
attribute [local go_sem] Instr.field asAgg max2_int min2_int max_two min_two max_three min_three max_four min_four   -- for this text's walks alone
set_option linter.unusedVariables false
set_option linter.unusedSimpArgs false

attribute [local go_sem high] eqA45
def pre_Needs.f (k : Nat) (a0 : ByteArray) (l1 : List (S45)) : Option (Bool) := (safe_Simple.f a0).bind fun t101 => (if t101 = true then ((safe_Unsafe.f k l1).bind fun t102 => (some (decide ((t102.length : Int) > 0)))) else (some true))
set_option maxHeartbeats 8000000 in
set_option maxRecDepth 100000 in
theorem pre_Needs.calls (k : Nat) (a0 : ByteArray) (A1 : Option Addr) (c1 : Nat) (l1 : List (S45)) (r : Bool) (w : World) (hG_ : GW w) (hr1 : Kd.C k45 w A1 l1.length l1) (hc1 : l1.length ≤ c1) (h : pre_Needs.f k a0 l1 = some r) :
  Calls Tryz.prog 7 #[.string a0, .slice A1 l1.length c1] w fun e w' => e = .returned (.bool r) ∧ Below w.heap.size w w' := by
 have HR1 := Aside0.mk hr1; have HC1 := Aside0.mk hc1; clear hr1 hc1
 have HB := Aside0.mk (Below.refl w.heap.size w)
 have H : ((safe_Simple.f a0).bind fun t101 => (if t101 = true then ((safe_Unsafe.f k l1).bind fun t102 => (some (decide ((t102.length : Int) > 0)))) else (some true))) = some r := h
 clear h
 replace H := Option.bind_eq_some_iff.mp H
 obtain ⟨t101, A30, H⟩ := H
 replace H : (if t101 = true then ((safe_Unsafe.f k l1).bind fun t102 => (some (decide ((t102.length : Int) > 0)))) else (some true)) = some r := H
 have A3 := Aside0.mk A30; clear A30
 by_cases c4 : t101 = true
 ·subst c4
  have H1 : ((safe_Unsafe.f k l1).bind fun t102 => (some (decide ((t102.length : Int) > 0)))) = some r := by rw [if_pos rfl] at H; exact H
  clear H
  have H := H1
  clear H1
  replace H := Option.bind_eq_some_iff.mp H
  obtain ⟨t102, A50, H⟩ := H
  replace H : (some (decide ((t102.length : Int) > 0))) = some r := H
  have A5 := Aside0.mk A50; clear A50
  obtain rfl := Option.some.inj H
  go_enter Tryz.func7, Tryz.ntmps7
  go_wp2_with (first | ((with_reducible refine gate_callee (f := 19) rfl ?_); refine goesL_ (some 6) rfl rfl Tryz.func19 (by kernel_rfl) rfl #[.string a0] rfl z5_ ?_; (with_reducible refine (safe_Simple.calls a0 true _ ?gw1_ A3.out).mono ?_); (case gw1_ => exact z2_); rintro e w' ⟨rfl, ⟨nd, rfl⟩⟩; refine ⟨_, rfl, ?_⟩) | (go_at_call 20; (fail_if_success (have z_ := U_1)); have U_1 := trivial; (with_reducible refine (safe_Unsafe.calls k _ _ l1 t102 _ ?gw2_ ?side1 ?side2 A5.out).mono ?_); (case gw2_ => exact z2_); (case side1 => repeat (first | exact HR1.out | (with_reducible refine Kd.C_alloc ?_ _) | (with_reducible refine Kd.C_drewN ?_ _) | (with_reducible refine Kd.C_drew ?_))); (case side2 => exact HC1.out); rintro e w6 ⟨v103, rfl, ho0, hb⟩; have n0_ := Aside0.mk (Kd.V_lower (Kd.V_mono (ok' := fun k_ => True) ho0 (fun k_ hk_ => trivial)) (below_size z6_)); have n1_ := Aside0.mk (below_step z6_ hb); clear HB; have HO104 := n0_; have HB := n1_; clear n0_ n1_; (try clear hb); (try clear hb2); (try clear hk); (try clear hi); (try clear ho0); obtain ⟨Ao7, co7, eo7⟩ := Kd.V_slice HO104.out; subst eo7))
  go_ret
  exact ⟨z7_, z6_⟩
 ·replace c4 := Bool.eq_false_iff.mpr c4
  subst c4
  have H1 : (some true) = some r := by rw [if_neg (show ¬ (false = true) by decide)] at H; exact H
  clear H
  have H := H1
  clear H1
  obtain rfl := Option.some.inj H
  go_enter Tryz.func7, Tryz.ntmps7
  go_wp2_with (first | ((with_reducible refine gate_callee (f := 19) rfl ?_); refine goesL_ (some 6) rfl rfl Tryz.func19 (by kernel_rfl) rfl #[.string a0] rfl z5_ ?_; (with_reducible refine (safe_Simple.calls a0 false _ ?gw3_ A3.out).mono ?_); (case gw3_ => exact z2_); rintro e w' ⟨rfl, ⟨nd, rfl⟩⟩; refine ⟨_, rfl, ?_⟩))
  go_ret
  exact ⟨z7_, z6_⟩

def pre_Ask.f (k : Nat) (a0 a1 : ByteArray) (l2 : List (S45)) : Option ((List (S45))) := (some (([(⟨(⟨#[65, 99, 99, 101, 112, 116]⟩ : ByteArray), (⟨#[42, 47, 42]⟩ : ByteArray)⟩ : S45), (⟨(⟨#[65, 99, 99, 101, 115, 115, 45, 67, 111, 110, 116, 114, 111, 108, 45, 82, 101, 113, 117, 101, 115, 116, 45, 77, 101, 116, 104, 111, 100]⟩ : ByteArray), a1⟩ : S45)] : List (S45)) : List (S45))).bind fun y105 => ((safe_Unsafe.f k l2).bind fun t108 => (if (t108.length : Int) > 0 then ((strings_Join.f t108 (⟨#[44]⟩ : ByteArray)).bind fun t111 => (if y105.length < 4398046511104 then ((some (y105 ++ [(⟨(⟨#[65, 99, 99, 101, 115, 115, 45, 67, 111, 110, 116, 114, 111, 108, 45, 82, 101, 113, 117, 101, 115, 116, 45, 72, 101, 97, 100, 101, 114, 115]⟩ : ByteArray), t111⟩ : S45)] : List (S45))).bind fun y112 => (if y112.length < 4398046511104 then ((slices_ClipH.f (y112 ++ [(⟨(⟨#[79, 114, 105, 103, 105, 110]⟩ : ByteArray), a0⟩ : S45)])).bind fun t118 => (some t118)) else (none))) else (none))) else (if y105.length < 4398046511104 then ((slices_ClipH.f (y105 ++ [(⟨(⟨#[79, 114, 105, 103, 105, 110]⟩ : ByteArray), a0⟩ : S45)])).bind fun t124 => (some t124)) else (none))))
set_option maxHeartbeats 8000000 in
set_option maxRecDepth 100000 in
theorem pre_Ask.calls (k : Nat) (a0 a1 : ByteArray) (A2 : Option Addr) (c2 : Nat) (l2 : List (S45)) (r : List (S45)) (w : World) (hG_ : GW w) (hr2 : Kd.C k45 w A2 l2.length l2) (hc2 : l2.length ≤ c2) (h : pre_Ask.f k a0 a1 l2 = some r) :
  Calls Tryz.prog 11 #[.string a0, .string a1, .slice A2 l2.length c2] w fun e w' => ∃ v0_ : Value, e = .returned (v0_) ∧ Kd.V k45 45 w' w.heap.size (fun k_ => (w.heap.size ≤ k_)) v0_ r ∧ Below w.heap.size w w' := by
 have hu45 := Tryz.underlying45
 have HR2 := Aside0.mk hr2; have HC2 := Aside0.mk hc2; clear hr2 hc2
 have HB := Aside0.mk (Below.refl w.heap.size w)
 have H : ((some (([(⟨(⟨#[65, 99, 99, 101, 112, 116]⟩ : ByteArray), (⟨#[42, 47, 42]⟩ : ByteArray)⟩ : S45), (⟨(⟨#[65, 99, 99, 101, 115, 115, 45, 67, 111, 110, 116, 114, 111, 108, 45, 82, 101, 113, 117, 101, 115, 116, 45, 77, 101, 116, 104, 111, 100]⟩ : ByteArray), a1⟩ : S45)] : List (S45)) : List (S45))).bind fun y105 => ((safe_Unsafe.f k l2).bind fun t108 => (if (t108.length : Int) > 0 then ((strings_Join.f t108 (⟨#[44]⟩ : ByteArray)).bind fun t111 => (if y105.length < 4398046511104 then ((some (y105 ++ [(⟨(⟨#[65, 99, 99, 101, 115, 115, 45, 67, 111, 110, 116, 114, 111, 108, 45, 82, 101, 113, 117, 101, 115, 116, 45, 72, 101, 97, 100, 101, 114, 115]⟩ : ByteArray), t111⟩ : S45)] : List (S45))).bind fun y112 => (if y112.length < 4398046511104 then ((slices_ClipH.f (y112 ++ [(⟨(⟨#[79, 114, 105, 103, 105, 110]⟩ : ByteArray), a0⟩ : S45)])).bind fun t118 => (some t118)) else (none))) else (none))) else (if y105.length < 4398046511104 then ((slices_ClipH.f (y105 ++ [(⟨(⟨#[79, 114, 105, 103, 105, 110]⟩ : ByteArray), a0⟩ : S45)])).bind fun t124 => (some t124)) else (none))))) = some r := h
 clear h
 obtain ⟨y105, hy105⟩ : ∃ y_ : List (S45), y_ = (([(⟨(⟨#[65, 99, 99, 101, 112, 116]⟩ : ByteArray), (⟨#[42, 47, 42]⟩ : ByteArray)⟩ : S45), (⟨(⟨#[65, 99, 99, 101, 115, 115, 45, 67, 111, 110, 116, 114, 111, 108, 45, 82, 101, 113, 117, 101, 115, 116, 45, 77, 101, 116, 104, 111, 100]⟩ : ByteArray), a1⟩ : S45)] : List (S45))) := ⟨_, rfl⟩
 replace H : ((safe_Unsafe.f k l2).bind fun t108 => (if (t108.length : Int) > 0 then ((strings_Join.f t108 (⟨#[44]⟩ : ByteArray)).bind fun t111 => (if y105.length < 4398046511104 then ((some (y105 ++ [(⟨(⟨#[65, 99, 99, 101, 115, 115, 45, 67, 111, 110, 116, 114, 111, 108, 45, 82, 101, 113, 117, 101, 115, 116, 45, 72, 101, 97, 100, 101, 114, 115]⟩ : ByteArray), t111⟩ : S45)] : List (S45))).bind fun y112 => (if y112.length < 4398046511104 then ((slices_ClipH.f (y112 ++ [(⟨(⟨#[79, 114, 105, 103, 105, 110]⟩ : ByteArray), a0⟩ : S45)])).bind fun t118 => (some t118)) else (none))) else (none))) else (if y105.length < 4398046511104 then ((slices_ClipH.f (y105 ++ [(⟨(⟨#[79, 114, 105, 103, 105, 110]⟩ : ByteArray), a0⟩ : S45)])).bind fun t124 => (some t124)) else (none)))) = some r := by first | (rw [hy105]; with_reducible exact H) | (have H2_ := (Option.bind_some _ _).symm.trans H; rw [hy105]; with_reducible exact H2_) | (have H2_ := (Option.bind_some _ _).symm.trans H; with_reducible exact H2_) | with_reducible exact H | (rw [hy105]; exact H) | exact H
 have Ny105 := Aside0.mk hy105; clear hy105
 replace H := Option.bind_eq_some_iff.mp H
 obtain ⟨t108, A40, H⟩ := H
 replace H : (if (t108.length : Int) > 0 then ((strings_Join.f t108 (⟨#[44]⟩ : ByteArray)).bind fun t111 => (if y105.length < 4398046511104 then ((some (y105 ++ [(⟨(⟨#[65, 99, 99, 101, 115, 115, 45, 67, 111, 110, 116, 114, 111, 108, 45, 82, 101, 113, 117, 101, 115, 116, 45, 72, 101, 97, 100, 101, 114, 115]⟩ : ByteArray), t111⟩ : S45)] : List (S45))).bind fun y112 => (if y112.length < 4398046511104 then ((slices_ClipH.f (y112 ++ [(⟨(⟨#[79, 114, 105, 103, 105, 110]⟩ : ByteArray), a0⟩ : S45)])).bind fun t118 => (some t118)) else (none))) else (none))) else (if y105.length < 4398046511104 then ((slices_ClipH.f (y105 ++ [(⟨(⟨#[79, 114, 105, 103, 105, 110]⟩ : ByteArray), a0⟩ : S45)])).bind fun t124 => (some t124)) else (none))) = some r := H
 have A4 := Aside0.mk A40; clear A40
 by_cases c5 : (t108.length : Int) > 0
 ·rw [if_pos c5] at H
  have c5b0 : decide (0 < (t108.length : Int)) = true := decide_eq_true c5
  have c5b1 : decide (0 < t108.length) = true := decide_eq_true (by omega)
  clear c5
  replace H := Option.bind_eq_some_iff.mp H
  obtain ⟨t111, A60, H⟩ := H
  replace H : (if y105.length < 4398046511104 then ((some (y105 ++ [(⟨(⟨#[65, 99, 99, 101, 115, 115, 45, 67, 111, 110, 116, 114, 111, 108, 45, 82, 101, 113, 117, 101, 115, 116, 45, 72, 101, 97, 100, 101, 114, 115]⟩ : ByteArray), t111⟩ : S45)] : List (S45))).bind fun y112 => (if y112.length < 4398046511104 then ((slices_ClipH.f (y112 ++ [(⟨(⟨#[79, 114, 105, 103, 105, 110]⟩ : ByteArray), a0⟩ : S45)])).bind fun t118 => (some t118)) else (none))) else (none)) = some r := H
  have A6 := Aside0.mk A60; clear A60
  by_cases c7 : y105.length < 4398046511104
  ·rw [if_pos c7] at H
   have LMc7 := Aside0.mk c7; clear c7
   obtain ⟨y112, hy112⟩ : ∃ y_ : List (S45), y_ = (y105 ++ [(⟨(⟨#[65, 99, 99, 101, 115, 115, 45, 67, 111, 110, 116, 114, 111, 108, 45, 82, 101, 113, 117, 101, 115, 116, 45, 72, 101, 97, 100, 101, 114, 115]⟩ : ByteArray), t111⟩ : S45)]) := ⟨_, rfl⟩
   replace H : (if y112.length < 4398046511104 then ((slices_ClipH.f (y112 ++ [(⟨(⟨#[79, 114, 105, 103, 105, 110]⟩ : ByteArray), a0⟩ : S45)])).bind fun t118 => (some t118)) else (none)) = some r := by first | (rw [hy112]; with_reducible exact H) | (have H2_ := (Option.bind_some _ _).symm.trans H; rw [hy112]; with_reducible exact H2_) | (have H2_ := (Option.bind_some _ _).symm.trans H; with_reducible exact H2_) | with_reducible exact H | (rw [hy112]; exact H) | exact H
   have Ny112 := Aside0.mk hy112; clear hy112
   by_cases c8 : y112.length < 4398046511104
   ·rw [if_pos c8] at H
    have LMc8 := Aside0.mk c8; clear c8
    obtain ⟨y115, hy115⟩ : ∃ y_ : List (S45), y_ = (y112 ++ [(⟨(⟨#[79, 114, 105, 103, 105, 110]⟩ : ByteArray), a0⟩ : S45)]) := ⟨_, rfl⟩
    replace H : ((slices_ClipH.f y115).bind fun t118 => (some t118)) = some r := by first | (rw [hy115]; with_reducible exact H) | (have H2_ := (Option.bind_some _ _).symm.trans H; rw [hy115]; with_reducible exact H2_) | (have H2_ := (Option.bind_some _ _).symm.trans H; with_reducible exact H2_) | with_reducible exact H | (rw [hy115]; exact H) | exact H
    have Ny115 := Aside0.mk hy115; clear hy115
    replace H := Option.bind_eq_some_iff.mp H
    obtain ⟨t118, A90, H⟩ := H
    replace H : (some t118) = some r := H
    have A9 := Aside0.mk A90; clear A90
    obtain rfl := Option.some.inj H
    go_enter Tryz.func11, Tryz.ntmps11
    go_wp2_with (first | ((with_reducible refine gate_dst (N := 12) rfl ?_); refine Kd.R_lit k45 _ 45 ?hg (N := 12) ?hd (xs := ([(⟨(⟨#[65, 99, 99, 101, 112, 116]⟩ : ByteArray), (⟨#[42, 47, 42]⟩ : ByteArray)⟩ : S45), (⟨(⟨#[65, 99, 99, 101, 115, 115, 45, 67, 111, 110, 116, 114, 111, 108, 45, 82, 101, 113, 117, 101, 115, 116, 45, 77, 101, 116, 104, 111, 100]⟩ : ByteArray), a1⟩ : S45)] : List (S45))) (inner := [.string (⟨#[65, 99, 99, 101, 112, 116]⟩ : ByteArray), .string (⟨#[42, 47, 42]⟩ : ByteArray), .string (⟨#[65, 99, 99, 101, 115, 115, 45, 67, 111, 110, 116, 114, 111, 108, 45, 82, 101, 113, 117, 101, 115, 116, 45, 77, 101, 116, 104, 111, 100]⟩ : ByteArray), .string a1]) (ok := fun _ => True) (okp := fun _ => True) ?hr ?hp (fun _ hk => hk) trivial (Below.refl _ _) (Nat.le_refl _) (by simp) ?_; (case hd => rfl); (case hg => rfl); (case hr => first | (go_simp; done) | (go_simp; rfl)); (case hp => exact (Reps.c2 (show Kd.M k45 _ _ _ (⟨(⟨#[65, 99, 99, 101, 112, 116]⟩ : ByteArray), (⟨#[42, 47, 42]⟩ : ByteArray)⟩ : S45) [.string (⟨#[65, 99, 99, 101, 112, 116]⟩ : ByteArray), .string (⟨#[42, 47, 42]⟩ : ByteArray)] from (k45_mkM _ _ _ (⟨(⟨#[65, 99, 99, 101, 112, 116]⟩ : ByteArray), (⟨#[42, 47, 42]⟩ : ByteArray)⟩ : S45) )) (Reps.c2 (show Kd.M k45 _ _ _ (⟨(⟨#[65, 99, 99, 101, 115, 115, 45, 67, 111, 110, 116, 114, 111, 108, 45, 82, 101, 113, 117, 101, 115, 116, 45, 77, 101, 116, 104, 111, 100]⟩ : ByteArray), a1⟩ : S45) [.string (⟨#[65, 99, 99, 101, 115, 115, 45, 67, 111, 110, 116, 114, 111, 108, 45, 82, 101, 113, 117, 101, 115, 116, 45, 77, 101, 116, 104, 111, 100]⟩ : ByteArray), .string a1] from (k45_mkM _ _ _ (⟨(⟨#[65, 99, 99, 101, 115, 115, 45, 67, 111, 110, 116, 114, 111, 108, 45, 82, 101, 113, 117, 101, 115, 116, 45, 77, 101, 116, 104, 111, 100]⟩ : ByteArray), a1⟩ : S45) )) (Reps.none _ _)))); intro v106 w10 ho11 hb hg_ hnew_; clear hg_ hnew_; (first | rw [← Ny105.out] at ho11 | (simp only [Int.reduceToNat] at ho11; rw [← Ny105.out] at ho11)); have n0_ := Aside0.mk (Kd.R_lower (Kd.R_newM (M := fun k_ => (w.heap.size ≤ k_)) ho11 (below_size z6_) (fun k_ h_ => h_)) (below_size z6_)); have n1_ := Aside0.mk (below_step z6_ hb); clear HB; have HO107 := n0_; have HB := n1_; clear n0_ n1_; clear hb ho11) | ((with_reducible refine gate_callee (f := 20) rfl ?_); refine goesL_ (some 14) rfl rfl Tryz.func20 (by kernel_rfl) rfl #[.slice A2 l2.length c2] rfl z5_ ?_; (with_reducible refine (safe_Unsafe.calls k _ _ l2 t108 _ ?gw4_ ?side1 ?side2 A4.out).mono ?_); (case gw4_ => exact z2_); (case side1 => repeat (first | exact (Kd.C_below HR2.out HB.out) | (with_reducible refine Kd.C_alloc ?_ _) | (with_reducible refine Kd.C_drewN ?_ _) | (with_reducible refine Kd.C_drew ?_))); (case side2 => exact HC2.out); rintro e w12 ⟨v109, rfl, ho0, hb⟩; refine ⟨_, rfl, ?_⟩; have n0_ := Aside0.mk (Kd.R_below z11_ hb); have n1_ := Aside0.mk (Kd.V_lower (Kd.V_mono (ok' := fun k_ => (w.heap.size ≤ k_) ∧ some k_ ≠ (v106 : Value).ownBlock) ho0 (fun k_ hk_ => ⟨(Nat.le_trans (below_size z6_) hk_), (Kd.fresh' (Kd.R_lt z11_) k_ hk_)⟩)) (below_size z6_)); have n2_ := Aside0.mk (below_step z6_ hb); clear HO107; clear HB; have HO107 := n0_; have HO110 := n1_; have HB := n2_; clear n0_ n1_ n2_; (try clear hb); (try clear hb2); (try clear hk); (try clear hi); (try clear ho0); obtain ⟨Ao13, co13, eo13⟩ := Kd.V_slice HO110.out; subst eo13) | ((with_reducible refine gate_callee (f := 23) rfl ?_); refine goesL_ (some 20) rfl rfl Tryz.func23 (by kernel_rfl) rfl #[.slice Ao13 t108.length co13, .string (⟨#[44]⟩ : ByteArray)] rfl z5_ ?_; (with_reducible refine (strings_Join.calls _ _ t108 (⟨#[44]⟩ : ByteArray) t111 _ ?gw5_ ?side1 ?side2 A6.out).mono ?_); (case gw5_ => exact z2_); (case side1 => repeat (first | exact (Kd.V_reads' HO110.out).2.2 | (with_reducible refine Kd.C_alloc ?_ _) | (with_reducible refine Kd.C_drewN ?_ _) | (with_reducible refine Kd.C_drew ?_))); (case side2 => exact (Kd.V_reads' HO110.out).2.1); rintro e w14 ⟨rfl, hb⟩; refine ⟨_, rfl, ?_⟩; have n0_ := Aside0.mk (Kd.R_below z11_ hb); have n1_ := Aside0.mk (Kd.V_below z12_ hb); have n2_ := Aside0.mk (below_step z6_ hb); clear HO107; clear HO110; clear HB; have HO107 := n0_; have HO110 := n1_; have HB := n2_; clear n0_ n1_ n2_; (try clear hb); (try clear hb2); (try clear hk); (try clear hi)) | ((with_reducible refine gate_builtin (b := .append) (xs := #[.tmp 18, .tmp 22]) rfl ?_); at_builtin; refine Kd.R_append k45 (w0 := w) w.heap.size rfl (.tmp 18) (.tmp 22) 22 45 (.agg #[(.string ⟨#[]⟩), (.string ⟨#[]⟩)]) 32 rfl Tryz.underlying22 info45 rfl (by decide) (by omega) v106 y105 (⟨(⟨#[65, 99, 99, 101, 115, 115, 45, 67, 111, 110, 116, 114, 111, 108, 45, 82, 101, 113, 117, 101, 115, 116, 45, 72, 101, 97, 100, 101, 114, 115]⟩ : ByteArray), t111⟩ : S45) [.string (⟨#[65, 99, 99, 101, 115, 115, 45, 67, 111, 110, 116, 114, 111, 108, 45, 82, 101, 113, 117, 101, 115, 116, 45, 72, 101, 97, 100, 101, 114, 115]⟩ : ByteArray), .string t111] (fun k_ => (w.heap.size ≤ k_)) (fun _ => False) rfl rfl ?aP (fun _ hk => hk.elim) ?aF ?aO ?aB ?aS ?aL ?_; (case aP => exact k45_mkM _ _ _ (⟨(⟨#[65, 99, 99, 101, 115, 115, 45, 67, 111, 110, 116, 114, 111, 108, 45, 82, 101, 113, 117, 101, 115, 116, 45, 72, 101, 97, 100, 101, 114, 115]⟩ : ByteArray), t111⟩ : S45)); (case aB => exact z6_); (case aF => exact (fun k_ hk => (Nat.le_trans (below_size z6_) hk))); (case aO => exact (by (with_reducible repeat (first | apply Kd.R_alloc | apply Kd.R_drewN | apply Kd.R_drew)); exact Kd.R_mono HO107.out (fun _ hk => hk.1))); (case aS => exact (below_size z6_)); (case aL => have := LMc7.out; omega); intro v113 w15 ho hb hg hat; rw [← Ny112.out] at ho; have n0_ := Aside0.mk (Kd.V_afterv (ok := (fun k_ => (w.heap.size ≤ k_))) z12_ hg hat); have n1_ := Aside0.mk (hb); have n2_ := Aside0.mk (ho); clear HO110; clear HB; clear HO107; have HO110 := n0_; have HB := n1_; have HO114 := n2_; clear n0_ n1_ n2_; clear ho hb hg hat) | ((with_reducible refine gate_builtin (b := .append) (xs := #[.tmp 24, .tmp 27]) rfl ?_); at_builtin; refine Kd.R_append k45 (w0 := w) w.heap.size rfl (.tmp 24) (.tmp 27) 22 45 (.agg #[(.string ⟨#[]⟩), (.string ⟨#[]⟩)]) 32 rfl Tryz.underlying22 info45 rfl (by decide) (by omega) v113 y112 (⟨(⟨#[79, 114, 105, 103, 105, 110]⟩ : ByteArray), a0⟩ : S45) [.string (⟨#[79, 114, 105, 103, 105, 110]⟩ : ByteArray), .string a0] (fun k_ => (w.heap.size ≤ k_)) (fun _ => False) rfl rfl ?aP (fun _ hk => hk.elim) ?aF ?aO ?aB ?aS ?aL ?_; (case aP => exact k45_mkM _ _ _ (⟨(⟨#[79, 114, 105, 103, 105, 110]⟩ : ByteArray), a0⟩ : S45)); (case aB => exact z6_); (case aF => exact (fun k_ hk => (Nat.le_trans (below_size z6_) hk))); (case aO => exact (by (with_reducible repeat (first | apply Kd.R_alloc | apply Kd.R_drewN | apply Kd.R_drew)); exact HO114.out)); (case aS => exact (below_size z6_)); (case aL => have := LMc8.out; omega); intro v116 w16 ho hb hg hat; rw [← Ny115.out] at ho; have n0_ := Aside0.mk (Kd.V_afterv (ok := (fun k_ => (w.heap.size ≤ k_))) z12_ hg hat); have n1_ := Aside0.mk (hb); have n2_ := Aside0.mk (ho); clear HO110; clear HB; clear HO114; have HO110 := n0_; have HB := n1_; have HO117 := n2_; clear n0_ n1_ n2_; clear ho hb hg hat; obtain ⟨Ao17, co17, eo17⟩ := Kd.R_slice HO117.out; subst eo17) | ((with_reducible refine gate_callee (f := 24) rfl ?_); refine goesL_ (some 29) rfl rfl Tryz.func24 (by kernel_rfl) rfl #[.slice Ao17 y115.length co17] rfl z5_ ?_; (with_reducible refine (slices_ClipH.calls (fun k_ => some k_ = (.slice Ao17 y115.length co17 : Value).ownBlock) _ _ y115 t118 _ ?gw6_ ?side1 A9.out).mono ?_); (case gw6_ => exact z2_); (case side1 => exact Kd.R_V (Kd.R_tight rfl (HO117.out))); rintro e w18 ⟨v119, rfl, ho0, hb⟩; refine ⟨_, rfl, ?_⟩; have n0_ := Aside0.mk (Kd.V_below z12_ hb); have n1_ := Aside0.mk (Kd.R_below (by (with_reducible repeat (first | apply Kd.R_alloc | apply Kd.R_drewN | apply Kd.R_drew)); exact HO117.out) hb); have n2_ := Aside0.mk (Kd.V_lower (Kd.V_mono (ok' := fun k_ => (w.heap.size ≤ k_)) ho0 (fun k_ hk_ => Or.elim hk_ (fun hs_ => ((HO117.out).1 k_ hs_.symm)) (fun hn_ => (Nat.le_trans (below_size z6_) hn_)))) (below_size z6_)); have n3_ := Aside0.mk (below_step z6_ hb); clear HO110; clear HO117; clear HB; have HO110 := n0_; have HO117 := n1_; have HO120 := n2_; have HB := n3_; clear n0_ n1_ n2_ n3_; (try clear hb); (try clear hb2); (try clear hk); (try clear hi); (try clear ho0)))
    go_ret
    exact ⟨_, z7_, z13_, z6_⟩
   ·rw [if_neg c8] at H
    exact absurd H (by simp)
  ·rw [if_neg c7] at H
   exact absurd H (by simp)
 ·rw [if_neg c5] at H
  have c5b0 : decide (0 < (t108.length : Int)) = false := decide_eq_false c5
  have c5b1 : decide (0 < t108.length) = false := decide_eq_false (by omega)
  clear c5
  by_cases c19 : y105.length < 4398046511104
  ·rw [if_pos c19] at H
   have LMc19 := Aside0.mk c19; clear c19
   obtain ⟨y121, hy121⟩ : ∃ y_ : List (S45), y_ = (y105 ++ [(⟨(⟨#[79, 114, 105, 103, 105, 110]⟩ : ByteArray), a0⟩ : S45)]) := ⟨_, rfl⟩
   replace H : ((slices_ClipH.f y121).bind fun t124 => (some t124)) = some r := by first | (rw [hy121]; with_reducible exact H) | (have H2_ := (Option.bind_some _ _).symm.trans H; rw [hy121]; with_reducible exact H2_) | (have H2_ := (Option.bind_some _ _).symm.trans H; with_reducible exact H2_) | with_reducible exact H | (rw [hy121]; exact H) | exact H
   have Ny121 := Aside0.mk hy121; clear hy121
   replace H := Option.bind_eq_some_iff.mp H
   obtain ⟨t124, A200, H⟩ := H
   replace H : (some t124) = some r := H
   have A20 := Aside0.mk A200; clear A200
   obtain rfl := Option.some.inj H
   go_enter Tryz.func11, Tryz.ntmps11
   go_wp2_with (first | ((with_reducible refine gate_dst (N := 12) rfl ?_); refine Kd.R_lit k45 _ 45 ?hg (N := 12) ?hd (xs := ([(⟨(⟨#[65, 99, 99, 101, 112, 116]⟩ : ByteArray), (⟨#[42, 47, 42]⟩ : ByteArray)⟩ : S45), (⟨(⟨#[65, 99, 99, 101, 115, 115, 45, 67, 111, 110, 116, 114, 111, 108, 45, 82, 101, 113, 117, 101, 115, 116, 45, 77, 101, 116, 104, 111, 100]⟩ : ByteArray), a1⟩ : S45)] : List (S45))) (inner := [.string (⟨#[65, 99, 99, 101, 112, 116]⟩ : ByteArray), .string (⟨#[42, 47, 42]⟩ : ByteArray), .string (⟨#[65, 99, 99, 101, 115, 115, 45, 67, 111, 110, 116, 114, 111, 108, 45, 82, 101, 113, 117, 101, 115, 116, 45, 77, 101, 116, 104, 111, 100]⟩ : ByteArray), .string a1]) (ok := fun _ => True) (okp := fun _ => True) ?hr ?hp (fun _ hk => hk) trivial (Below.refl _ _) (Nat.le_refl _) (by simp) ?_; (case hd => rfl); (case hg => rfl); (case hr => first | (go_simp; done) | (go_simp; rfl)); (case hp => exact (Reps.c2 (show Kd.M k45 _ _ _ (⟨(⟨#[65, 99, 99, 101, 112, 116]⟩ : ByteArray), (⟨#[42, 47, 42]⟩ : ByteArray)⟩ : S45) [.string (⟨#[65, 99, 99, 101, 112, 116]⟩ : ByteArray), .string (⟨#[42, 47, 42]⟩ : ByteArray)] from (k45_mkM _ _ _ (⟨(⟨#[65, 99, 99, 101, 112, 116]⟩ : ByteArray), (⟨#[42, 47, 42]⟩ : ByteArray)⟩ : S45) )) (Reps.c2 (show Kd.M k45 _ _ _ (⟨(⟨#[65, 99, 99, 101, 115, 115, 45, 67, 111, 110, 116, 114, 111, 108, 45, 82, 101, 113, 117, 101, 115, 116, 45, 77, 101, 116, 104, 111, 100]⟩ : ByteArray), a1⟩ : S45) [.string (⟨#[65, 99, 99, 101, 115, 115, 45, 67, 111, 110, 116, 114, 111, 108, 45, 82, 101, 113, 117, 101, 115, 116, 45, 77, 101, 116, 104, 111, 100]⟩ : ByteArray), .string a1] from (k45_mkM _ _ _ (⟨(⟨#[65, 99, 99, 101, 115, 115, 45, 67, 111, 110, 116, 114, 111, 108, 45, 82, 101, 113, 117, 101, 115, 116, 45, 77, 101, 116, 104, 111, 100]⟩ : ByteArray), a1⟩ : S45) )) (Reps.none _ _)))); intro v106 w21 ho22 hb hg_ hnew_; clear hg_ hnew_; (first | rw [← Ny105.out] at ho22 | (simp only [Int.reduceToNat] at ho22; rw [← Ny105.out] at ho22)); have n0_ := Aside0.mk (Kd.R_lower (Kd.R_newM (M := fun k_ => (w.heap.size ≤ k_)) ho22 (below_size z6_) (fun k_ h_ => h_)) (below_size z6_)); have n1_ := Aside0.mk (below_step z6_ hb); clear HB; have HO107 := n0_; have HB := n1_; clear n0_ n1_; clear hb ho22) | ((with_reducible refine gate_callee (f := 20) rfl ?_); refine goesL_ (some 14) rfl rfl Tryz.func20 (by kernel_rfl) rfl #[.slice A2 l2.length c2] rfl z5_ ?_; (with_reducible refine (safe_Unsafe.calls k _ _ l2 t108 _ ?gw7_ ?side1 ?side2 A4.out).mono ?_); (case gw7_ => exact z2_); (case side1 => repeat (first | exact (Kd.C_below HR2.out HB.out) | (with_reducible refine Kd.C_alloc ?_ _) | (with_reducible refine Kd.C_drewN ?_ _) | (with_reducible refine Kd.C_drew ?_))); (case side2 => exact HC2.out); rintro e w23 ⟨v109, rfl, ho0, hb⟩; refine ⟨_, rfl, ?_⟩; have n0_ := Aside0.mk (Kd.R_below z11_ hb); have n1_ := Aside0.mk (Kd.V_lower (Kd.V_mono (ok' := fun k_ => (w.heap.size ≤ k_) ∧ some k_ ≠ (v106 : Value).ownBlock) ho0 (fun k_ hk_ => ⟨(Nat.le_trans (below_size z6_) hk_), (Kd.fresh' (Kd.R_lt z11_) k_ hk_)⟩)) (below_size z6_)); have n2_ := Aside0.mk (below_step z6_ hb); clear HO107; clear HB; have HO107 := n0_; have HO110 := n1_; have HB := n2_; clear n0_ n1_ n2_; (try clear hb); (try clear hb2); (try clear hk); (try clear hi); (try clear ho0); obtain ⟨Ao24, co24, eo24⟩ := Kd.V_slice HO110.out; subst eo24) | ((with_reducible refine gate_builtin (b := .append) (xs := #[.tmp 24, .tmp 27]) rfl ?_); at_builtin; refine Kd.R_append k45 (w0 := w) w.heap.size rfl (.tmp 24) (.tmp 27) 22 45 (.agg #[(.string ⟨#[]⟩), (.string ⟨#[]⟩)]) 32 rfl Tryz.underlying22 info45 rfl (by decide) (by omega) v106 y105 (⟨(⟨#[79, 114, 105, 103, 105, 110]⟩ : ByteArray), a0⟩ : S45) [.string (⟨#[79, 114, 105, 103, 105, 110]⟩ : ByteArray), .string a0] (fun k_ => (w.heap.size ≤ k_)) (fun _ => False) rfl rfl ?aP (fun _ hk => hk.elim) ?aF ?aO ?aB ?aS ?aL ?_; (case aP => exact k45_mkM _ _ _ (⟨(⟨#[79, 114, 105, 103, 105, 110]⟩ : ByteArray), a0⟩ : S45)); (case aB => exact z6_); (case aF => exact (fun k_ hk => (Nat.le_trans (below_size z6_) hk))); (case aO => exact (by (with_reducible repeat (first | apply Kd.R_alloc | apply Kd.R_drewN | apply Kd.R_drew)); exact Kd.R_mono HO107.out (fun _ hk => hk.1))); (case aS => exact (below_size z6_)); (case aL => have := LMc19.out; omega); intro v122 w25 ho hb hg hat; rw [← Ny121.out] at ho; have n0_ := Aside0.mk (Kd.V_afterv (ok := (fun k_ => (w.heap.size ≤ k_))) z12_ hg hat); have n1_ := Aside0.mk (hb); have n2_ := Aside0.mk (ho); clear HO110; clear HB; clear HO107; have HO110 := n0_; have HB := n1_; have HO123 := n2_; clear n0_ n1_ n2_; clear ho hb hg hat; obtain ⟨Ao26, co26, eo26⟩ := Kd.R_slice HO123.out; subst eo26) | ((with_reducible refine gate_callee (f := 24) rfl ?_); refine goesL_ (some 29) rfl rfl Tryz.func24 (by kernel_rfl) rfl #[.slice Ao26 y121.length co26] rfl z5_ ?_; (with_reducible refine (slices_ClipH.calls (fun k_ => some k_ = (.slice Ao26 y121.length co26 : Value).ownBlock) _ _ y121 t124 _ ?gw8_ ?side1 A20.out).mono ?_); (case gw8_ => exact z2_); (case side1 => exact Kd.R_V (Kd.R_tight rfl (HO123.out))); rintro e w27 ⟨v125, rfl, ho0, hb⟩; refine ⟨_, rfl, ?_⟩; have n0_ := Aside0.mk (Kd.V_below z12_ hb); have n1_ := Aside0.mk (Kd.R_below (by (with_reducible repeat (first | apply Kd.R_alloc | apply Kd.R_drewN | apply Kd.R_drew)); exact HO123.out) hb); have n2_ := Aside0.mk (Kd.V_lower (Kd.V_mono (ok' := fun k_ => (w.heap.size ≤ k_)) ho0 (fun k_ hk_ => Or.elim hk_ (fun hs_ => ((HO123.out).1 k_ hs_.symm)) (fun hn_ => (Nat.le_trans (below_size z6_) hn_)))) (below_size z6_)); have n3_ := Aside0.mk (below_step z6_ hb); clear HO110; clear HO123; clear HB; have HO110 := n0_; have HO123 := n1_; have HO126 := n2_; have HB := n3_; clear n0_ n1_ n2_ n3_; (try clear hb); (try clear hb2); (try clear hk); (try clear hi); (try clear ho0)))
   go_ret
   exact ⟨_, z7_, by (with_reducible repeat (first | apply Kd.V_alloc | apply Kd.V_drewN | apply Kd.V_drew)); exact HO126.out, z6_⟩
  ·rw [if_neg c19] at H
   exact absurd H (by simp)

def pursuivantref14_Needs.l0 : Nat → ByteArray → List (S45) → Int → Option (Bool)
 | 0, _, _, _ => none
 | k + 1, x0, x1, x5 => if x5 < (x1.length : Int) then (if 0 ≤ x5 then ((pursuivantref10_Header.f k ((rd_T45 x1 x5).f0) ((rd_T45 x1 x5).f1)).bind fun t128 => (if t128 = true then (pursuivantref14_Needs.l0 k x0 x1 (wrap64 (x5 + 1))) else (some true))) else (none)) else ((pursuivantref10_Simple.f k x0).bind fun t129 => (some (!t129)))
def pursuivantref14_Needs.f (k : Nat) (a0 : ByteArray) (l1 : List (S45)) : Option (Bool) := pursuivantref14_Needs.l0 k a0 l1 0
set_option maxHeartbeats 8000000 in
set_option maxRecDepth 100000 in
theorem pursuivantref14_Needs.calls (k : Nat) (a0 : ByteArray) (A1 : Option Addr) (c1 : Nat) (l1 : List (S45)) (r : Bool) (w : World) (hG_ : GW w) (hr1 : Kd.C k45 w A1 l1.length l1) (hc1 : l1.length ≤ c1) (h : pursuivantref14_Needs.f k a0 l1 = some r) :
  Calls Tryz.prog 9 #[.string a0, .slice A1 l1.length c1] w fun e w' => e = .returned (.bool r) ∧ Below w.heap.size w w' := by
 have hu45 := Tryz.underlying45
 have HR1 := Aside0.mk hr1; have HC1 := Aside0.mk hc1; clear hr1 hc1
 have HB := Aside0.mk (Below.refl w.heap.size w)
 have H : (pursuivantref14_Needs.l0 k a0 l1 0) = some r := h
 clear h
 have H' := Aside0.mk H
 clear H
 go_enter Tryz.func9, Tryz.ntmps9
 go_wp2
 go_loopg [5] k (fun kq v5 w' => ∃ (x5_1 : Int), v5 = .int .i64 x5_1 ∧ Aside0 (pursuivantref14_Needs.l0 kq a0 l1 x5_1 = some r) ∧ Aside0 (kq ≤ k) ∧ Aside0 (Below w.heap.size w w'))
 case atStart => exact ⟨(0), z21_, H', ⟨Nat.le_refl _⟩, ⟨z6_⟩⟩
 case round =>
  clear H'; (try clear c1)
  obtain ⟨x5_1, rfl, HA, HK1, HB⟩ := hrel
  cases gk with
  | zero => exact absurd HA.out (by simp [pursuivantref14_Needs.l0])
  | succ k1 =>
   have H := HA.out
   clear HA
   simp only [pursuivantref14_Needs.l0] at H
   by_cases c3 : x5_1 < (l1.length : Int)
   ·rw [if_pos c3] at H
    have c3b0 : decide (x5_1 < (l1.length : Int)) = true := decide_eq_true c3; clear c3
    by_cases c4 : 0 ≤ x5_1
    ·rw [if_pos c4] at H
     have c4b0 : decide (0 ≤ x5_1) = true := decide_eq_true c4; clear c4
     replace H := Option.bind_eq_some_iff.mp H
     obtain ⟨t128, A50, H⟩ := H
     replace H : (if t128 = true then (pursuivantref14_Needs.l0 k1 a0 l1 (wrap64 (x5_1 + 1))) else (some true)) = some r := H
     have A5 := Aside0.mk A50; clear A50
     by_cases c6 : t128 = true
     ·subst c6
      have H1 : (pursuivantref14_Needs.l0 k1 a0 l1 (wrap64 (x5_1 + 1))) = some r := by rw [if_pos rfl] at H; exact H
      clear H
      have H := H1
      clear H1
      have H' := Aside0.mk H
      clear H
      have p127 : 0 ≤ (x5_1 : Int) := of_decide_eq_true z24_
      have q127 : x5_1 < (l1.length : Int) := of_decide_eq_true z24_
      obtain ⟨ad127, e127, hx127_0, hx127_1⟩ := at_T45 HR1.out x5_1 p127 q127
      cases e127
      replace hx127_0 := (HB.out.cell (World.block_lt_of_cell? w _ hx127_0)).trans hx127_0
      replace hx127_1 := (HB.out.cell (World.block_lt_of_cell? w _ hx127_1)).trans hx127_1
      replace p127 := eq_true p127
      replace q127 := eq_true q127
      go_wp2_with (first | ((with_reducible refine gate_callee (f := 21) rfl ?_); refine goesL_ (some 16) rfl rfl Tryz.func21 (by kernel_rfl) rfl #[.agg #[.string ((rd_T45 l1 x5_1).f0), .string ((rd_T45 l1 x5_1).f1)]] rfl z5_ ?_; (with_reducible refine (pursuivantref10_Header.calls k1 ((rd_T45 l1 x5_1).f0) ((rd_T45 l1 x5_1).f1) true _ ?gw9_ A5.out).mono ?_); (case gw9_ => exact z2_); rintro e w7 ⟨rfl, hb⟩; refine ⟨_, rfl, ?_⟩; have n0_ := Aside0.mk (below_step z6_ hb); clear HB; have HB := n0_; clear n0_; (try clear hb); (try clear hb2); (try clear hk); (try clear hi)))
      go_roundg k1
      case measure => have := HK1.out; omega
      case rel => exact ⟨(wrap64 (x5_1 + 1)), z21_, H', ⟨z26_⟩, ⟨z6_⟩⟩
     ·replace c6 := Bool.eq_false_iff.mpr c6
      subst c6
      have H1 : (some true) = some r := by rw [if_neg (show ¬ (false = true) by decide)] at H; exact H
      clear H
      have H := H1
      clear H1
      obtain rfl := Option.some.inj H
      have p127 : 0 ≤ (x5_1 : Int) := of_decide_eq_true z24_
      have q127 : x5_1 < (l1.length : Int) := of_decide_eq_true z24_
      obtain ⟨ad127, e127, hx127_0, hx127_1⟩ := at_T45 HR1.out x5_1 p127 q127
      cases e127
      replace hx127_0 := (HB.out.cell (World.block_lt_of_cell? w _ hx127_0)).trans hx127_0
      replace hx127_1 := (HB.out.cell (World.block_lt_of_cell? w _ hx127_1)).trans hx127_1
      replace p127 := eq_true p127
      replace q127 := eq_true q127
      go_wp2_with (first | ((with_reducible refine gate_callee (f := 21) rfl ?_); refine goesL_ (some 16) rfl rfl Tryz.func21 (by kernel_rfl) rfl #[.agg #[.string ((rd_T45 l1 x5_1).f0), .string ((rd_T45 l1 x5_1).f1)]] rfl z5_ ?_; (with_reducible refine (pursuivantref10_Header.calls k1 ((rd_T45 l1 x5_1).f0) ((rd_T45 l1 x5_1).f1) false _ ?gw10_ A5.out).mono ?_); (case gw10_ => exact z2_); rintro e w8 ⟨rfl, hb⟩; refine ⟨_, rfl, ?_⟩; have n0_ := Aside0.mk (below_step z6_ hb); clear HB; have HB := n0_; clear n0_; (try clear hb); (try clear hb2); (try clear hk); (try clear hi)))
      go_ret
      exact ⟨z7_, z6_⟩
    ·rw [if_neg c4] at H
     exact absurd H (by simp)
   ·rw [if_neg c3] at H
    have c3b0 : decide (x5_1 < (l1.length : Int)) = false := decide_eq_false c3; clear c3
    replace H := Option.bind_eq_some_iff.mp H
    obtain ⟨t129, A90, H⟩ := H
    replace H : (some (!t129)) = some r := H
    have A9 := Aside0.mk A90; clear A90
    obtain rfl := Option.some.inj H
    go_wp2_with (first | ((with_reducible refine gate_callee (f := 22) rfl ?_); refine goesL_ (some 19) rfl rfl Tryz.func22 (by kernel_rfl) rfl #[.string a0] rfl z5_ ?_; (with_reducible refine (pursuivantref10_Simple.calls k1 a0 t129 _ ?gw11_ A9.out).mono ?_); (case gw11_ => exact z2_); rintro e w10 ⟨rfl, hb⟩; refine ⟨_, rfl, ?_⟩; have n0_ := Aside0.mk (below_step z6_ hb); clear HB; have HB := n0_; clear n0_; (try clear hb); (try clear hb2); (try clear hk); (try clear hi)))
    go_ret
    exact ⟨z7_, z6_⟩

def pursuivantref14_Ask.l0 : Nat → ByteArray → List (S45) → List ByteArray → ByteArray → Int → Option ((List (S45)))
 | 0, _, _, _, _, _ => none
 | k + 1, x0, x7, x8, x9, x10 => if x10 < (x8.length : Int) then (if x10 > 0 then (if x9.size + 1 ≤ 9223372036854775807 then (if 0 ≤ x10 then (if (x9 ++ (⟨#[44]⟩ : ByteArray)).size + (rdOf ByteArray.empty x8 x10).size ≤ 9223372036854775807 then (pursuivantref14_Ask.l0 k x0 x7 x8 ((x9 ++ (⟨#[44]⟩ : ByteArray)) ++ (rdOf ByteArray.empty x8 x10)) (wrap64 (x10 + 1))) else (none)) else (none)) else (none)) else (if 0 ≤ x10 then (if x9.size + (rdOf ByteArray.empty x8 x10).size ≤ 9223372036854775807 then (pursuivantref14_Ask.l0 k x0 x7 x8 (x9 ++ (rdOf ByteArray.empty x8 x10)) (wrap64 (x10 + 1))) else (none)) else (none))) else (if (x8.length : Int) > 0 then (if x7.length < 4398046511104 then ((some (x7 ++ [(⟨(⟨#[65, 99, 99, 101, 115, 115, 45, 67, 111, 110, 116, 114, 111, 108, 45, 82, 101, 113, 117, 101, 115, 116, 45, 72, 101, 97, 100, 101, 114, 115]⟩ : ByteArray), x9⟩ : S45)] : List (S45))).bind fun y141 => (if y141.length < 4398046511104 then (some (y141 ++ [(⟨(⟨#[79, 114, 105, 103, 105, 110]⟩ : ByteArray), x0⟩ : S45)])) else (none))) else (none)) else (if x7.length < 4398046511104 then (some (x7 ++ [(⟨(⟨#[79, 114, 105, 103, 105, 110]⟩ : ByteArray), x0⟩ : S45)])) else (none)))
def pursuivantref14_Ask.f (k : Nat) (a0 a1 : ByteArray) (l2 : List (S45)) : Option ((List (S45))) := (some (([(⟨(⟨#[65, 99, 99, 101, 112, 116]⟩ : ByteArray), (⟨#[42, 47, 42]⟩ : ByteArray)⟩ : S45)] : List (S45)) : List (S45))).bind fun y130 => (if y130.length < 4398046511104 then ((pursuivantref10_Unsafe.f k l2).bind fun t136 => (pursuivantref14_Ask.l0 k a0 (y130 ++ [(⟨(⟨#[65, 99, 99, 101, 115, 115, 45, 67, 111, 110, 116, 114, 111, 108, 45, 82, 101, 113, 117, 101, 115, 116, 45, 77, 101, 116, 104, 111, 100]⟩ : ByteArray), a1⟩ : S45)]) t136 (⟨#[]⟩ : ByteArray) 0)) else (none))
set_option maxHeartbeats 8000000 in
set_option maxRecDepth 100000 in
theorem pursuivantref14_Ask.calls (k : Nat) (a0 a1 : ByteArray) (A2 : Option Addr) (c2 : Nat) (l2 : List (S45)) (r : List (S45)) (w : World) (hG_ : GW w) (hr2 : Kd.C k45 w A2 l2.length l2) (hc2 : l2.length ≤ c2) (h : pursuivantref14_Ask.f k a0 a1 l2 = some r) :
  Calls Tryz.prog 12 #[.string a0, .string a1, .slice A2 l2.length c2] w fun e w' => ∃ v0_ : Value, e = .returned (v0_) ∧ Kd.R k45 45 w' w.heap.size (fun _ => True) v0_ r ∧ Below w.heap.size w w' := by
 have hu45 := Tryz.underlying45
 have HR2 := Aside0.mk hr2; have HC2 := Aside0.mk hc2; clear hr2 hc2
 have HB := Aside0.mk (Below.refl w.heap.size w)
 have H : ((some (([(⟨(⟨#[65, 99, 99, 101, 112, 116]⟩ : ByteArray), (⟨#[42, 47, 42]⟩ : ByteArray)⟩ : S45)] : List (S45)) : List (S45))).bind fun y130 => (if y130.length < 4398046511104 then ((pursuivantref10_Unsafe.f k l2).bind fun t136 => (pursuivantref14_Ask.l0 k a0 (y130 ++ [(⟨(⟨#[65, 99, 99, 101, 115, 115, 45, 67, 111, 110, 116, 114, 111, 108, 45, 82, 101, 113, 117, 101, 115, 116, 45, 77, 101, 116, 104, 111, 100]⟩ : ByteArray), a1⟩ : S45)]) t136 (⟨#[]⟩ : ByteArray) 0)) else (none))) = some r := h
 clear h
 obtain ⟨y130, hy130⟩ : ∃ y_ : List (S45), y_ = (([(⟨(⟨#[65, 99, 99, 101, 112, 116]⟩ : ByteArray), (⟨#[42, 47, 42]⟩ : ByteArray)⟩ : S45)] : List (S45))) := ⟨_, rfl⟩
 replace H : (if y130.length < 4398046511104 then ((pursuivantref10_Unsafe.f k l2).bind fun t136 => (pursuivantref14_Ask.l0 k a0 (y130 ++ [(⟨(⟨#[65, 99, 99, 101, 115, 115, 45, 67, 111, 110, 116, 114, 111, 108, 45, 82, 101, 113, 117, 101, 115, 116, 45, 77, 101, 116, 104, 111, 100]⟩ : ByteArray), a1⟩ : S45)]) t136 (⟨#[]⟩ : ByteArray) 0)) else (none)) = some r := by first | (rw [hy130]; with_reducible exact H) | (have H2_ := (Option.bind_some _ _).symm.trans H; rw [hy130]; with_reducible exact H2_) | (have H2_ := (Option.bind_some _ _).symm.trans H; with_reducible exact H2_) | with_reducible exact H | (rw [hy130]; exact H) | exact H
 have Ny130 := Aside0.mk hy130; clear hy130
 by_cases c4 : y130.length < 4398046511104
 ·rw [if_pos c4] at H
  have LMc4 := Aside0.mk c4; clear c4
  obtain ⟨y133, hy133⟩ : ∃ y_ : List (S45), y_ = (y130 ++ [(⟨(⟨#[65, 99, 99, 101, 115, 115, 45, 67, 111, 110, 116, 114, 111, 108, 45, 82, 101, 113, 117, 101, 115, 116, 45, 77, 101, 116, 104, 111, 100]⟩ : ByteArray), a1⟩ : S45)]) := ⟨_, rfl⟩
  replace H : ((pursuivantref10_Unsafe.f k l2).bind fun t136 => (pursuivantref14_Ask.l0 k a0 y133 t136 (⟨#[]⟩ : ByteArray) 0)) = some r := by first | (rw [hy133]; with_reducible exact H) | (have H2_ := (Option.bind_some _ _).symm.trans H; rw [hy133]; with_reducible exact H2_) | (have H2_ := (Option.bind_some _ _).symm.trans H; with_reducible exact H2_) | with_reducible exact H | (rw [hy133]; exact H) | exact H
  have Ny133 := Aside0.mk hy133; clear hy133
  replace H := Option.bind_eq_some_iff.mp H
  obtain ⟨t136, A50, H⟩ := H
  replace H : (pursuivantref14_Ask.l0 k a0 y133 t136 (⟨#[]⟩ : ByteArray) 0) = some r := H
  have A5 := Aside0.mk A50; clear A50
  have H' := Aside0.mk H
  clear H
  go_enter Tryz.func12, Tryz.ntmps12
  go_wp2_with (first | ((with_reducible refine gate_dst (N := 12) rfl ?_); refine Kd.R_lit k45 _ 45 ?hg (N := 12) ?hd (xs := ([(⟨(⟨#[65, 99, 99, 101, 112, 116]⟩ : ByteArray), (⟨#[42, 47, 42]⟩ : ByteArray)⟩ : S45)] : List (S45))) (inner := [.string (⟨#[65, 99, 99, 101, 112, 116]⟩ : ByteArray), .string (⟨#[42, 47, 42]⟩ : ByteArray)]) (ok := fun _ => True) (okp := fun _ => True) ?hr ?hp (fun _ hk => hk) trivial (Below.refl _ _) (Nat.le_refl _) (by simp) ?_; (case hd => rfl); (case hg => rfl); (case hr => first | (go_simp; done) | (go_simp; rfl)); (case hp => exact (Reps.c2 (show Kd.M k45 _ _ _ (⟨(⟨#[65, 99, 99, 101, 112, 116]⟩ : ByteArray), (⟨#[42, 47, 42]⟩ : ByteArray)⟩ : S45) [.string (⟨#[65, 99, 99, 101, 112, 116]⟩ : ByteArray), .string (⟨#[42, 47, 42]⟩ : ByteArray)] from (k45_mkM _ _ _ (⟨(⟨#[65, 99, 99, 101, 112, 116]⟩ : ByteArray), (⟨#[42, 47, 42]⟩ : ByteArray)⟩ : S45) )) (Reps.none _ _))); intro v131 w6 ho7 hb hg_ hnew_; clear hg_ hnew_; (first | rw [← Ny130.out] at ho7 | (simp only [Int.reduceToNat] at ho7; rw [← Ny130.out] at ho7)); have n0_ := Aside0.mk (Kd.R_lower ho7 (below_size z6_)); have n1_ := Aside0.mk (below_step z6_ hb); clear HB; have HO132 := n0_; have HB := n1_; clear n0_ n1_; clear hb ho7) | ((with_reducible refine gate_builtin (b := .append) (xs := #[.tmp 13, .tmp 16]) rfl ?_); at_builtin; refine Kd.R_append k45 (w0 := w) w.heap.size rfl (.tmp 13) (.tmp 16) 22 45 (.agg #[(.string ⟨#[]⟩), (.string ⟨#[]⟩)]) 32 rfl Tryz.underlying22 info45 rfl (by decide) (by omega) v131 y130 (⟨(⟨#[65, 99, 99, 101, 115, 115, 45, 67, 111, 110, 116, 114, 111, 108, 45, 82, 101, 113, 117, 101, 115, 116, 45, 77, 101, 116, 104, 111, 100]⟩ : ByteArray), a1⟩ : S45) [.string (⟨#[65, 99, 99, 101, 115, 115, 45, 67, 111, 110, 116, 114, 111, 108, 45, 82, 101, 113, 117, 101, 115, 116, 45, 77, 101, 116, 104, 111, 100]⟩ : ByteArray), .string a1] (fun _ => True) (fun _ => False) rfl rfl ?aP (fun _ hk => hk.elim) ?aF ?aO ?aB ?aS ?aL ?_; (case aP => exact k45_mkM _ _ _ (⟨(⟨#[65, 99, 99, 101, 115, 115, 45, 67, 111, 110, 116, 114, 111, 108, 45, 82, 101, 113, 117, 101, 115, 116, 45, 77, 101, 116, 104, 111, 100]⟩ : ByteArray), a1⟩ : S45)); (case aB => exact z6_); (case aF => exact (fun _ _ => trivial)); (case aO => exact (by (with_reducible repeat (first | apply Kd.R_alloc | apply Kd.R_drewN | apply Kd.R_drew)); exact HO132.out)); (case aS => exact (below_size z6_)); (case aL => have := LMc4.out; omega); intro v134 w8 ho hb hg hat; rw [← Ny133.out] at ho; have n0_ := Aside0.mk (hb); have n1_ := Aside0.mk (ho); clear HB; clear HO132; have HB := n0_; have HO135 := n1_; clear n0_ n1_; clear ho hb hg hat) | ((with_reducible refine gate_callee (f := 18) rfl ?_); refine goesL_ (some 19) rfl rfl Tryz.func18 (by kernel_rfl) rfl #[.slice A2 l2.length c2] rfl z5_ ?_; (with_reducible refine (pursuivantref10_Unsafe.calls k _ _ l2 t136 _ ?gw12_ ?side1 ?side2 A5.out).mono ?_); (case gw12_ => exact z2_); (case side1 => repeat (first | exact (Kd.C_below HR2.out HB.out) | (with_reducible refine Kd.C_alloc ?_ _) | (with_reducible refine Kd.C_drewN ?_ _) | (with_reducible refine Kd.C_drew ?_))); (case side2 => exact HC2.out); rintro e w9 ⟨v137, rfl, ho0, hb⟩; refine ⟨_, rfl, ?_⟩; have n0_ := Aside0.mk (Kd.R_below z14_ hb); have n1_ := Aside0.mk (Kd.V_lower (Kd.V_mono (ok' := fun k_ => some k_ ≠ (v134 : Value).ownBlock) ho0 (fun k_ hk_ => (Kd.fresh' (Kd.R_lt z14_) k_ hk_))) (below_size z6_)); have n2_ := Aside0.mk (below_step z6_ hb); clear HO135; clear HB; have HO135 := n0_; have HO138 := n1_; have HB := n2_; clear n0_ n1_ n2_; (try clear hb); (try clear hb2); (try clear hk); (try clear hi); (try clear ho0)))
  go_loopg [9, 10] k (fun kq v9 v10 w' => ∃ (x9_1 : ByteArray) (x10_1 : Int), v9 = .string x9_1 ∧ v10 = .int .i64 x10_1 ∧ Aside0 (pursuivantref14_Ask.l0 kq a0 y133 t136 x9_1 x10_1 = some r) ∧ Aside0 (kq ≤ k) ∧ Aside0 (Kd.R k45 45 w' w.heap.size (fun _ => True) v134 y133) ∧ Aside0 (Kd.V Kd.string 9 w' w.heap.size (fun k_ => some k_ ≠ (v134 : Value).ownBlock) v137 t136) ∧ Aside0 (Below w.heap.size w w'))
  case atStart => exact ⟨((⟨#[]⟩ : ByteArray)), (0), z21_, z21_, H', ⟨Nat.le_refl _⟩, ⟨z14_⟩, ⟨by (with_reducible repeat (first | apply Kd.V_alloc | apply Kd.V_drewN | apply Kd.V_drew)); exact HO138.out⟩, ⟨z6_⟩⟩
  case round =>
   clear H'; (try clear c2); (try clear c4)
   obtain ⟨x9_1, x10_1, rfl, rfl, HA, HK1, HO_7, HO_8, HB⟩ := hrel
   cases gk with
   | zero => exact absurd HA.out (by simp [pursuivantref14_Ask.l0])
   | succ k1 =>
    have H := HA.out
    clear HA
    simp only [pursuivantref14_Ask.l0] at H
    by_cases c10 : x10_1 < (t136.length : Int)
    ·rw [if_pos c10] at H
     have c10b0 : decide (x10_1 < (t136.length : Int)) = true := decide_eq_true c10; clear c10
     by_cases c11 : x10_1 > 0
     ·rw [if_pos c11] at H
      have c11b0 : decide (0 < x10_1) = true := decide_eq_true c11; clear c11
      by_cases c12 : x9_1.size + 1 ≤ 9223372036854775807
      ·rw [if_pos c12] at H
       have c12b0 := eq_true c12; have c12b1 : decide (x9_1.size + 1 ≤ 9223372036854775807) = true := decide_eq_true c12
       try have c12b2 : (9223372036854775807 < x9_1.size + 1) = False := eq_false (Nat.not_lt.2 c12)
       try have c12c0 : (9223372036854775807 ≤ x9_1.size) = False := eq_false (by omega)
       try have c12c1 : (x9_1.size < 9223372036854775807) = True := eq_true (by omega)
       by_cases c13 : 0 ≤ x10_1
       ·rw [if_pos c13] at H
        have c13b0 : decide (0 ≤ x10_1) = true := decide_eq_true c13; clear c13
        by_cases c14 : (x9_1 ++ (⟨#[44]⟩ : ByteArray)).size + (rdOf ByteArray.empty t136 x10_1).size ≤ 9223372036854775807
        ·rw [if_pos c14] at H
         have c14b0 := eq_true c14
         try have c14m : ((x9_1.size + 1) + (rdOf ByteArray.empty t136 x10_1).size ≤ 9223372036854775807) = True := by first | exact c14b0 | (have h_ := c14; simp only [ByteArray.size_append, Int.natCast_add] at h_; exact eq_true h_)
         have c14b1 : decide ((x9_1 ++ (⟨#[44]⟩ : ByteArray)).size + (rdOf ByteArray.empty t136 x10_1).size ≤ 9223372036854775807) = true := decide_eq_true c14
         try have c14b1n : decide ((x9_1.size + 1) + (rdOf ByteArray.empty t136 x10_1).size ≤ 9223372036854775807) = true := by first | exact c14b1 | (have h_ := c14b1; simp only [ByteArray.size_append, Int.natCast_add] at h_; exact h_)
         try have c14b2 : (9223372036854775807 < (x9_1 ++ (⟨#[44]⟩ : ByteArray)).size + (rdOf ByteArray.empty t136 x10_1).size) = False := eq_false (Nat.not_lt.2 c14)
         try have c14b2n : (9223372036854775807 < (x9_1.size + 1) + (rdOf ByteArray.empty t136 x10_1).size) = False := by first | exact c14b2 | (have h_ := c14b2; simp only [ByteArray.size_append, Int.natCast_add] at h_; exact h_)
         have H' := Aside0.mk H
         clear H
         obtain ⟨Ao15, co15, eo15⟩ := Kd.V_slice HO_8.out
         subst eo15
         have p139 : 0 ≤ (x10_1 : Int) := of_decide_eq_true z24_
         have q139 : x10_1 < (t136.length : Int) := of_decide_eq_true z24_
         obtain ⟨ad139, e139, hx139_0⟩ := Kd.at_string (Kd.V_reads' HO_8.out).2.2 x10_1 p139 q139
         cases e139
         replace p139 := eq_true p139
         replace q139 := eq_true q139
         go_wp2
         go_roundg k1
         case measure => have := HK1.out; omega
         case rel => exact ⟨((x9_1 ++ (⟨#[44]⟩ : ByteArray)) ++ (rdOf ByteArray.empty t136 x10_1)), (wrap64 (x10_1 + 1)), z21_, z21_, H', ⟨z26_⟩, ⟨z19_⟩, ⟨z20_⟩, ⟨z6_⟩⟩
        ·rw [if_neg c14] at H
         exact absurd H (by simp)
       ·rw [if_neg c13] at H
        exact absurd H (by simp)
      ·rw [if_neg c12] at H
       exact absurd H (by simp)
     ·rw [if_neg c11] at H
      have c11b0 : decide (0 < x10_1) = false := decide_eq_false c11; clear c11
      by_cases c16 : 0 ≤ x10_1
      ·rw [if_pos c16] at H
       have c16b0 : decide (0 ≤ x10_1) = true := decide_eq_true c16; clear c16
       by_cases c17 : x9_1.size + (rdOf ByteArray.empty t136 x10_1).size ≤ 9223372036854775807
       ·rw [if_pos c17] at H
        have c17b0 := eq_true c17; have c17b1 : decide (x9_1.size + (rdOf ByteArray.empty t136 x10_1).size ≤ 9223372036854775807) = true := decide_eq_true c17
        try have c17b2 : (9223372036854775807 < x9_1.size + (rdOf ByteArray.empty t136 x10_1).size) = False := eq_false (Nat.not_lt.2 c17)
        have H' := Aside0.mk H
        clear H
        obtain ⟨Ao18, co18, eo18⟩ := Kd.V_slice HO_8.out
        subst eo18
        have p140 : 0 ≤ (x10_1 : Int) := of_decide_eq_true z24_
        have q140 : x10_1 < (t136.length : Int) := of_decide_eq_true z24_
        obtain ⟨ad140, e140, hx140_0⟩ := Kd.at_string (Kd.V_reads' HO_8.out).2.2 x10_1 p140 q140
        cases e140
        replace p140 := eq_true p140
        replace q140 := eq_true q140
        go_wp2
        go_roundg k1
        case measure => have := HK1.out; omega
        case rel => exact ⟨(x9_1 ++ (rdOf ByteArray.empty t136 x10_1)), (wrap64 (x10_1 + 1)), z21_, z21_, H', ⟨z26_⟩, ⟨z19_⟩, ⟨z20_⟩, ⟨z6_⟩⟩
       ·rw [if_neg c17] at H
        exact absurd H (by simp)
      ·rw [if_neg c16] at H
       exact absurd H (by simp)
    ·rw [if_neg c10] at H
     have c10b0 : decide (x10_1 < (t136.length : Int)) = false := decide_eq_false c10; clear c10
     by_cases c19 : (t136.length : Int) > 0
     ·rw [if_pos c19] at H
      have c19b0 : decide (0 < (t136.length : Int)) = true := decide_eq_true c19
      have c19b1 : decide (0 < t136.length) = true := decide_eq_true (by omega)
      clear c19
      by_cases c20 : y133.length < 4398046511104
      ·rw [if_pos c20] at H
       have LMc20 := Aside0.mk c20; clear c20
       obtain ⟨y141, hy141⟩ : ∃ y_ : List (S45), y_ = (y133 ++ [(⟨(⟨#[65, 99, 99, 101, 115, 115, 45, 67, 111, 110, 116, 114, 111, 108, 45, 82, 101, 113, 117, 101, 115, 116, 45, 72, 101, 97, 100, 101, 114, 115]⟩ : ByteArray), x9_1⟩ : S45)]) := ⟨_, rfl⟩
       replace H : (if y141.length < 4398046511104 then (some (y141 ++ [(⟨(⟨#[79, 114, 105, 103, 105, 110]⟩ : ByteArray), a0⟩ : S45)])) else (none)) = some r := by first | (rw [hy141]; with_reducible exact H) | (have H2_ := (Option.bind_some _ _).symm.trans H; rw [hy141]; with_reducible exact H2_) | (have H2_ := (Option.bind_some _ _).symm.trans H; with_reducible exact H2_) | with_reducible exact H | (rw [hy141]; exact H) | exact H
       have Ny141 := Aside0.mk hy141; clear hy141
       by_cases c21 : y141.length < 4398046511104
       ·rw [if_pos c21] at H
        have LMc21 := Aside0.mk c21; clear c21
        obtain ⟨y144, hy144⟩ : ∃ y_ : List (S45), y_ = (y141 ++ [(⟨(⟨#[79, 114, 105, 103, 105, 110]⟩ : ByteArray), a0⟩ : S45)]) := ⟨_, rfl⟩
        replace H : (some y144) = some r := by first | (rw [hy144]; with_reducible exact H) | (have H2_ := (Option.bind_some _ _).symm.trans H; rw [hy144]; with_reducible exact H2_) | (have H2_ := (Option.bind_some _ _).symm.trans H; with_reducible exact H2_) | with_reducible exact H | (rw [hy144]; exact H) | exact H
        have Ny144 := Aside0.mk hy144; clear hy144
        obtain rfl := Option.some.inj H
        obtain ⟨Ao22, co22, eo22⟩ := Kd.V_slice HO_8.out
        subst eo22
        go_wp2_with (first | ((with_reducible refine gate_builtin (b := .append) (xs := #[.tmp 39, .tmp 42]) rfl ?_); at_builtin; refine Kd.R_append k45 (w0 := w) w.heap.size rfl (.tmp 39) (.tmp 42) 22 45 (.agg #[(.string ⟨#[]⟩), (.string ⟨#[]⟩)]) 32 rfl Tryz.underlying22 info45 rfl (by decide) (by omega) v134 y133 (⟨(⟨#[65, 99, 99, 101, 115, 115, 45, 67, 111, 110, 116, 114, 111, 108, 45, 82, 101, 113, 117, 101, 115, 116, 45, 72, 101, 97, 100, 101, 114, 115]⟩ : ByteArray), x9_1⟩ : S45) [.string (⟨#[65, 99, 99, 101, 115, 115, 45, 67, 111, 110, 116, 114, 111, 108, 45, 82, 101, 113, 117, 101, 115, 116, 45, 72, 101, 97, 100, 101, 114, 115]⟩ : ByteArray), .string x9_1] (fun _ => True) (fun _ => False) rfl rfl ?aP (fun _ hk => hk.elim) ?aF ?aO ?aB ?aS ?aL ?_; (case aP => exact k45_mkM _ _ _ (⟨(⟨#[65, 99, 99, 101, 115, 115, 45, 67, 111, 110, 116, 114, 111, 108, 45, 82, 101, 113, 117, 101, 115, 116, 45, 72, 101, 97, 100, 101, 114, 115]⟩ : ByteArray), x9_1⟩ : S45)); (case aB => exact z6_); (case aF => exact (fun _ _ => trivial)); (case aO => exact z19_); (case aS => exact (below_size z6_)); (case aL => have := LMc20.out; omega); intro v142 w23 ho hb hg hat; rw [← Ny141.out] at ho; have n0_ := Aside0.mk (Kd.V_afterv (ok := (fun _ => True)) (by (with_reducible repeat (first | apply Kd.V_alloc | apply Kd.V_drewN | apply Kd.V_drew)); exact Kd.V_mono HO_8.out (fun _ hk => ⟨trivial, hk⟩)) hg hat); have n1_ := Aside0.mk (hb); have n2_ := Aside0.mk (ho); clear HO_8; clear HB; clear HO_7; have HO_8 := n0_; have HB := n1_; have HO143 := n2_; clear n0_ n1_ n2_; clear ho hb hg hat) | ((with_reducible refine gate_builtin (b := .append) (xs := #[.tmp 44, .tmp 47]) rfl ?_); at_builtin; refine Kd.R_append k45 (w0 := w) w.heap.size rfl (.tmp 44) (.tmp 47) 22 45 (.agg #[(.string ⟨#[]⟩), (.string ⟨#[]⟩)]) 32 rfl Tryz.underlying22 info45 rfl (by decide) (by omega) v142 y141 (⟨(⟨#[79, 114, 105, 103, 105, 110]⟩ : ByteArray), a0⟩ : S45) [.string (⟨#[79, 114, 105, 103, 105, 110]⟩ : ByteArray), .string a0] (fun _ => True) (fun _ => False) rfl rfl ?aP (fun _ hk => hk.elim) ?aF ?aO ?aB ?aS ?aL ?_; (case aP => exact k45_mkM _ _ _ (⟨(⟨#[79, 114, 105, 103, 105, 110]⟩ : ByteArray), a0⟩ : S45)); (case aB => exact z6_); (case aF => exact (fun _ _ => trivial)); (case aO => exact (by (with_reducible repeat (first | apply Kd.R_alloc | apply Kd.R_drewN | apply Kd.R_drew)); exact HO143.out)); (case aS => exact (below_size z6_)); (case aL => have := LMc21.out; omega); intro v145 w24 ho hb hg hat; rw [← Ny144.out] at ho; have n0_ := Aside0.mk (Kd.V_afterv (ok := (fun _ => True)) z20_ hg hat); have n1_ := Aside0.mk (hb); have n2_ := Aside0.mk (ho); clear HO_8; clear HB; clear HO143; have HO_8 := n0_; have HB := n1_; have HO146 := n2_; clear n0_ n1_ n2_; clear ho hb hg hat))
        go_ret
        exact ⟨_, z7_, by (with_reducible repeat (first | apply Kd.R_alloc | apply Kd.R_drewN | apply Kd.R_drew)); exact HO146.out, z6_⟩
       ·rw [if_neg c21] at H
        exact absurd H (by simp)
      ·rw [if_neg c20] at H
       exact absurd H (by simp)
     ·rw [if_neg c19] at H
      have c19b0 : decide (0 < (t136.length : Int)) = false := decide_eq_false c19
      have c19b1 : decide (0 < t136.length) = false := decide_eq_false (by omega)
      clear c19
      by_cases c25 : y133.length < 4398046511104
      ·rw [if_pos c25] at H
       have LMc25 := Aside0.mk c25; clear c25
       obtain ⟨y147, hy147⟩ : ∃ y_ : List (S45), y_ = (y133 ++ [(⟨(⟨#[79, 114, 105, 103, 105, 110]⟩ : ByteArray), a0⟩ : S45)]) := ⟨_, rfl⟩
       replace H : (some y147) = some r := by first | (rw [hy147]; with_reducible exact H) | (have H2_ := (Option.bind_some _ _).symm.trans H; rw [hy147]; with_reducible exact H2_) | (have H2_ := (Option.bind_some _ _).symm.trans H; with_reducible exact H2_) | with_reducible exact H | (rw [hy147]; exact H) | exact H
       have Ny147 := Aside0.mk hy147; clear hy147
       obtain rfl := Option.some.inj H
       obtain ⟨Ao26, co26, eo26⟩ := Kd.V_slice HO_8.out
       subst eo26
       go_wp2_with (first | ((with_reducible refine gate_builtin (b := .append) (xs := #[.tmp 44, .tmp 47]) rfl ?_); at_builtin; refine Kd.R_append k45 (w0 := w) w.heap.size rfl (.tmp 44) (.tmp 47) 22 45 (.agg #[(.string ⟨#[]⟩), (.string ⟨#[]⟩)]) 32 rfl Tryz.underlying22 info45 rfl (by decide) (by omega) v134 y133 (⟨(⟨#[79, 114, 105, 103, 105, 110]⟩ : ByteArray), a0⟩ : S45) [.string (⟨#[79, 114, 105, 103, 105, 110]⟩ : ByteArray), .string a0] (fun _ => True) (fun _ => False) rfl rfl ?aP (fun _ hk => hk.elim) ?aF ?aO ?aB ?aS ?aL ?_; (case aP => exact k45_mkM _ _ _ (⟨(⟨#[79, 114, 105, 103, 105, 110]⟩ : ByteArray), a0⟩ : S45)); (case aB => exact z6_); (case aF => exact (fun _ _ => trivial)); (case aO => exact z19_); (case aS => exact (below_size z6_)); (case aL => have := LMc25.out; omega); intro v148 w27 ho hb hg hat; rw [← Ny147.out] at ho; have n0_ := Aside0.mk (Kd.V_afterv (ok := (fun _ => True)) (by (with_reducible repeat (first | apply Kd.V_alloc | apply Kd.V_drewN | apply Kd.V_drew)); exact Kd.V_mono HO_8.out (fun _ hk => ⟨trivial, hk⟩)) hg hat); have n1_ := Aside0.mk (hb); have n2_ := Aside0.mk (ho); clear HO_8; clear HB; clear HO_7; have HO_8 := n0_; have HB := n1_; have HO149 := n2_; clear n0_ n1_ n2_; clear ho hb hg hat))
       go_ret
       exact ⟨_, z7_, by (with_reducible repeat (first | apply Kd.R_alloc | apply Kd.R_drewN | apply Kd.R_drew)); exact HO149.out, z6_⟩
      ·rw [if_neg c25] at H
       exact absurd H (by simp)
 ·rw [if_neg c4] at H
  exact absurd H (by simp)

def pursuivantref09_Same.l0 : Nat → List (S45) → List (S45) → Int → Option (Bool)
 | 0, _, _, _ => none
 | k + 1, x0, x1, x5 => if x5 < (x0.length : Int) then (if 0 ≤ x5 then (if x5 < (x1.length : Int) then (if (!((((rd_T45 x0 x5).f0).toList) == (((rd_T45 x1 x5).f0).toList)) || (!((((rd_T45 x0 x5).f1).toList) == (((rd_T45 x1 x5).f1).toList)))) = true then (some false) else (pursuivantref09_Same.l0 k x0 x1 (wrap64 (x5 + 1)))) else (none)) else (none)) else (some true)
def pursuivantref09_Same.f (k : Nat) (l0 : List (S45)) (l1 : List (S45)) : Option (Bool) := if (l0.length : Int) = (l1.length : Int) then (pursuivantref09_Same.l0 k l0 l1 0) else (some false)
set_option maxHeartbeats 8000000 in
set_option maxRecDepth 100000 in
theorem pursuivantref09_Same.calls (k : Nat) (A0 : Option Addr) (c0 : Nat) (l0 : List (S45)) (A1 : Option Addr) (c1 : Nat) (l1 : List (S45)) (r : Bool) (w : World) (hG_ : GW w) (hr0 : Kd.C k45 w A0 l0.length l0) (hc0 : l0.length ≤ c0) (hr1 : Kd.C k45 w A1 l1.length l1) (hc1 : l1.length ≤ c1) (h : pursuivantref09_Same.f k l0 l1 = some r) :
  Calls Tryz.prog 10 #[.slice A0 l0.length c0, .slice A1 l1.length c1] w fun e w' => e = .returned (.bool r) ∧ Drawn0 w w' := by
 have hu45 := Tryz.underlying45
 have HR0 := Aside0.mk hr0; have HC0 := Aside0.mk hc0; clear hr0 hc0; have HR1 := Aside0.mk hr1; have HC1 := Aside0.mk hc1; clear hr1 hc1
 have H : (if (l0.length : Int) = (l1.length : Int) then (pursuivantref09_Same.l0 k l0 l1 0) else (some false)) = some r := h
 clear h
 by_cases c3 : (l0.length : Int) = (l1.length : Int)
 ·rw [if_pos c3] at H
  have c3b0 : ((l0.length : Int) == (l1.length : Int)) = true := beq_iff_eq.mpr c3
  have c3b1 : ((l0.length : Int) != (l1.length : Int)) = false := bne_eq_false_iff_eq.mpr c3
  have c3b2 : (l0.length == l1.length) = true := by first | simpa using c3 | (simp at c3 ⊢; omega)
  clear c3
  have H' := Aside0.mk H
  clear H
  go_enter Tryz.func10, Tryz.ntmps10
  go_wp2
  repeat (go_quiet (fail); try go_wp2)
  go_loopg [5] k (fun kq v5 w' => ∃ (x5_1 : Int), v5 = .int .i64 x5_1 ∧ Aside0 (pursuivantref09_Same.l0 kq l0 l1 x5_1 = some r) ∧ Aside0 (kq ≤ k) ∧ Drawn0 w w')
  case atStart => exact ⟨(0), z21_, H', ⟨Nat.le_refl _⟩, z22_⟩
  case round =>
   clear H'; (try clear c1); (try clear c3); (try clear c3b0); (try clear c3b1); (try clear c3b2)
   obtain ⟨x5_1, rfl, HA, HK1, ⟨m1, rfl⟩⟩ := hrel
   cases gk with
   | zero => exact absurd HA.out (by simp [pursuivantref09_Same.l0])
   | succ k1 =>
    have H := HA.out
    clear HA
    simp only [pursuivantref09_Same.l0] at H
    by_cases c4 : x5_1 < (l0.length : Int)
    ·rw [if_pos c4] at H
     have c4b0 : decide (x5_1 < (l0.length : Int)) = true := decide_eq_true c4; clear c4
     by_cases c5 : 0 ≤ x5_1
     ·rw [if_pos c5] at H
      have c5b0 : decide (0 ≤ x5_1) = true := decide_eq_true c5; clear c5
      by_cases c6 : x5_1 < (l1.length : Int)
      ·rw [if_pos c6] at H
       have c6b0 : decide (x5_1 < (l1.length : Int)) = true := decide_eq_true c6; clear c6
       by_cases c7 : (!((((rd_T45 l0 x5_1).f0).toList) == (((rd_T45 l1 x5_1).f0).toList)) || (!((((rd_T45 l0 x5_1).f1).toList) == (((rd_T45 l1 x5_1).f1).toList)))) = true
       ·rw [if_pos c7] at H
        have c7b0 : (!((((rd_T45 l0 x5_1).f0).toList) == (((rd_T45 l1 x5_1).f0).toList)) || (!((((rd_T45 l0 x5_1).f1).toList) == (((rd_T45 l1 x5_1).f1).toList)))) = true := c7
        clear c7
        obtain rfl := Option.some.inj H
        have p197 : 0 ≤ (x5_1 : Int) := of_decide_eq_true z24_
        have q197 : x5_1 < (l0.length : Int) := of_decide_eq_true z24_
        obtain ⟨ad197, e197, hx197_0, hx197_1⟩ := at_T45 HR0.out x5_1 p197 q197
        cases e197
        replace p197 := eq_true p197
        replace q197 := eq_true q197
        have p198 : 0 ≤ (x5_1 : Int) := of_decide_eq_true z24_
        have q198 : x5_1 < (l1.length : Int) := of_decide_eq_true z24_
        obtain ⟨ad198, e198, hx198_0, hx198_1⟩ := at_T45 HR1.out x5_1 p198 q198
        cases e198
        replace p198 := eq_true p198
        replace q198 := eq_true q198
        go_wp2
        repeat (go_quiet (fail); try go_wp2)
        go_ret
        exact ⟨z21_, z22_⟩
       ·rw [if_neg c7] at H
        have c7b0 : (!((((rd_T45 l0 x5_1).f0).toList) == (((rd_T45 l1 x5_1).f0).toList)) || (!((((rd_T45 l0 x5_1).f1).toList) == (((rd_T45 l1 x5_1).f1).toList)))) = false := by simpa using c7
        clear c7
        have H' := Aside0.mk H
        clear H
        have p197 : 0 ≤ (x5_1 : Int) := of_decide_eq_true z24_
        have q197 : x5_1 < (l0.length : Int) := of_decide_eq_true z24_
        obtain ⟨ad197, e197, hx197_0, hx197_1⟩ := at_T45 HR0.out x5_1 p197 q197
        cases e197
        replace p197 := eq_true p197
        replace q197 := eq_true q197
        have p198 : 0 ≤ (x5_1 : Int) := of_decide_eq_true z24_
        have q198 : x5_1 < (l1.length : Int) := of_decide_eq_true z24_
        obtain ⟨ad198, e198, hx198_0, hx198_1⟩ := at_T45 HR1.out x5_1 p198 q198
        cases e198
        replace p198 := eq_true p198
        replace q198 := eq_true q198
        go_wp2
        repeat (go_quiet (fail); try go_wp2)
        go_roundg k1
        case measure => have := HK1.out; omega
        case rel => exact ⟨(wrap64 (x5_1 + 1)), z21_, H', ⟨z26_⟩, z22_⟩
      ·rw [if_neg c6] at H
       exact absurd H (by simp)
     ·rw [if_neg c5] at H
      exact absurd H (by simp)
    ·rw [if_neg c4] at H
     have c4b0 : decide (x5_1 < (l0.length : Int)) = false := decide_eq_false c4; clear c4
     obtain rfl := Option.some.inj H
     go_wp2
     repeat (go_quiet (fail); try go_wp2)
     go_ret
     exact ⟨z21_, z22_⟩
 ·rw [if_neg c3] at H
  have c3b0 : ((l0.length : Int) == (l1.length : Int)) = false := beq_eq_false_iff_ne.mpr c3
  have c3b1 : ((l0.length : Int) != (l1.length : Int)) = true := bne_iff_ne.mpr c3
  have c3b2 : (l0.length == l1.length) = false := by first | simpa using c3 | (simp at c3 ⊢; omega)
  obtain rfl := Option.some.inj H
  go_enter Tryz.func10, Tryz.ntmps10
  go_wp2
  repeat (go_quiet (fail); try go_wp2)
  go_ret
  exact ⟨z21_, z22_⟩

end Go.Proofs.YtfibkgmbgdaeoaaGreatDoor.Hand
