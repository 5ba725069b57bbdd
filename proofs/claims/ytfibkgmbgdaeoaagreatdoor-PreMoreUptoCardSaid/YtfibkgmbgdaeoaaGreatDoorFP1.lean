/- What each Go function here computes, and that its call computes it, over contracts proved by hand (written by this project's xprint.py, which drives the kit's print). -/
import Derived.Test.YtfibkgmbgdaeoaaGreatDoorZ
import Derived.Test.YtfibkgmbgdaeoaaGreatDoorK
import Derived.Test.YtfibkgmbgdaeoaaGreatDoorLib
import Derived.Test.YtfibkgmbgdaeoaaGreatDoorLow
import Derived.Test.YtfibkgmbgdaeoaaGreatDoorFA1
namespace Go.Proofs.YtfibkgmbgdaeoaaGreatDoor.Hand
open Go.RowKit Go.Proofs.YtfibkgmbgdaeoaaGreatDoorW.PrintWords Go.Proofs.YtfibkgmbgdaeoaaGreatDoorW.PrintLast Go.Proofs.YtfibkgmbgdaeoaaGreatDoorW.PrintMore
attribute [local go_sem] Instr.field asAgg max2_int min2_int max_two min_two max_three min_three max_four min_four   -- for this text's walks alone
set_option linter.unusedVariables false
set_option linter.unusedSimpArgs false

mutual
def ascii_sign.j0 : Nat → Int → Bool → Option (Bool)
 | 0, _, _ => none
 | k + 1, x0, x3 => if x3 = true then (some true) else (if 97 ≤ x0 then (ascii_sign.j1 k x0 (decide (x0 ≤ 122))) else (ascii_sign.j1 k x0 false))
def ascii_sign.j1 : Nat → Int → Bool → Option (Bool)
 | 0, _, _ => none
 | k + 1, x0, x10 => if x10 = true then (some true) else (if 65 ≤ x0 then (if x0 ≤ 90 then (some true) else ((strings_IndexByte.f (⟨#[33, 35, 36, 37, 38, 39, 42, 43, 45, 46, 94, 95, 96, 124, 126]⟩ : ByteArray) x0).bind fun t101 => (some (decide (t101 ≥ 0))))) else ((strings_IndexByte.f (⟨#[33, 35, 36, 37, 38, 39, 42, 43, 45, 46, 94, 95, 96, 124, 126]⟩ : ByteArray) x0).bind fun t102 => (some (decide (t102 ≥ 0)))))
end
def ascii_sign.f (k : Nat) (a0 : Int) : Option (Bool) := if 48 ≤ a0 then (ascii_sign.j0 k a0 (decide (a0 ≤ 57))) else (ascii_sign.j0 k a0 false)
theorem ascii_sign.mono_l : ∀ k, (∀ y0 y1, LeO (ascii_sign.j0 k y0 y1) (ascii_sign.j0 (k + 1) y0 y1)) ∧ (∀ y0 y1, LeO (ascii_sign.j1 k y0 y1) (ascii_sign.j1 (k + 1) y0 y1))
 | 0 => ⟨fun _ _ r h => by simp [ascii_sign.j0] at h, fun _ _ r h => by simp [ascii_sign.j1] at h⟩
 | k + 1 => by
  obtain ⟨ih0, ih1⟩ := ascii_sign.mono_l k
  refine ⟨?_, ?_⟩
  ·intro y0 y1
   unfold ascii_sign.j0
   repeat' first
   | (with_reducible exact ih0 _ _)
   | (with_reducible exact ih1 _ _)
   | (with_reducible exact LeO.refl _)
   | (with_reducible exact LeO.none _)
   | (with_reducible refine LeO.ite ?_ ?_)
   | (with_reducible refine LeO.bind ?_ (fun _ => ?_))
   | exact ih0 _ _
   | exact ih1 _ _
   | exact LeO.none _
   | refine LeO.ite ?_ ?_
   | refine LeO.bind ?_ (fun _ => ?_)
  ·intro y0 y1
   unfold ascii_sign.j1
   repeat' first
   | (with_reducible exact ih0 _ _)
   | (with_reducible exact ih1 _ _)
   | (with_reducible exact LeO.refl _)
   | (with_reducible exact LeO.none _)
   | (with_reducible refine LeO.ite ?_ ?_)
   | (with_reducible refine LeO.bind ?_ (fun _ => ?_))
   | exact ih0 _ _
   | exact ih1 _ _
   | exact LeO.none _
   | refine LeO.ite ?_ ?_
   | refine LeO.bind ?_ (fun _ => ?_)
theorem ascii_sign.mono : ∀ a0 k, LeO (ascii_sign.f k a0) (ascii_sign.f (k + 1) a0) := by
 intro a0 k
 obtain ⟨ih0, ih1⟩ := ascii_sign.mono_l k
 unfold ascii_sign.f
 repeat' first
   | (with_reducible exact ih0 _ _)
   | (with_reducible exact ih1 _ _)
   | (with_reducible exact LeO.refl _)
   | (with_reducible exact LeO.none _)
   | (with_reducible refine LeO.ite ?_ ?_)
   | (with_reducible refine LeO.bind ?_ (fun _ => ?_))
   | exact ih0 _ _
   | exact ih1 _ _
   | exact LeO.none _
   | refine LeO.ite ?_ ?_
   | refine LeO.bind ?_ (fun _ => ?_)
set_option maxHeartbeats 8000000 in
set_option maxRecDepth 100000 in
theorem ascii_sign.calls (k : Nat) (a0 : Int) (r : Bool) (w : World) (hG_ : GW w) (h : ascii_sign.f k a0 = some r) :
  Calls Tryz.prog 72 #[.int .u8 a0] w fun e w' => e = .returned (.bool r) ∧ Drawn0 w w' := by
 have H : (if 48 ≤ a0 then (ascii_sign.j0 k a0 (decide (a0 ≤ 57))) else (ascii_sign.j0 k a0 false)) = some r := h
 clear h; have HC2 := Aside0.mk H; clear H
 go_enter Tryz.func72, Tryz.ntmps72
 go_upto_region 1 with (fail)
 go_cut [3] (fun v3 wc => ∃ (kq : Nat) (x3_1 : Bool), v3 = .bool x3_1 ∧ Aside0 (ascii_sign.j0 kq a0 x3_1 = some r) ∧ Aside0 (kq ≤ k) ∧ Drawn0 w wc)
 case first =>
  have H := HC2.out
  clear HC2
  by_cases c3 : 48 ≤ a0
  ·rw [if_pos c3] at H
   have c3b0 : decide (48 ≤ a0) = true := decide_eq_true c3; clear c3
   (first | rw [c3b0] | (simp only [i64_w, i32_w]; rw [c3b0]) | skip)
   have H' := Aside0.mk H
   clear H; go_wp2; go_meet
   case rel => exact ⟨_, (decide (a0 ≤ 57)), z29_, H', ⟨z33_⟩, z30_⟩
  ·rw [if_neg c3] at H
   have c3b0 : decide (48 ≤ a0) = false := decide_eq_false c3; clear c3
   (first | rw [c3b0] | (simp only [i64_w, i32_w]; rw [c3b0]) | skip)
   have H' := Aside0.mk H
   clear H; go_wp2; go_meet
   case rel => exact ⟨_, (false), z29_, H', ⟨z33_⟩, z30_⟩
 case rest =>
  clear HC2
  obtain ⟨kq, x3_1, rfl, HA, HJ1, ⟨mc1, rfl⟩⟩ := hcut
  cases kq with
  | zero => exact absurd HA.out (by simp [ascii_sign.j0])
  | succ kj1 =>
   have H := HA.out
   clear HA
   simp only [ascii_sign.j0] at H
   by_cases c4 : x3_1 = true
   ·subst c4
    have H1 : (some true) = some r := by rw [if_pos rfl] at H; exact H
    clear H
    have H := H1
    clear H1
    obtain rfl := Option.some.inj H
    go_wp2
    go_ret
    exact ⟨z29_, z30_⟩
   ·replace c4 := Bool.eq_false_iff.mpr c4
    subst c4
    have H1 : (if 97 ≤ a0 then (ascii_sign.j1 kj1 a0 (decide (a0 ≤ 122))) else (ascii_sign.j1 kj1 a0 false)) = some r := by rw [if_neg (show ¬ (false = true) by decide)] at H; exact H
    clear H
    have H := H1
    clear H1; have HC5 := Aside0.mk H; clear H
    go_upto_region 2 with (fail)
    go_cut [10] (fun v10 wc => ∃ (kq : Nat) (x10_4 : Bool), v10 = .bool x10_4 ∧ Aside0 (ascii_sign.j1 kq a0 x10_4 = some r) ∧ Aside0 (kq ≤ kj1) ∧ Drawn0 w wc)
    case first =>
     have H := HC5.out
     clear HC5
     by_cases c6 : 97 ≤ a0
     ·rw [if_pos c6] at H
      have c6b0 : decide (97 ≤ a0) = true := decide_eq_true c6; clear c6
      (first | rw [c6b0] | (simp only [i64_w, i32_w]; rw [c6b0]) | skip)
      have H' := Aside0.mk H
      clear H; go_wp2; go_meet
      case rel => exact ⟨_, (decide (a0 ≤ 122)), z29_, H', ⟨by have := HJ1.out; first | omega | exact Nat.le_refl _⟩, z30_⟩
     ·rw [if_neg c6] at H
      have c6b0 : decide (97 ≤ a0) = false := decide_eq_false c6; clear c6
      (first | rw [c6b0] | (simp only [i64_w, i32_w]; rw [c6b0]) | skip)
      have H' := Aside0.mk H
      clear H; go_wp2; go_meet
      case rel => exact ⟨_, (false), z29_, H', ⟨by have := HJ1.out; first | omega | exact Nat.le_refl _⟩, z30_⟩
    case rest =>
     clear HC5; (try clear c4)
     obtain ⟨kq, x10_4, rfl, HA, HJ4, ⟨mc4, rfl⟩⟩ := hcut
     cases kq with
     | zero => exact absurd HA.out (by simp [ascii_sign.j1])
     | succ kj4 =>
      have H := HA.out
      clear HA
      simp only [ascii_sign.j1] at H
      by_cases c7 : x10_4 = true
      ·subst c7
       have H1 : (some true) = some r := by rw [if_pos rfl] at H; exact H
       clear H
       have H := H1
       clear H1
       obtain rfl := Option.some.inj H
       go_wp2
       go_ret
       exact ⟨z29_, z30_⟩
      ·replace c7 := Bool.eq_false_iff.mpr c7
       subst c7
       have H1 : (if 65 ≤ a0 then (if a0 ≤ 90 then (some true) else ((strings_IndexByte.f (⟨#[33, 35, 36, 37, 38, 39, 42, 43, 45, 46, 94, 95, 96, 124, 126]⟩ : ByteArray) a0).bind fun t101 => (some (decide (t101 ≥ 0))))) else ((strings_IndexByte.f (⟨#[33, 35, 36, 37, 38, 39, 42, 43, 45, 46, 94, 95, 96, 124, 126]⟩ : ByteArray) a0).bind fun t102 => (some (decide (t102 ≥ 0))))) = some r := by rw [if_neg (show ¬ (false = true) by decide)] at H; exact H
       clear H
       have H := H1
       clear H1
       by_cases c8 : 65 ≤ a0
       ·rw [if_pos c8] at H
        have c8b0 : decide (65 ≤ a0) = true := decide_eq_true c8; clear c8
        by_cases c9 : a0 ≤ 90
        ·rw [if_pos c9] at H
         have c9b0 : decide (a0 ≤ 90) = true := decide_eq_true c9; clear c9
         obtain rfl := Option.some.inj H
         go_wp2
         go_ret
         exact ⟨z29_, z30_⟩
        ·rw [if_neg c9] at H
         have c9b0 : decide (a0 ≤ 90) = false := decide_eq_false c9; clear c9
         replace H := Option.bind_eq_some_iff.mp H
         obtain ⟨t101, A100, H⟩ := H
         replace H : (some (decide (t101 ≥ 0))) = some r := H
         have A10 := Aside0.mk A100; clear A100
         obtain rfl := Option.some.inj H
         go_wp2_with (first | ((with_reducible refine gate_callee (f := 74) rfl ?_); refine goesL_ (some 25) rfl rfl Tryz.func74 (by kernel_rfl) rfl #[.string (⟨#[33, 35, 36, 37, 38, 39, 42, 43, 45, 46, 94, 95, 96, 124, 126]⟩ : ByteArray), .int .u8 a0] rfl z9_ ?_; (with_reducible refine (strings_IndexByte.calls (⟨#[33, 35, 36, 37, 38, 39, 42, 43, 45, 46, 94, 95, 96, 124, 126]⟩ : ByteArray) a0 t101 _ ?gw1_ A10.out).mono ?_); (case gw1_ => exact z3_); rintro e w' ⟨rfl, ⟨nd, rfl⟩⟩; refine ⟨_, rfl, ?_⟩))
         go_ret
         exact ⟨z29_, z30_⟩
       ·rw [if_neg c8] at H
        have c8b0 : decide (65 ≤ a0) = false := decide_eq_false c8; clear c8
        replace H := Option.bind_eq_some_iff.mp H
        obtain ⟨t102, A110, H⟩ := H
        replace H : (some (decide (t102 ≥ 0))) = some r := H
        have A11 := Aside0.mk A110; clear A110
        obtain rfl := Option.some.inj H
        go_wp2_with (first | ((with_reducible refine gate_callee (f := 74) rfl ?_); refine goesL_ (some 25) rfl rfl Tryz.func74 (by kernel_rfl) rfl #[.string (⟨#[33, 35, 36, 37, 38, 39, 42, 43, 45, 46, 94, 95, 96, 124, 126]⟩ : ByteArray), .int .u8 a0] rfl z9_ ?_; (with_reducible refine (strings_IndexByte.calls (⟨#[33, 35, 36, 37, 38, 39, 42, 43, 45, 46, 94, 95, 96, 124, 126]⟩ : ByteArray) a0 t102 _ ?gw2_ A11.out).mono ?_); (case gw2_ => exact z3_); rintro e w' ⟨rfl, ⟨nd, rfl⟩⟩; refine ⟨_, rfl, ?_⟩))
        go_ret
        exact ⟨z29_, z30_⟩

def ascii_Token.l0 : Nat → ByteArray → Int → Int → Option (Bool)
 | 0, _, _, _ => none
 | k + 1, x0, x5, x6 => if x6 < x5 then (if 0 ≤ x6 then (if x6 < (x0.size : Int) then ((ascii_sign.f k (bt x0 x6)).bind fun t103 => (if t103 = true then (ascii_Token.l0 k x0 x5 (wrap64 (x6 + 1))) else (some false))) else (none)) else (none)) else (some (x0.toList != ([] : List UInt8)))
def ascii_Token.f (k : Nat) (a0 : ByteArray) : Option (Bool) := ascii_Token.l0 k a0 (a0.size : Int) 0
set_option maxHeartbeats 8000000 in
set_option maxRecDepth 100000 in
theorem ascii_Token.calls (k : Nat) (a0 : ByteArray) (r : Bool) (w : World) (hG_ : GW w) (h : ascii_Token.f k a0 = some r) :
  Calls Tryz.prog 53 #[.string a0] w fun e w' => e = .returned (.bool r) ∧ Drawn0 w w' := by
 have H : (ascii_Token.l0 k a0 (a0.size : Int) 0) = some r := h
 clear h
 have H' := Aside0.mk H
 clear H
 go_enter Tryz.func53, Tryz.ntmps53
 go_wp2
 go_loopg [6] k (fun kq v6 w' => ∃ (x6_1 : Int), v6 = .int .i64 x6_1 ∧ Aside0 (ascii_Token.l0 kq a0 (a0.size : Int) x6_1 = some r) ∧ Aside0 (kq ≤ k) ∧ Drawn0 w w')
 case atStart => exact ⟨(0), z29_, H', ⟨Nat.le_refl _⟩, z30_⟩
 case round =>
  clear H'
  obtain ⟨x6_1, rfl, HA, HK1, ⟨m1, rfl⟩⟩ := hrel
  cases gk with
  | zero => exact absurd HA.out (by simp [ascii_Token.l0])
  | succ k1 =>
   have H := HA.out
   clear HA
   simp only [ascii_Token.l0] at H
   by_cases c2 : x6_1 < (a0.size : Int)
   ·rw [if_pos c2] at H
    have c2b0 : decide (x6_1 < (a0.size : Int)) = true := decide_eq_true c2; clear c2
    by_cases c3 : 0 ≤ x6_1
    ·rw [if_pos c3] at H
     have c3b0 : decide (0 ≤ x6_1) = true := decide_eq_true c3; clear c3
     by_cases c4 : x6_1 < (a0.size : Int)
     ·rw [if_pos c4] at H
      have c4b0 : decide (x6_1 < (a0.size : Int)) = true := decide_eq_true c4; clear c4
      replace H := Option.bind_eq_some_iff.mp H
      obtain ⟨t103, A60, H⟩ := H
      replace H : (if t103 = true then (ascii_Token.l0 k1 a0 (a0.size : Int) (wrap64 (x6_1 + 1))) else (some false)) = some r := H
      have A6 := Aside0.mk A60; clear A60
      by_cases c7 : t103 = true
      ·subst c7
       have H1 : (ascii_Token.l0 k1 a0 (a0.size : Int) (wrap64 (x6_1 + 1))) = some r := by rw [if_pos rfl] at H; exact H
       clear H
       have H := H1
       clear H1
       have H' := Aside0.mk H
       clear H
       have p5 : 0 ≤ (x6_1 : Int) := of_decide_eq_true z32_
       have q5 : x6_1 < (a0.size : Int) := of_decide_eq_true z32_
       have hx5 := bt_at a0 x6_1
       replace p5 := eq_true p5
       replace q5 := eq_true q5
       go_wp2_with (first | ((with_reducible refine gate_callee (f := 72) rfl ?_); refine goesL_ (some 12) rfl rfl Tryz.func72 (by kernel_rfl) rfl #[.int .u8 (bt a0 x6_1)] rfl z9_ ?_; (with_reducible refine (ascii_sign.calls k1 (bt a0 x6_1) true _ ?gw3_ A6.out).mono ?_); (case gw3_ => exact z3_); rintro e w' ⟨rfl, ⟨nd, rfl⟩⟩; refine ⟨_, rfl, ?_⟩))
       go_roundg k1
       case measure => have := HK1.out; omega
       case rel => exact ⟨(wrap64 (x6_1 + 1)), z29_, H', ⟨z35_⟩, z30_⟩
      ·replace c7 := Bool.eq_false_iff.mpr c7
       subst c7
       have H1 : (some false) = some r := by rw [if_neg (show ¬ (false = true) by decide)] at H; exact H
       clear H
       have H := H1
       clear H1
       obtain rfl := Option.some.inj H
       have p5 : 0 ≤ (x6_1 : Int) := of_decide_eq_true z32_
       have q5 : x6_1 < (a0.size : Int) := of_decide_eq_true z32_
       have hx5 := bt_at a0 x6_1
       replace p5 := eq_true p5
       replace q5 := eq_true q5
       go_wp2_with (first | ((with_reducible refine gate_callee (f := 72) rfl ?_); refine goesL_ (some 12) rfl rfl Tryz.func72 (by kernel_rfl) rfl #[.int .u8 (bt a0 x6_1)] rfl z9_ ?_; (with_reducible refine (ascii_sign.calls k1 (bt a0 x6_1) false _ ?gw4_ A6.out).mono ?_); (case gw4_ => exact z3_); rintro e w' ⟨rfl, ⟨nd, rfl⟩⟩; refine ⟨_, rfl, ?_⟩))
       go_ret
       exact ⟨z29_, z30_⟩
     ·rw [if_neg c4] at H
      exact absurd H (by simp)
    ·rw [if_neg c3] at H
     exact absurd H (by simp)
   ·rw [if_neg c2] at H
    have c2b0 : decide (x6_1 < (a0.size : Int)) = false := decide_eq_false c2; clear c2
    obtain rfl := Option.some.inj H
    go_wp2
    go_ret
    exact ⟨z29_, z30_⟩

mutual
def ascii_Number.l0 : Nat → ByteArray → Int → Int → Int → Int → Option (Int × Bool)
 | 0, _, _, _, _, _ => none
 | k + 1, x0, x1, x6, x10, x11 => if x11 < x10 then (if 0 ≤ x11 then (if x11 < (x0.size : Int) then (if (bt x0 x11) < 48 then (ascii_Number.j1 k x0 x1 x6 x11 x10 x11 true) else (ascii_Number.j1 k x0 x1 x6 x11 x10 x11 (decide ((bt x0 x11) > 57)))) else (none)) else (none)) else (some (x6, (x0.toList != ([] : List UInt8))))
def ascii_Number.j1 : Nat → ByteArray → Int → Int → Int → Int → Int → Bool → Option (Int × Bool)
 | 0, _, _, _, _, _, _, _ => none
 | k + 1, x0, x1, x6, x7, x10, x11, x23 => if x23 = true then (some (0, false)) else (if 0 ≤ x7 then (if x7 < (x0.size : Int) then (if x6 > (wrap64 (Int.tdiv (wrap64 (x1 - (((bt x0 x7) - 48) % 256))) 10)) then (ascii_Number.l0 k x0 x1 x1 x10 (wrap64 (x11 + 1))) else (ascii_Number.l0 k x0 x1 (mn (wrap64 ((wrap64 (10 * x6)) + (((bt x0 x7) - 48) % 256))) x1) x10 (wrap64 (x11 + 1)))) else (none)) else (none))
end
def ascii_Number.f (k : Nat) (a0 : ByteArray) (a1 : Int) : Option (Int × Bool) := ascii_Number.l0 k a0 a1 0 (a0.size : Int) 0
set_option maxHeartbeats 8000000 in
set_option maxRecDepth 100000 in
theorem ascii_Number.calls (k : Nat) (a0 : ByteArray) (a1 r1 : Int) (r2 : Bool) (w : World) (hG_ : GW w) (h : ascii_Number.f k a0 a1 = some (r1, r2)) :
  Calls Tryz.prog 29 #[.string a0, .int .i64 a1] w fun e w' => e = .returned (.tuple #[.int .i64 r1, .bool r2]) ∧ Below w.heap.size w w' := by
 have HB := Aside0.mk (Below.refl w.heap.size w)
 have H : (ascii_Number.l0 k a0 a1 0 (a0.size : Int) 0) = some (r1, r2) := h
 clear h
 have H' := Aside0.mk H
 clear H
 go_enter Tryz.func29, Tryz.ntmps29
 go_wp2
 go_loopg [6, 11] k (fun kq v6 v11 w' => ∃ (x6_1 x11_1 : Int), v6 = .int .i64 x6_1 ∧ v11 = .int .i64 x11_1 ∧ Aside0 (ascii_Number.l0 kq a0 a1 x6_1 (a0.size : Int) x11_1 = some (r1, r2)) ∧ Aside0 (kq ≤ k) ∧ Aside0 (Below w.heap.size w w'))
 case atStart => exact ⟨(0), (0), z29_, z29_, H', ⟨Nat.le_refl _⟩, ⟨z10_⟩⟩
 case round =>
  clear H'
  obtain ⟨x6_1, x11_1, rfl, rfl, HA, HK1, HB⟩ := hrel
  cases gk with
  | zero => exact absurd HA.out (by simp [ascii_Number.l0])
  | succ k1 =>
   have H := HA.out
   clear HA
   simp only [ascii_Number.l0] at H
   by_cases c3 : x11_1 < (a0.size : Int)
   ·rw [if_pos c3] at H
    have c3b0 : decide (x11_1 < (a0.size : Int)) = true := decide_eq_true c3; clear c3; have HC4 := Aside0.mk H; clear H
    go_upto_region 5 with (fail)
    go_cut [23] (fun v23 wc => ∃ (kq : Nat) (x23_3 : Bool), v23 = .bool x23_3 ∧ Aside0 (ascii_Number.j1 kq a0 a1 x6_1 x11_1 (a0.size : Int) x11_1 x23_3 = some (r1, r2)) ∧ Aside0 (kq ≤ k1) ∧ Aside0 (Below w.heap.size w wc))
    case first =>
     have H := HC4.out
     clear HC4
     by_cases c5 : 0 ≤ x11_1
     ·rw [if_pos c5] at H
      have c5b0 : decide (0 ≤ x11_1) = true := decide_eq_true c5; clear c5
      (first | rw [c5b0] | (simp only [i64_w, i32_w]; rw [c5b0]) | skip)
      by_cases c6 : x11_1 < (a0.size : Int)
      ·rw [if_pos c6] at H
       have c6b0 : decide (x11_1 < (a0.size : Int)) = true := decide_eq_true c6; clear c6
       by_cases c8 : (bt a0 x11_1) < 48
       ·rw [if_pos c8] at H
        have c8b0 : decide ((bt a0 x11_1) < 48) = true := decide_eq_true c8; clear c8
        have H' := Aside0.mk H
        clear H
        have p7 : 0 ≤ (x11_1 : Int) := of_decide_eq_true z32_
        have q7 : x11_1 < (a0.size : Int) := of_decide_eq_true z32_
        have hx7 := bt_at a0 x11_1
        replace p7 := eq_true p7
        replace q7 := eq_true q7
        go_wp2; go_meet
        case rel => exact ⟨_, (true), z29_, H', ⟨z31_⟩, ⟨z10_⟩⟩
       ·rw [if_neg c8] at H
        have c8b0 : decide ((bt a0 x11_1) < 48) = false := decide_eq_false c8; clear c8
        have H' := Aside0.mk H
        clear H
        have p7 : 0 ≤ (x11_1 : Int) := of_decide_eq_true z32_
        have q7 : x11_1 < (a0.size : Int) := of_decide_eq_true z32_
        have hx7 := bt_at a0 x11_1
        replace p7 := eq_true p7
        replace q7 := eq_true q7
        have p9 : 0 ≤ (x11_1 : Int) := of_decide_eq_true z32_
        have q9 : x11_1 < (a0.size : Int) := of_decide_eq_true z32_
        have hx9 := bt_at a0 x11_1
        replace p9 := eq_true p9
        replace q9 := eq_true q9
        go_wp2; go_meet
        case rel => exact ⟨_, (decide ((bt a0 x11_1) > 57)), z29_, H', ⟨z31_⟩, ⟨z10_⟩⟩
      ·rw [if_neg c6] at H
       exact absurd H (by simp)
     ·rw [if_neg c5] at H
      exact absurd H (by simp)
    case rest =>
     clear HC4; (try clear c3); (try clear c3b0)
     obtain ⟨kq, x23_3, rfl, HA, HJ3, HB⟩ := hcut
     cases kq with
     | zero => exact absurd HA.out (by simp [ascii_Number.j1])
     | succ kj3 =>
      have H := HA.out
      clear HA
      simp only [ascii_Number.j1] at H
      by_cases c10 : x23_3 = true
      ·subst c10
       have H1 : (some (0, false)) = some (r1, r2) := by rw [if_pos rfl] at H; exact H
       clear H
       have H := H1
       clear H1
       simp only [Option.some.injEq, Prod.mk.injEq] at H
       obtain ⟨rfl, rfl⟩ := H
       go_wp2
       go_ret2
       exact ⟨z11_, z10_⟩
      ·replace c10 := Bool.eq_false_iff.mpr c10
       subst c10
       have H1 : (if 0 ≤ x11_1 then (if x11_1 < (a0.size : Int) then (if x6_1 > (wrap64 (Int.tdiv (wrap64 (a1 - (((bt a0 x11_1) - 48) % 256))) 10)) then (ascii_Number.l0 kj3 a0 a1 a1 (a0.size : Int) (wrap64 (x11_1 + 1))) else (ascii_Number.l0 kj3 a0 a1 (mn (wrap64 ((wrap64 (10 * x6_1)) + (((bt a0 x11_1) - 48) % 256))) a1) (a0.size : Int) (wrap64 (x11_1 + 1)))) else (none)) else (none)) = some (r1, r2) := by rw [if_neg (show ¬ (false = true) by decide)] at H; exact H
       clear H
       have H := H1
       clear H1
       by_cases c11 : 0 ≤ x11_1
       ·rw [if_pos c11] at H
        have c11b0 : decide (0 ≤ x11_1) = true := decide_eq_true c11; clear c11
        by_cases c12 : x11_1 < (a0.size : Int)
        ·rw [if_pos c12] at H
         have c12b0 : decide (x11_1 < (a0.size : Int)) = true := decide_eq_true c12; clear c12
         by_cases c14 : x6_1 > (wrap64 (Int.tdiv (wrap64 (a1 - (((bt a0 x11_1) - 48) % 256))) 10))
         ·rw [if_pos c14] at H
          have c14b0 : decide ((wrap64 (Int.tdiv (wrap64 (a1 - (((bt a0 x11_1) - 48) % 256))) 10)) < x6_1) = true := decide_eq_true c14; clear c14
          have H' := Aside0.mk H
          clear H
          have p13 : 0 ≤ (x11_1 : Int) := of_decide_eq_true z32_
          have q13 : x11_1 < (a0.size : Int) := of_decide_eq_true z32_
          have hx13 := bt_at a0 x11_1
          replace p13 := eq_true p13
          replace q13 := eq_true q13
          go_wp2
          go_roundg kj3
          case measure => have := HK1.out; have := HJ3.out; omega
          case rel => exact ⟨(a1), (wrap64 (x11_1 + 1)), z29_, z29_, H', ⟨by have := HK1.out; have := HJ3.out; omega⟩, ⟨z10_⟩⟩
         ·rw [if_neg c14] at H
          have c14b0 : decide ((wrap64 (Int.tdiv (wrap64 (a1 - (((bt a0 x11_1) - 48) % 256))) 10)) < x6_1) = false := decide_eq_false c14; clear c14
          obtain ⟨ji15, hji15⟩ : ∃ j_ : Int, (mn (wrap64 ((wrap64 (10 * x6_1)) + (((bt a0 x11_1) - 48) % 256))) a1) = j_ := ⟨_, rfl⟩
          replace H : (ascii_Number.l0 kj3 a0 a1 ji15 (a0.size : Int) (wrap64 (x11_1 + 1))) = some (r1, r2) := by first | (rw [hji15] at H; exact H) | (simp only [hji15] at H ⊢; exact H)
          have hji15_ : (if a1 < (wrap64 ((wrap64 (10 * x6_1)) + (((bt a0 x11_1) - 48) % 256))) then a1 else (wrap64 ((wrap64 (10 * x6_1)) + (((bt a0 x11_1) - 48) % 256)))) = ji15 := hji15
          have H' := Aside0.mk H
          clear H
          have p13 : 0 ≤ (x11_1 : Int) := of_decide_eq_true z32_
          have q13 : x11_1 < (a0.size : Int) := of_decide_eq_true z32_
          have hx13 := bt_at a0 x11_1
          replace p13 := eq_true p13
          replace q13 := eq_true q13
          go_wp2
          go_roundg kj3
          case measure => have := HK1.out; have := HJ3.out; omega
          case rel => exact ⟨(ji15), (wrap64 (x11_1 + 1)), (by first | rfl | (simp [nil_bne, nil_beq]; done) | (simp; done) | (simp only [← hji15] <;> (first | rfl | simp)) | (simp [*]; done)), z29_, H', ⟨by have := HK1.out; have := HJ3.out; omega⟩, ⟨z10_⟩⟩
        ·rw [if_neg c12] at H
         exact absurd H (by simp)
       ·rw [if_neg c11] at H
        exact absurd H (by simp)
   ·rw [if_neg c3] at H
    have c3b0 : decide (x11_1 < (a0.size : Int)) = false := decide_eq_false c3; clear c3
    simp only [Option.some.injEq, Prod.mk.injEq] at H
    obtain ⟨rfl, rfl⟩ := H
    go_wp2
    go_ret2
    exact ⟨z11_, z10_⟩

mutual
def pursuivantref04_Trim.j1 : Nat → ByteArray → Option (ByteArray)
 | 0, _ => none
 | k + 1, x0 => pursuivantref04_Trim.l1 k x0
def pursuivantref04_Trim.l1 : Nat → ByteArray → Option (ByteArray)
 | 0, _ => none
 | k + 1, x0 => if (x0.size : Int) > 0 then (if 0 ≤ (wrap64 ((x0.size : Int) - 1)) then (if (wrap64 ((x0.size : Int) - 1)) < (x0.size : Int) then (if (bt x0 (wrap64 ((x0.size : Int) - 1))) = 32 then (if (wrap64 ((x0.size : Int) - 1)) ≤ (x0.size : Int) then (pursuivantref04_Trim.l1 k (x0.extract 0 ((wrap64 ((x0.size : Int) - 1)) : Int).toNat)) else (none)) else (if (bt x0 (wrap64 ((x0.size : Int) - 1))) = 9 then (if (wrap64 ((x0.size : Int) - 1)) ≤ (x0.size : Int) then (pursuivantref04_Trim.l1 k (x0.extract 0 ((wrap64 ((x0.size : Int) - 1)) : Int).toNat)) else (none)) else (some x0))) else (none)) else (none)) else (some x0)
def pursuivantref04_Trim.l0 : Nat → ByteArray → Option (ByteArray)
 | 0, _ => none
 | k + 1, x0 => if (x0.size : Int) > 0 then (if 0 < (x0.size : Int) then (if (bt x0 0) = 32 then (if 1 ≤ (x0.size : Int) then (pursuivantref04_Trim.l0 k (x0.extract 1 x0.size)) else (none)) else (if (bt x0 0) = 9 then (if 1 ≤ (x0.size : Int) then (pursuivantref04_Trim.l0 k (x0.extract 1 x0.size)) else (none)) else (pursuivantref04_Trim.j1 k x0))) else (none)) else (pursuivantref04_Trim.j1 k x0)
end
def pursuivantref04_Trim.f (k : Nat) (a0 : ByteArray) : Option (ByteArray) := pursuivantref04_Trim.l0 k a0
set_option maxHeartbeats 8000000 in
set_option maxRecDepth 100000 in
theorem pursuivantref04_Trim.calls (k : Nat) (a0 r : ByteArray) (w : World) (hG_ : GW w) (h : pursuivantref04_Trim.f k a0 = some r) :
  Calls Tryz.prog 47 #[.string a0] w fun e w' => e = .returned (.string r) ∧ Drawn0 w w' := by
 have H : (pursuivantref04_Trim.l0 k a0) = some r := h
 clear h; have HC2 := Aside0.mk H; clear H
 go_enter Tryz.func47, Tryz.ntmps47
 go_upto_block 0 with (fail)
 go_cut [0] (fun v0 wc => ∃ (kq : Nat) (x0_1 : ByteArray), v0 = .string x0_1 ∧ Aside0 (pursuivantref04_Trim.j1 kq x0_1 = some r) ∧ Aside0 (kq ≤ k) ∧ Drawn0 w wc)
 case first =>
  have H := HC2.out
  clear HC2
  have H' := Aside0.mk H
  clear H; go_wp2
  go_loopg [0] k (fun kq v0 w' => ∃ (x0_1 : ByteArray), v0 = .string x0_1 ∧ Aside0 (pursuivantref04_Trim.l0 kq x0_1 = some r) ∧ Aside0 (kq ≤ k) ∧ Drawn0 w w')
  case atStart => exact ⟨(a0), z29_, H', ⟨Nat.le_refl _⟩, z30_⟩
  case round =>
   clear H'
   obtain ⟨x0_1, rfl, HA, HK1, ⟨m1, rfl⟩⟩ := hrel
   cases gk with
   | zero => exact absurd HA.out (by simp [pursuivantref04_Trim.l0])
   | succ k1 =>
    have H := HA.out
    clear HA
    simp only [pursuivantref04_Trim.l0] at H
    by_cases c3 : (x0_1.size : Int) > 0
    ·rw [if_pos c3] at H
     have c3b0 : decide (0 < (x0_1.size : Int)) = true := decide_eq_true c3
     have c3b1 : decide (0 < x0_1.size) = true := decide_eq_true (by omega)
     clear c3
     (first | rw [c3b0] | (simp only [i64_w, i32_w]; rw [c3b0]) | skip)
     by_cases c4 : 0 < (x0_1.size : Int)
     ·rw [if_pos c4] at H
      have c4b0 : decide (0 < (x0_1.size : Int)) = true := decide_eq_true c4
      have c4b1 : decide (0 < x0_1.size) = true := decide_eq_true (by omega)
      clear c4
      by_cases c6 : (bt x0_1 0) = 32
      ·rw [if_pos c6] at H
       have c6b0 : ((bt x0_1 0) == 32) = true := beq_iff_eq.mpr c6
       have c6b1 : ((bt x0_1 0) != 32) = false := bne_eq_false_iff_eq.mpr c6
       clear c6
       by_cases c7 : 1 ≤ (x0_1.size : Int)
       ·rw [if_pos c7] at H
        have c7b0 := eq_true c7; have c7b1 : decide (1 ≤ (x0_1.size : Int)) = true := decide_eq_true c7; clear c7
        have H' := Aside0.mk H
        clear H
        have p5 : 0 ≤ (0 : Int) := (by omega)
        have q5 : 0 < x0_1.size := (by have : (0 : Int) < (x0_1.size : Int) := of_decide_eq_true z32_; omega)
        have hx5 : ∀ h : 0 < x0_1.size, ((x0_1[0]'h).toNat : Int) = bt x0_1 0 := bt_at x0_1 0
        clear p5
        have qi5 : (0 < (x0_1.size : Int)) = True := eq_true (of_decide_eq_true z32_)
        replace q5 := eq_true q5
        go_wp2
        go_roundg k1
        case measure => have := HK1.out; omega
        case rel => exact ⟨(x0_1.extract 1 x0_1.size), z29_, H', ⟨z35_⟩, z30_⟩
       ·rw [if_neg c7] at H
        exact absurd H (by simp)
      ·rw [if_neg c6] at H
       have c6b0 : ((bt x0_1 0) == 32) = false := beq_eq_false_iff_ne.mpr c6
       have c6b1 : ((bt x0_1 0) != 32) = true := bne_iff_ne.mpr c6
       by_cases c9 : (bt x0_1 0) = 9
       ·rw [if_pos c9] at H
        have c9b0 : ((bt x0_1 0) == 9) = true := beq_iff_eq.mpr c9
        have c9b1 : ((bt x0_1 0) != 9) = false := bne_eq_false_iff_eq.mpr c9
        clear c9
        by_cases c10 : 1 ≤ (x0_1.size : Int)
        ·rw [if_pos c10] at H
         have c10b0 := eq_true c10; have c10b1 : decide (1 ≤ (x0_1.size : Int)) = true := decide_eq_true c10; clear c10
         have H' := Aside0.mk H
         clear H
         have p5 : 0 ≤ (0 : Int) := (by omega)
         have q5 : 0 < x0_1.size := (by have : (0 : Int) < (x0_1.size : Int) := of_decide_eq_true z32_; omega)
         have hx5 : ∀ h : 0 < x0_1.size, ((x0_1[0]'h).toNat : Int) = bt x0_1 0 := bt_at x0_1 0
         clear p5
         have qi5 : (0 < (x0_1.size : Int)) = True := eq_true (of_decide_eq_true z32_)
         replace q5 := eq_true q5
         have p8 : 0 ≤ (0 : Int) := (by omega)
         have q8 : 0 < x0_1.size := (by have : (0 : Int) < (x0_1.size : Int) := of_decide_eq_true z32_; omega)
         have hx8 : ∀ h : 0 < x0_1.size, ((x0_1[0]'h).toNat : Int) = bt x0_1 0 := bt_at x0_1 0
         clear p8
         have qi8 : (0 < (x0_1.size : Int)) = True := eq_true (of_decide_eq_true z32_)
         replace q8 := eq_true q8
         go_wp2
         go_roundg k1
         case measure => have := HK1.out; omega
         case rel => exact ⟨(x0_1.extract 1 x0_1.size), z29_, H', ⟨z35_⟩, z30_⟩
        ·rw [if_neg c10] at H
         exact absurd H (by simp)
       ·rw [if_neg c9] at H
        have c9b0 : ((bt x0_1 0) == 9) = false := beq_eq_false_iff_ne.mpr c9
        have c9b1 : ((bt x0_1 0) != 9) = true := bne_iff_ne.mpr c9
        have H' := Aside0.mk H
        clear H
        have p5 : 0 ≤ (0 : Int) := (by omega)
        have q5 : 0 < x0_1.size := (by have : (0 : Int) < (x0_1.size : Int) := of_decide_eq_true z32_; omega)
        have hx5 : ∀ h : 0 < x0_1.size, ((x0_1[0]'h).toNat : Int) = bt x0_1 0 := bt_at x0_1 0
        clear p5
        have qi5 : (0 < (x0_1.size : Int)) = True := eq_true (of_decide_eq_true z32_)
        replace q5 := eq_true q5
        have p8 : 0 ≤ (0 : Int) := (by omega)
        have q8 : 0 < x0_1.size := (by have : (0 : Int) < (x0_1.size : Int) := of_decide_eq_true z32_; omega)
        have hx8 : ∀ h : 0 < x0_1.size, ((x0_1[0]'h).toNat : Int) = bt x0_1 0 := bt_at x0_1 0
        clear p8
        have qi8 : (0 < (x0_1.size : Int)) = True := eq_true (of_decide_eq_true z32_)
        replace q8 := eq_true q8
        go_wp2; go_meet
        case rel => exact ⟨_, (x0_1), z29_, H', ⟨z31_⟩, z30_⟩
     ·rw [if_neg c4] at H
      exact absurd H (by simp)
    ·rw [if_neg c3] at H
     have c3b0 : decide (0 < (x0_1.size : Int)) = false := decide_eq_false c3
     have c3b1 : decide (0 < x0_1.size) = false := decide_eq_false (by omega)
     clear c3
     (first | rw [c3b0] | (simp only [i64_w, i32_w]; rw [c3b0]) | skip)
     have H' := Aside0.mk H
     clear H; go_wp2; go_meet
     case rel => exact ⟨_, (x0_1), z29_, H', ⟨z31_⟩, z30_⟩
 case rest =>
  clear HC2
  obtain ⟨kq, x0_1, rfl, HA, HJ1, ⟨mc1, rfl⟩⟩ := hcut
  cases kq with
  | zero => exact absurd HA.out (by simp [pursuivantref04_Trim.j1])
  | succ kj1 =>
   have H := HA.out
   clear HA
   simp only [pursuivantref04_Trim.j1] at H
   have H' := Aside0.mk H
   clear H; go_wp2
   go_loopg [0] kj1 (fun kq v0 w' => ∃ (x0_2 : ByteArray), v0 = .string x0_2 ∧ Aside0 (pursuivantref04_Trim.l1 kq x0_2 = some r) ∧ Aside0 (kq ≤ kj1) ∧ Drawn0 w w')
   case atStart => exact ⟨(x0_1), z29_, H', ⟨Nat.le_refl _⟩, z30_⟩
   case round =>
    clear H'
    obtain ⟨x0_2, rfl, HA, HK2, ⟨m2, rfl⟩⟩ := hrel
    cases gk with
    | zero => exact absurd HA.out (by simp [pursuivantref04_Trim.l1])
    | succ k2 =>
     have H := HA.out
     clear HA
     simp only [pursuivantref04_Trim.l1] at H
     by_cases c11 : (x0_2.size : Int) > 0
     ·rw [if_pos c11] at H
      have c11b0 : decide (0 < (x0_2.size : Int)) = true := decide_eq_true c11
      have c11b1 : decide (0 < x0_2.size) = true := decide_eq_true (by omega)
      clear c11
      obtain ⟨ji12, hji12⟩ : ∃ j_ : Int, (wrap64 ((x0_2.size : Int) - 1)) = j_ := ⟨_, rfl⟩
      replace H : (if 0 ≤ (ji12) then (if (ji12) < (x0_2.size : Int) then (if (bt x0_2 (ji12)) = 32 then (if (ji12) ≤ (x0_2.size : Int) then (pursuivantref04_Trim.l1 k2 (x0_2.extract 0 ((ji12) : Int).toNat)) else (none)) else (if (bt x0_2 (ji12)) = 9 then (if (ji12) ≤ (x0_2.size : Int) then (pursuivantref04_Trim.l1 k2 (x0_2.extract 0 ((ji12) : Int).toNat)) else (none)) else (some x0_2))) else (none)) else (none)) = some r := by first | (rw [hji12] at H; exact H) | (simp only [hji12] at H ⊢; exact H)
      have hji12w : (IntKind.i64.wrap ((x0_2.size : Int) - 1)) = ji12 := (i64_w _).trans hji12
      by_cases c13 : 0 ≤ (ji12)
      ·rw [if_pos c13] at H
       have c13b0 : decide (0 ≤ (ji12)) = true := decide_eq_true c13; clear c13
       by_cases c14 : (ji12) < (x0_2.size : Int)
       ·rw [if_pos c14] at H
        have c14b0 : decide ((ji12) < (x0_2.size : Int)) = true := decide_eq_true c14; clear c14
        by_cases c16 : (bt x0_2 (ji12)) = 32
        ·rw [if_pos c16] at H
         have c16b0 : ((bt x0_2 (ji12)) == 32) = true := beq_iff_eq.mpr c16
         have c16b1 : ((bt x0_2 (ji12)) != 32) = false := bne_eq_false_iff_eq.mpr c16
         clear c16
         have c17b0 := eq_true (of_decide_eq_true z32_ : 0 ≤ (ji12))
         by_cases c18 : (ji12) ≤ (x0_2.size : Int)
         ·rw [if_pos c18] at H
          have c18b0 := eq_true c18; have c18b1 : decide ((ji12) ≤ (x0_2.size : Int)) = true := decide_eq_true c18; clear c18
          have H' := Aside0.mk H
          clear H
          have p15 : 0 ≤ ((ji12) : Int) := of_decide_eq_true z32_
          have q15 : (ji12) < (x0_2.size : Int) := of_decide_eq_true z32_
          have hx15 := bt_at x0_2 (ji12)
          replace p15 := eq_true p15
          replace q15 := eq_true q15
          go_wp2
          go_roundg k2
          case measure => have := HJ1.out; have := HK2.out; omega
          case rel => exact ⟨(x0_2.extract 0 ((ji12) : Int).toNat), z12_, H', ⟨by have := HJ1.out; have := HK2.out; omega⟩, z30_⟩
         ·rw [if_neg c18] at H
          exact absurd H (by simp)
        ·rw [if_neg c16] at H
         have c16b0 : ((bt x0_2 (ji12)) == 32) = false := beq_eq_false_iff_ne.mpr c16
         have c16b1 : ((bt x0_2 (ji12)) != 32) = true := bne_iff_ne.mpr c16
         by_cases c20 : (bt x0_2 (ji12)) = 9
         ·rw [if_pos c20] at H
          have c20b0 : ((bt x0_2 (ji12)) == 9) = true := beq_iff_eq.mpr c20
          have c20b1 : ((bt x0_2 (ji12)) != 9) = false := bne_eq_false_iff_eq.mpr c20
          clear c20
          have c21b0 := eq_true (of_decide_eq_true z32_ : 0 ≤ (ji12))
          by_cases c22 : (ji12) ≤ (x0_2.size : Int)
          ·rw [if_pos c22] at H
           have c22b0 := eq_true c22; have c22b1 : decide ((ji12) ≤ (x0_2.size : Int)) = true := decide_eq_true c22; clear c22
           have H' := Aside0.mk H
           clear H
           have p15 : 0 ≤ ((ji12) : Int) := of_decide_eq_true z32_
           have q15 : (ji12) < (x0_2.size : Int) := of_decide_eq_true z32_
           have hx15 := bt_at x0_2 (ji12)
           replace p15 := eq_true p15
           replace q15 := eq_true q15
           have p19 : 0 ≤ ((ji12) : Int) := of_decide_eq_true z32_
           have q19 : (ji12) < (x0_2.size : Int) := of_decide_eq_true z32_
           have hx19 := bt_at x0_2 (ji12)
           replace p19 := eq_true p19
           replace q19 := eq_true q19
           go_wp2
           go_roundg k2
           case measure => have := HJ1.out; have := HK2.out; omega
           case rel => exact ⟨(x0_2.extract 0 ((ji12) : Int).toNat), z12_, H', ⟨by have := HJ1.out; have := HK2.out; omega⟩, z30_⟩
          ·rw [if_neg c22] at H
           exact absurd H (by simp)
         ·rw [if_neg c20] at H
          have c20b0 : ((bt x0_2 (ji12)) == 9) = false := beq_eq_false_iff_ne.mpr c20
          have c20b1 : ((bt x0_2 (ji12)) != 9) = true := bne_iff_ne.mpr c20
          obtain rfl := Option.some.inj H
          have p15 : 0 ≤ ((ji12) : Int) := of_decide_eq_true z32_
          have q15 : (ji12) < (x0_2.size : Int) := of_decide_eq_true z32_
          have hx15 := bt_at x0_2 (ji12)
          replace p15 := eq_true p15
          replace q15 := eq_true q15
          have p19 : 0 ≤ ((ji12) : Int) := of_decide_eq_true z32_
          have q19 : (ji12) < (x0_2.size : Int) := of_decide_eq_true z32_
          have hx19 := bt_at x0_2 (ji12)
          replace p19 := eq_true p19
          replace q19 := eq_true q19
          go_wp2
          go_ret
          exact ⟨z12_, z30_⟩
       ·rw [if_neg c14] at H
        exact absurd H (by simp)
      ·rw [if_neg c13] at H
       exact absurd H (by simp)
     ·rw [if_neg c11] at H
      have c11b0 : decide (0 < (x0_2.size : Int)) = false := decide_eq_false c11
      have c11b1 : decide (0 < x0_2.size) = false := decide_eq_false (by omega)
      clear c11
      obtain rfl := Option.some.inj H
      go_wp2
      go_ret
      exact ⟨z29_, z30_⟩

end Go.Proofs.YtfibkgmbgdaeoaaGreatDoor.Hand
