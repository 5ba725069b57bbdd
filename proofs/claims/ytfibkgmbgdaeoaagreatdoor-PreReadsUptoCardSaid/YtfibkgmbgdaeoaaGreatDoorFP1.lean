/- What each Go function here computes, and that its call computes it, over contracts proved by hand (written by this project's xprint.py, which drives the kit's print). -/
import Derived.Test.YtfibkgmbgdaeoaaGreatDoorZ
import Derived.Test.YtfibkgmbgdaeoaaGreatDoorK
import Derived.Test.YtfibkgmbgdaeoaaGreatDoorLib
import Derived.Test.YtfibkgmbgdaeoaaGreatDoorLow
import Derived.Test.YtfibkgmbgdaeoaaGreatDoorFA1
namespace Go.Proofs.YtfibkgmbgdaeoaaGreatDoor.Hand
open Go.RowKit Go.Proofs.YtfibkgmbgdaeoaaGreatDoorW.PrintWords Go.Proofs.YtfibkgmbgdaeoaaGreatDoorW.PrintLast Go.Proofs.YtfibkgmbgdaeoaaGreatDoorW.PrintMore
attribute [local go_sem] Instr.field asAgg max2_int min2_int max_two min_two max_three min_three max_four min_four   -- for this text's walks alone
set_option linter.unusedVariables false
set_option linter.unusedSimpArgs false

mutual
def ascii_sign.j0 : Nat → Int → Bool → Option (Bool)
 | 0, _, _ => none
 | k + 1, x0, x3 => if x3 = true then (some true) else (if 97 ≤ x0 then (ascii_sign.j1 k x0 (decide (x0 ≤ 122))) else (ascii_sign.j1 k x0 false))
def ascii_sign.j1 : Nat → Int → Bool → Option (Bool)
 | 0, _, _ => none
 | k + 1, x0, x10 => if x10 = true then (some true) else (if 65 ≤ x0 then (if x0 ≤ 90 then (some true) else ((strings_IndexByte.f (⟨#[33, 35, 36, 37, 38, 39, 42, 43, 45, 46, 94, 95, 96, 124, 126]⟩ : ByteArray) x0).bind fun t101 => (some (decide (t101 ≥ 0))))) else ((strings_IndexByte.f (⟨#[33, 35, 36, 37, 38, 39, 42, 43, 45, 46, 94, 95, 96, 124, 126]⟩ : ByteArray) x0).bind fun t102 => (some (decide (t102 ≥ 0)))))
end
def ascii_sign.f (k : Nat) (a0 : Int) : Option (Bool) := if 48 ≤ a0 then (ascii_sign.j0 k a0 (decide (a0 ≤ 57))) else (ascii_sign.j0 k a0 false)
theorem ascii_sign.mono_l : ∀ k, (∀ y0 y1, LeO (ascii_sign.j0 k y0 y1) (ascii_sign.j0 (k + 1) y0 y1)) ∧ (∀ y0 y1, LeO (ascii_sign.j1 k y0 y1) (ascii_sign.j1 (k + 1) y0 y1))
 | 0 => ⟨fun _ _ r h => by simp [ascii_sign.j0] at h, fun _ _ r h => by simp [ascii_sign.j1] at h⟩
 | k + 1 => by
  obtain ⟨ih0, ih1⟩ := ascii_sign.mono_l k
  refine ⟨?_, ?_⟩
  ·intro y0 y1
   unfold ascii_sign.j0
   repeat' first
   | (with_reducible exact ih0 _ _)
   | (with_reducible exact ih1 _ _)
   | (with_reducible exact LeO.refl _)
   | (with_reducible exact LeO.none _)
   | (with_reducible refine LeO.ite ?_ ?_)
   | (with_reducible refine LeO.bind ?_ (fun _ => ?_))
   | exact ih0 _ _
   | exact ih1 _ _
   | exact LeO.none _
   | refine LeO.ite ?_ ?_
   | refine LeO.bind ?_ (fun _ => ?_)
  ·intro y0 y1
   unfold ascii_sign.j1
   repeat' first
   | (with_reducible exact ih0 _ _)
   | (with_reducible exact ih1 _ _)
   | (with_reducible exact LeO.refl _)
   | (with_reducible exact LeO.none _)
   | (with_reducible refine LeO.ite ?_ ?_)
   | (with_reducible refine LeO.bind ?_ (fun _ => ?_))
   | exact ih0 _ _
   | exact ih1 _ _
   | exact LeO.none _
   | refine LeO.ite ?_ ?_
   | refine LeO.bind ?_ (fun _ => ?_)
theorem ascii_sign.mono : ∀ a0 k, LeO (ascii_sign.f k a0) (ascii_sign.f (k + 1) a0) := by
 intro a0 k
 obtain ⟨ih0, ih1⟩ := ascii_sign.mono_l k
 unfold ascii_sign.f
 repeat' first
   | (with_reducible exact ih0 _ _)
   | (with_reducible exact ih1 _ _)
   | (with_reducible exact LeO.refl _)
   | (with_reducible exact LeO.none _)
   | (with_reducible refine LeO.ite ?_ ?_)
   | (with_reducible refine LeO.bind ?_ (fun _ => ?_))
   | exact ih0 _ _
   | exact ih1 _ _
   | exact LeO.none _
   | refine LeO.ite ?_ ?_
   | refine LeO.bind ?_ (fun _ => ?_)
set_option maxHeartbeats 8000000 in
set_option maxRecDepth 100000 in
theorem ascii_sign.calls (k : Nat) (a0 : Int) (r : Bool) (w : World) (hG_ : GW w) (h : ascii_sign.f k a0 = some r) :
  Calls Tryz.prog 72 #[.int .u8 a0] w fun e w' => e = .returned (.bool r) ∧ Drawn0 w w' := by
 have H : (if 48 ≤ a0 then (ascii_sign.j0 k a0 (decide (a0 ≤ 57))) else (ascii_sign.j0 k a0 false)) = some r := h
 clear h; have HC2 := Aside0.mk H; clear H
 go_enter Tryz.func72, Tryz.ntmps72
 go_upto_region 1 with (fail)
 go_cut [3] (fun v3 wc => ∃ (kq : Nat) (x3_1 : Bool), v3 = .bool x3_1 ∧ Aside0 (ascii_sign.j0 kq a0 x3_1 = some r) ∧ Aside0 (kq ≤ k) ∧ Drawn0 w wc)
 case first =>
  have H := HC2.out
  clear HC2
  by_cases c3 : 48 ≤ a0
  ·rw [if_pos c3] at H
   have c3b0 : decide (48 ≤ a0) = true := decide_eq_true c3; clear c3
   (first | rw [c3b0] | (simp only [i64_w, i32_w]; rw [c3b0]) | skip)
   have H' := Aside0.mk H
   clear H; go_wp2; go_meet
   case rel => exact ⟨_, (decide (a0 ≤ 57)), z51_, H', ⟨z57_⟩, z52_⟩
  ·rw [if_neg c3] at H
   have c3b0 : decide (48 ≤ a0) = false := decide_eq_false c3; clear c3
   (first | rw [c3b0] | (simp only [i64_w, i32_w]; rw [c3b0]) | skip)
   have H' := Aside0.mk H
   clear H; go_wp2; go_meet
   case rel => exact ⟨_, (false), z51_, H', ⟨z57_⟩, z52_⟩
 case rest =>
  clear HC2
  obtain ⟨kq, x3_1, rfl, HA, HJ1, ⟨mc1, rfl⟩⟩ := hcut
  cases kq with
  | zero => exact absurd HA.out (by simp [ascii_sign.j0])
  | succ kj1 =>
   have H := HA.out
   clear HA
   simp only [ascii_sign.j0] at H
   by_cases c4 : x3_1 = true
   ·subst c4
    have H1 : (some true) = some r := by rw [if_pos rfl] at H; exact H
    clear H
    have H := H1
    clear H1
    obtain rfl := Option.some.inj H
    go_wp2
    go_ret
    exact ⟨z51_, z52_⟩
   ·replace c4 := Bool.eq_false_iff.mpr c4
    subst c4
    have H1 : (if 97 ≤ a0 then (ascii_sign.j1 kj1 a0 (decide (a0 ≤ 122))) else (ascii_sign.j1 kj1 a0 false)) = some r := by rw [if_neg (show ¬ (false = true) by decide)] at H; exact H
    clear H
    have H := H1
    clear H1; have HC5 := Aside0.mk H; clear H
    go_upto_region 2 with (fail)
    go_cut [10] (fun v10 wc => ∃ (kq : Nat) (x10_4 : Bool), v10 = .bool x10_4 ∧ Aside0 (ascii_sign.j1 kq a0 x10_4 = some r) ∧ Aside0 (kq ≤ kj1) ∧ Drawn0 w wc)
    case first =>
     have H := HC5.out
     clear HC5
     by_cases c6 : 97 ≤ a0
     ·rw [if_pos c6] at H
      have c6b0 : decide (97 ≤ a0) = true := decide_eq_true c6; clear c6
      (first | rw [c6b0] | (simp only [i64_w, i32_w]; rw [c6b0]) | skip)
      have H' := Aside0.mk H
      clear H; go_wp2; go_meet
      case rel => exact ⟨_, (decide (a0 ≤ 122)), z51_, H', ⟨by have := HJ1.out; first | omega | exact Nat.le_refl _⟩, z52_⟩
     ·rw [if_neg c6] at H
      have c6b0 : decide (97 ≤ a0) = false := decide_eq_false c6; clear c6
      (first | rw [c6b0] | (simp only [i64_w, i32_w]; rw [c6b0]) | skip)
      have H' := Aside0.mk H
      clear H; go_wp2; go_meet
      case rel => exact ⟨_, (false), z51_, H', ⟨by have := HJ1.out; first | omega | exact Nat.le_refl _⟩, z52_⟩
    case rest =>
     clear HC5; (try clear c4)
     obtain ⟨kq, x10_4, rfl, HA, HJ4, ⟨mc4, rfl⟩⟩ := hcut
     cases kq with
     | zero => exact absurd HA.out (by simp [ascii_sign.j1])
     | succ kj4 =>
      have H := HA.out
      clear HA
      simp only [ascii_sign.j1] at H
      by_cases c7 : x10_4 = true
      ·subst c7
       have H1 : (some true) = some r := by rw [if_pos rfl] at H; exact H
       clear H
       have H := H1
       clear H1
       obtain rfl := Option.some.inj H
       go_wp2
       go_ret
       exact ⟨z51_, z52_⟩
      ·replace c7 := Bool.eq_false_iff.mpr c7
       subst c7
       have H1 : (if 65 ≤ a0 then (if a0 ≤ 90 then (some true) else ((strings_IndexByte.f (⟨#[33, 35, 36, 37, 38, 39, 42, 43, 45, 46, 94, 95, 96, 124, 126]⟩ : ByteArray) a0).bind fun t101 => (some (decide (t101 ≥ 0))))) else ((strings_IndexByte.f (⟨#[33, 35, 36, 37, 38, 39, 42, 43, 45, 46, 94, 95, 96, 124, 126]⟩ : ByteArray) a0).bind fun t102 => (some (decide (t102 ≥ 0))))) = some r := by rw [if_neg (show ¬ (false = true) by decide)] at H; exact H
       clear H
       have H := H1
       clear H1
       by_cases c8 : 65 ≤ a0
       ·rw [if_pos c8] at H
        have c8b0 : decide (65 ≤ a0) = true := decide_eq_true c8; clear c8
        by_cases c9 : a0 ≤ 90
        ·rw [if_pos c9] at H
         have c9b0 : decide (a0 ≤ 90) = true := decide_eq_true c9; clear c9
         obtain rfl := Option.some.inj H
         go_wp2
         go_ret
         exact ⟨z51_, z52_⟩
        ·rw [if_neg c9] at H
         have c9b0 : decide (a0 ≤ 90) = false := decide_eq_false c9; clear c9
         replace H := Option.bind_eq_some_iff.mp H
         obtain ⟨t101, A100, H⟩ := H
         replace H : (some (decide (t101 ≥ 0))) = some r := H
         have A10 := Aside0.mk A100; clear A100
         obtain rfl := Option.some.inj H
         go_wp2_with (first | ((with_reducible refine gate_callee (f := 74) rfl ?_); refine goesL_ (some 25) rfl rfl Tryz.func74 (by kernel_rfl) rfl #[.string (⟨#[33, 35, 36, 37, 38, 39, 42, 43, 45, 46, 94, 95, 96, 124, 126]⟩ : ByteArray), .int .u8 a0] rfl z24_ ?_; (with_reducible refine (strings_IndexByte.calls (⟨#[33, 35, 36, 37, 38, 39, 42, 43, 45, 46, 94, 95, 96, 124, 126]⟩ : ByteArray) a0 t101 _ ?gw1_ A10.out).mono ?_); (case gw1_ => exact z4_); rintro e w' ⟨rfl, ⟨nd, rfl⟩⟩; refine ⟨_, rfl, ?_⟩))
         go_ret
         exact ⟨z51_, z52_⟩
       ·rw [if_neg c8] at H
        have c8b0 : decide (65 ≤ a0) = false := decide_eq_false c8; clear c8
        replace H := Option.bind_eq_some_iff.mp H
        obtain ⟨t102, A110, H⟩ := H
        replace H : (some (decide (t102 ≥ 0))) = some r := H
        have A11 := Aside0.mk A110; clear A110
        obtain rfl := Option.some.inj H
        go_wp2_with (first | ((with_reducible refine gate_callee (f := 74) rfl ?_); refine goesL_ (some 25) rfl rfl Tryz.func74 (by kernel_rfl) rfl #[.string (⟨#[33, 35, 36, 37, 38, 39, 42, 43, 45, 46, 94, 95, 96, 124, 126]⟩ : ByteArray), .int .u8 a0] rfl z24_ ?_; (with_reducible refine (strings_IndexByte.calls (⟨#[33, 35, 36, 37, 38, 39, 42, 43, 45, 46, 94, 95, 96, 124, 126]⟩ : ByteArray) a0 t102 _ ?gw2_ A11.out).mono ?_); (case gw2_ => exact z4_); rintro e w' ⟨rfl, ⟨nd, rfl⟩⟩; refine ⟨_, rfl, ?_⟩))
        go_ret
        exact ⟨z51_, z52_⟩

def ascii_Token.l0 : Nat → ByteArray → Int → Int → Option (Bool)
 | 0, _, _, _ => none
 | k + 1, x0, x5, x6 => if x6 < x5 then (if 0 ≤ x6 then (if x6 < (x0.size : Int) then ((ascii_sign.f k (bt x0 x6)).bind fun t103 => (if t103 = true then (ascii_Token.l0 k x0 x5 (wrap64 (x6 + 1))) else (some false))) else (none)) else (none)) else (some (x0.toList != ([] : List UInt8)))
def ascii_Token.f (k : Nat) (a0 : ByteArray) : Option (Bool) := ascii_Token.l0 k a0 (a0.size : Int) 0
set_option maxHeartbeats 8000000 in
set_option maxRecDepth 100000 in
theorem ascii_Token.calls (k : Nat) (a0 : ByteArray) (r : Bool) (w : World) (hG_ : GW w) (h : ascii_Token.f k a0 = some r) :
  Calls Tryz.prog 53 #[.string a0] w fun e w' => e = .returned (.bool r) ∧ Drawn0 w w' := by
 have H : (ascii_Token.l0 k a0 (a0.size : Int) 0) = some r := h
 clear h
 have H' := Aside0.mk H
 clear H
 go_enter Tryz.func53, Tryz.ntmps53
 go_wp2
 go_loopg [6] k (fun kq v6 w' => ∃ (x6_1 : Int), v6 = .int .i64 x6_1 ∧ Aside0 (ascii_Token.l0 kq a0 (a0.size : Int) x6_1 = some r) ∧ Aside0 (kq ≤ k) ∧ Drawn0 w w')
 case atStart => exact ⟨(0), z51_, H', ⟨Nat.le_refl _⟩, z52_⟩
 case round =>
  clear H'
  obtain ⟨x6_1, rfl, HA, HK1, ⟨m1, rfl⟩⟩ := hrel
  cases gk with
  | zero => exact absurd HA.out (by simp [ascii_Token.l0])
  | succ k1 =>
   have H := HA.out
   clear HA
   simp only [ascii_Token.l0] at H
   by_cases c2 : x6_1 < (a0.size : Int)
   ·rw [if_pos c2] at H
    have c2b0 : decide (x6_1 < (a0.size : Int)) = true := decide_eq_true c2; clear c2
    by_cases c3 : 0 ≤ x6_1
    ·rw [if_pos c3] at H
     have c3b0 : decide (0 ≤ x6_1) = true := decide_eq_true c3; clear c3
     by_cases c4 : x6_1 < (a0.size : Int)
     ·rw [if_pos c4] at H
      have c4b0 : decide (x6_1 < (a0.size : Int)) = true := decide_eq_true c4; clear c4
      replace H := Option.bind_eq_some_iff.mp H
      obtain ⟨t103, A60, H⟩ := H
      replace H : (if t103 = true then (ascii_Token.l0 k1 a0 (a0.size : Int) (wrap64 (x6_1 + 1))) else (some false)) = some r := H
      have A6 := Aside0.mk A60; clear A60
      by_cases c7 : t103 = true
      ·subst c7
       have H1 : (ascii_Token.l0 k1 a0 (a0.size : Int) (wrap64 (x6_1 + 1))) = some r := by rw [if_pos rfl] at H; exact H
       clear H
       have H := H1
       clear H1
       have H' := Aside0.mk H
       clear H
       have p5 : 0 ≤ (x6_1 : Int) := of_decide_eq_true z55_
       have q5 : x6_1 < (a0.size : Int) := of_decide_eq_true z55_
       have hx5 := bt_at a0 x6_1
       replace p5 := eq_true p5
       replace q5 := eq_true q5
       go_wp2_with (first | ((with_reducible refine gate_callee (f := 72) rfl ?_); refine goesL_ (some 12) rfl rfl Tryz.func72 (by kernel_rfl) rfl #[.int .u8 (bt a0 x6_1)] rfl z24_ ?_; (with_reducible refine (ascii_sign.calls k1 (bt a0 x6_1) true _ ?gw3_ A6.out).mono ?_); (case gw3_ => exact z4_); rintro e w' ⟨rfl, ⟨nd, rfl⟩⟩; refine ⟨_, rfl, ?_⟩))
       go_roundg k1
       case measure => have := HK1.out; omega
       case rel => exact ⟨(wrap64 (x6_1 + 1)), z51_, H', ⟨z58_⟩, z52_⟩
      ·replace c7 := Bool.eq_false_iff.mpr c7
       subst c7
       have H1 : (some false) = some r := by rw [if_neg (show ¬ (false = true) by decide)] at H; exact H
       clear H
       have H := H1
       clear H1
       obtain rfl := Option.some.inj H
       have p5 : 0 ≤ (x6_1 : Int) := of_decide_eq_true z55_
       have q5 : x6_1 < (a0.size : Int) := of_decide_eq_true z55_
       have hx5 := bt_at a0 x6_1
       replace p5 := eq_true p5
       replace q5 := eq_true q5
       go_wp2_with (first | ((with_reducible refine gate_callee (f := 72) rfl ?_); refine goesL_ (some 12) rfl rfl Tryz.func72 (by kernel_rfl) rfl #[.int .u8 (bt a0 x6_1)] rfl z24_ ?_; (with_reducible refine (ascii_sign.calls k1 (bt a0 x6_1) false _ ?gw4_ A6.out).mono ?_); (case gw4_ => exact z4_); rintro e w' ⟨rfl, ⟨nd, rfl⟩⟩; refine ⟨_, rfl, ?_⟩))
       go_ret
       exact ⟨z51_, z52_⟩
     ·rw [if_neg c4] at H
      exact absurd H (by simp)
    ·rw [if_neg c3] at H
     exact absurd H (by simp)
   ·rw [if_neg c2] at H
    have c2b0 : decide (x6_1 < (a0.size : Int)) = false := decide_eq_false c2; clear c2
    obtain rfl := Option.some.inj H
    go_wp2
    go_ret
    exact ⟨z51_, z52_⟩

mutual
def ascii_Number.l0 : Nat → ByteArray → Int → Int → Int → Int → Option (Int × Bool)
 | 0, _, _, _, _, _ => none
 | k + 1, x0, x1, x6, x10, x11 => if x11 < x10 then (if 0 ≤ x11 then (if x11 < (x0.size : Int) then (if (bt x0 x11) < 48 then (ascii_Number.j1 k x0 x1 x6 x11 x10 x11 true) else (ascii_Number.j1 k x0 x1 x6 x11 x10 x11 (decide ((bt x0 x11) > 57)))) else (none)) else (none)) else (some (x6, (x0.toList != ([] : List UInt8))))
def ascii_Number.j1 : Nat → ByteArray → Int → Int → Int → Int → Int → Bool → Option (Int × Bool)
 | 0, _, _, _, _, _, _, _ => none
 | k + 1, x0, x1, x6, x7, x10, x11, x23 => if x23 = true then (some (0, false)) else (if 0 ≤ x7 then (if x7 < (x0.size : Int) then (if x6 > (wrap64 (Int.tdiv (wrap64 (x1 - (((bt x0 x7) - 48) % 256))) 10)) then (ascii_Number.l0 k x0 x1 x1 x10 (wrap64 (x11 + 1))) else (ascii_Number.l0 k x0 x1 (mn (wrap64 ((wrap64 (10 * x6)) + (((bt x0 x7) - 48) % 256))) x1) x10 (wrap64 (x11 + 1)))) else (none)) else (none))
end
def ascii_Number.f (k : Nat) (a0 : ByteArray) (a1 : Int) : Option (Int × Bool) := ascii_Number.l0 k a0 a1 0 (a0.size : Int) 0
set_option maxHeartbeats 8000000 in
set_option maxRecDepth 100000 in
theorem ascii_Number.calls (k : Nat) (a0 : ByteArray) (a1 r1 : Int) (r2 : Bool) (w : World) (hG_ : GW w) (h : ascii_Number.f k a0 a1 = some (r1, r2)) :
  Calls Tryz.prog 29 #[.string a0, .int .i64 a1] w fun e w' => e = .returned (.tuple #[.int .i64 r1, .bool r2]) ∧ Below w.heap.size w w' := by
 have HB := Aside0.mk (Below.refl w.heap.size w)
 have H : (ascii_Number.l0 k a0 a1 0 (a0.size : Int) 0) = some (r1, r2) := h
 clear h
 have H' := Aside0.mk H
 clear H
 go_enter Tryz.func29, Tryz.ntmps29
 go_wp2
 go_loopg [6, 11] k (fun kq v6 v11 w' => ∃ (x6_1 x11_1 : Int), v6 = .int .i64 x6_1 ∧ v11 = .int .i64 x11_1 ∧ Aside0 (ascii_Number.l0 kq a0 a1 x6_1 (a0.size : Int) x11_1 = some (r1, r2)) ∧ Aside0 (kq ≤ k) ∧ Aside0 (Below w.heap.size w w'))
 case atStart => exact ⟨(0), (0), z51_, z51_, H', ⟨Nat.le_refl _⟩, ⟨z25_⟩⟩
 case round =>
  clear H'
  obtain ⟨x6_1, x11_1, rfl, rfl, HA, HK1, HB⟩ := hrel
  cases gk with
  | zero => exact absurd HA.out (by simp [ascii_Number.l0])
  | succ k1 =>
   have H := HA.out
   clear HA
   simp only [ascii_Number.l0] at H
   by_cases c3 : x11_1 < (a0.size : Int)
   ·rw [if_pos c3] at H
    have c3b0 : decide (x11_1 < (a0.size : Int)) = true := decide_eq_true c3; clear c3; have HC4 := Aside0.mk H; clear H
    go_upto_region 5 with (fail)
    go_cut [23] (fun v23 wc => ∃ (kq : Nat) (x23_3 : Bool), v23 = .bool x23_3 ∧ Aside0 (ascii_Number.j1 kq a0 a1 x6_1 x11_1 (a0.size : Int) x11_1 x23_3 = some (r1, r2)) ∧ Aside0 (kq ≤ k1) ∧ Aside0 (Below w.heap.size w wc))
    case first =>
     have H := HC4.out
     clear HC4
     by_cases c5 : 0 ≤ x11_1
     ·rw [if_pos c5] at H
      have c5b0 : decide (0 ≤ x11_1) = true := decide_eq_true c5; clear c5
      (first | rw [c5b0] | (simp only [i64_w, i32_w]; rw [c5b0]) | skip)
      by_cases c6 : x11_1 < (a0.size : Int)
      ·rw [if_pos c6] at H
       have c6b0 : decide (x11_1 < (a0.size : Int)) = true := decide_eq_true c6; clear c6
       by_cases c8 : (bt a0 x11_1) < 48
       ·rw [if_pos c8] at H
        have c8b0 : decide ((bt a0 x11_1) < 48) = true := decide_eq_true c8; clear c8
        have H' := Aside0.mk H
        clear H
        have p7 : 0 ≤ (x11_1 : Int) := of_decide_eq_true z55_
        have q7 : x11_1 < (a0.size : Int) := of_decide_eq_true z55_
        have hx7 := bt_at a0 x11_1
        replace p7 := eq_true p7
        replace q7 := eq_true q7
        go_wp2; go_meet
        case rel => exact ⟨_, (true), z51_, H', ⟨z54_⟩, ⟨z25_⟩⟩
       ·rw [if_neg c8] at H
        have c8b0 : decide ((bt a0 x11_1) < 48) = false := decide_eq_false c8; clear c8
        have H' := Aside0.mk H
        clear H
        have p7 : 0 ≤ (x11_1 : Int) := of_decide_eq_true z55_
        have q7 : x11_1 < (a0.size : Int) := of_decide_eq_true z55_
        have hx7 := bt_at a0 x11_1
        replace p7 := eq_true p7
        replace q7 := eq_true q7
        have p9 : 0 ≤ (x11_1 : Int) := of_decide_eq_true z55_
        have q9 : x11_1 < (a0.size : Int) := of_decide_eq_true z55_
        have hx9 := bt_at a0 x11_1
        replace p9 := eq_true p9
        replace q9 := eq_true q9
        go_wp2; go_meet
        case rel => exact ⟨_, (decide ((bt a0 x11_1) > 57)), z51_, H', ⟨z54_⟩, ⟨z25_⟩⟩
      ·rw [if_neg c6] at H
       exact absurd H (by simp)
     ·rw [if_neg c5] at H
      exact absurd H (by simp)
    case rest =>
     clear HC4; (try clear c3); (try clear c3b0)
     obtain ⟨kq, x23_3, rfl, HA, HJ3, HB⟩ := hcut
     cases kq with
     | zero => exact absurd HA.out (by simp [ascii_Number.j1])
     | succ kj3 =>
      have H := HA.out
      clear HA
      simp only [ascii_Number.j1] at H
      by_cases c10 : x23_3 = true
      ·subst c10
       have H1 : (some (0, false)) = some (r1, r2) := by rw [if_pos rfl] at H; exact H
       clear H
       have H := H1
       clear H1
       simp only [Option.some.injEq, Prod.mk.injEq] at H
       obtain ⟨rfl, rfl⟩ := H
       go_wp2
       go_ret2
       exact ⟨z28_, z25_⟩
      ·replace c10 := Bool.eq_false_iff.mpr c10
       subst c10
       have H1 : (if 0 ≤ x11_1 then (if x11_1 < (a0.size : Int) then (if x6_1 > (wrap64 (Int.tdiv (wrap64 (a1 - (((bt a0 x11_1) - 48) % 256))) 10)) then (ascii_Number.l0 kj3 a0 a1 a1 (a0.size : Int) (wrap64 (x11_1 + 1))) else (ascii_Number.l0 kj3 a0 a1 (mn (wrap64 ((wrap64 (10 * x6_1)) + (((bt a0 x11_1) - 48) % 256))) a1) (a0.size : Int) (wrap64 (x11_1 + 1)))) else (none)) else (none)) = some (r1, r2) := by rw [if_neg (show ¬ (false = true) by decide)] at H; exact H
       clear H
       have H := H1
       clear H1
       by_cases c11 : 0 ≤ x11_1
       ·rw [if_pos c11] at H
        have c11b0 : decide (0 ≤ x11_1) = true := decide_eq_true c11; clear c11
        by_cases c12 : x11_1 < (a0.size : Int)
        ·rw [if_pos c12] at H
         have c12b0 : decide (x11_1 < (a0.size : Int)) = true := decide_eq_true c12; clear c12
         by_cases c14 : x6_1 > (wrap64 (Int.tdiv (wrap64 (a1 - (((bt a0 x11_1) - 48) % 256))) 10))
         ·rw [if_pos c14] at H
          have c14b0 : decide ((wrap64 (Int.tdiv (wrap64 (a1 - (((bt a0 x11_1) - 48) % 256))) 10)) < x6_1) = true := decide_eq_true c14; clear c14
          have H' := Aside0.mk H
          clear H
          have p13 : 0 ≤ (x11_1 : Int) := of_decide_eq_true z55_
          have q13 : x11_1 < (a0.size : Int) := of_decide_eq_true z55_
          have hx13 := bt_at a0 x11_1
          replace p13 := eq_true p13
          replace q13 := eq_true q13
          go_wp2
          go_roundg kj3
          case measure => have := HK1.out; have := HJ3.out; omega
          case rel => exact ⟨(a1), (wrap64 (x11_1 + 1)), z51_, z51_, H', ⟨by have := HK1.out; have := HJ3.out; omega⟩, ⟨z25_⟩⟩
         ·rw [if_neg c14] at H
          have c14b0 : decide ((wrap64 (Int.tdiv (wrap64 (a1 - (((bt a0 x11_1) - 48) % 256))) 10)) < x6_1) = false := decide_eq_false c14; clear c14
          obtain ⟨ji15, hji15⟩ : ∃ j_ : Int, (mn (wrap64 ((wrap64 (10 * x6_1)) + (((bt a0 x11_1) - 48) % 256))) a1) = j_ := ⟨_, rfl⟩
          replace H : (ascii_Number.l0 kj3 a0 a1 ji15 (a0.size : Int) (wrap64 (x11_1 + 1))) = some (r1, r2) := by first | (rw [hji15] at H; exact H) | (simp only [hji15] at H ⊢; exact H)
          have hji15_ : (if a1 < (wrap64 ((wrap64 (10 * x6_1)) + (((bt a0 x11_1) - 48) % 256))) then a1 else (wrap64 ((wrap64 (10 * x6_1)) + (((bt a0 x11_1) - 48) % 256)))) = ji15 := hji15
          have H' := Aside0.mk H
          clear H
          have p13 : 0 ≤ (x11_1 : Int) := of_decide_eq_true z55_
          have q13 : x11_1 < (a0.size : Int) := of_decide_eq_true z55_
          have hx13 := bt_at a0 x11_1
          replace p13 := eq_true p13
          replace q13 := eq_true q13
          go_wp2
          go_roundg kj3
          case measure => have := HK1.out; have := HJ3.out; omega
          case rel => exact ⟨(ji15), (wrap64 (x11_1 + 1)), (by first | rfl | (simp [nil_bne, nil_beq]; done) | (simp; done) | (simp only [← hji15] <;> (first | rfl | simp)) | (simp [*]; done)), z51_, H', ⟨by have := HK1.out; have := HJ3.out; omega⟩, ⟨z25_⟩⟩
        ·rw [if_neg c12] at H
         exact absurd H (by simp)
       ·rw [if_neg c11] at H
        exact absurd H (by simp)
   ·rw [if_neg c3] at H
    have c3b0 : decide (x11_1 < (a0.size : Int)) = false := decide_eq_false c3; clear c3
    simp only [Option.some.injEq, Prod.mk.injEq] at H
    obtain ⟨rfl, rfl⟩ := H
    go_wp2
    go_ret2
    exact ⟨z28_, z25_⟩

def pursuivantref04_Sign.f (a0 : Int) : Option (Bool) := if a0 ≥ 48 then (if a0 ≤ 57 then (some true) else (if a0 ≥ 65 then (if a0 ≤ 90 then (some true) else (if a0 ≥ 97 then (if a0 ≤ 122 then (some true) else (if a0 = 33 then (some true) else (if a0 ≥ 35 then (if a0 ≤ 39 then (some true) else (if a0 = 42 then (some true) else (if a0 = 43 then (some true) else (if a0 = 45 then (some true) else (if a0 = 46 then (some true) else (if a0 ≥ 94 then (if a0 ≤ 96 then (some true) else (if a0 = 124 then (some true) else (some (a0 == 126)))) else (if a0 = 124 then (some true) else (some (a0 == 126))))))))) else (if a0 = 42 then (some true) else (if a0 = 43 then (some true) else (if a0 = 45 then (some true) else (if a0 = 46 then (some true) else (if a0 ≥ 94 then (if a0 ≤ 96 then (some true) else (if a0 = 124 then (some true) else (some (a0 == 126)))) else (if a0 = 124 then (some true) else (some (a0 == 126))))))))))) else (if a0 = 33 then (some true) else (if a0 ≥ 35 then (if a0 ≤ 39 then (some true) else (if a0 = 42 then (some true) else (if a0 = 43 then (some true) else (if a0 = 45 then (some true) else (if a0 = 46 then (some true) else (if a0 ≥ 94 then (if a0 ≤ 96 then (some true) else (if a0 = 124 then (some true) else (some (a0 == 126)))) else (if a0 = 124 then (some true) else (some (a0 == 126))))))))) else (if a0 = 42 then (some true) else (if a0 = 43 then (some true) else (if a0 = 45 then (some true) else (if a0 = 46 then (some true) else (if a0 ≥ 94 then (if a0 ≤ 96 then (some true) else (if a0 = 124 then (some true) else (some (a0 == 126)))) else (if a0 = 124 then (some true) else (some (a0 == 126)))))))))))) else (if a0 ≥ 97 then (if a0 ≤ 122 then (some true) else (if a0 = 33 then (some true) else (if a0 ≥ 35 then (if a0 ≤ 39 then (some true) else (if a0 = 42 then (some true) else (if a0 = 43 then (some true) else (if a0 = 45 then (some true) else (if a0 = 46 then (some true) else (if a0 ≥ 94 then (if a0 ≤ 96 then (some true) else (if a0 = 124 then (some true) else (some (a0 == 126)))) else (if a0 = 124 then (some true) else (some (a0 == 126))))))))) else (if a0 = 42 then (some true) else (if a0 = 43 then (some true) else (if a0 = 45 then (some true) else (if a0 = 46 then (some true) else (if a0 ≥ 94 then (if a0 ≤ 96 then (some true) else (if a0 = 124 then (some true) else (some (a0 == 126)))) else (if a0 = 124 then (some true) else (some (a0 == 126))))))))))) else (if a0 = 33 then (some true) else (if a0 ≥ 35 then (if a0 ≤ 39 then (some true) else (if a0 = 42 then (some true) else (if a0 = 43 then (some true) else (if a0 = 45 then (some true) else (if a0 = 46 then (some true) else (if a0 ≥ 94 then (if a0 ≤ 96 then (some true) else (if a0 = 124 then (some true) else (some (a0 == 126)))) else (if a0 = 124 then (some true) else (some (a0 == 126))))))))) else (if a0 = 42 then (some true) else (if a0 = 43 then (some true) else (if a0 = 45 then (some true) else (if a0 = 46 then (some true) else (if a0 ≥ 94 then (if a0 ≤ 96 then (some true) else (if a0 = 124 then (some true) else (some (a0 == 126)))) else (if a0 = 124 then (some true) else (some (a0 == 126))))))))))))) else (if a0 ≥ 65 then (if a0 ≤ 90 then (some true) else (if a0 ≥ 97 then (if a0 ≤ 122 then (some true) else (if a0 = 33 then (some true) else (if a0 ≥ 35 then (if a0 ≤ 39 then (some true) else (if a0 = 42 then (some true) else (if a0 = 43 then (some true) else (if a0 = 45 then (some true) else (if a0 = 46 then (some true) else (if a0 ≥ 94 then (if a0 ≤ 96 then (some true) else (if a0 = 124 then (some true) else (some (a0 == 126)))) else (if a0 = 124 then (some true) else (some (a0 == 126))))))))) else (if a0 = 42 then (some true) else (if a0 = 43 then (some true) else (if a0 = 45 then (some true) else (if a0 = 46 then (some true) else (if a0 ≥ 94 then (if a0 ≤ 96 then (some true) else (if a0 = 124 then (some true) else (some (a0 == 126)))) else (if a0 = 124 then (some true) else (some (a0 == 126))))))))))) else (if a0 = 33 then (some true) else (if a0 ≥ 35 then (if a0 ≤ 39 then (some true) else (if a0 = 42 then (some true) else (if a0 = 43 then (some true) else (if a0 = 45 then (some true) else (if a0 = 46 then (some true) else (if a0 ≥ 94 then (if a0 ≤ 96 then (some true) else (if a0 = 124 then (some true) else (some (a0 == 126)))) else (if a0 = 124 then (some true) else (some (a0 == 126))))))))) else (if a0 = 42 then (some true) else (if a0 = 43 then (some true) else (if a0 = 45 then (some true) else (if a0 = 46 then (some true) else (if a0 ≥ 94 then (if a0 ≤ 96 then (some true) else (if a0 = 124 then (some true) else (some (a0 == 126)))) else (if a0 = 124 then (some true) else (some (a0 == 126)))))))))))) else (if a0 ≥ 97 then (if a0 ≤ 122 then (some true) else (if a0 = 33 then (some true) else (if a0 ≥ 35 then (if a0 ≤ 39 then (some true) else (if a0 = 42 then (some true) else (if a0 = 43 then (some true) else (if a0 = 45 then (some true) else (if a0 = 46 then (some true) else (if a0 ≥ 94 then (if a0 ≤ 96 then (some true) else (if a0 = 124 then (some true) else (some (a0 == 126)))) else (if a0 = 124 then (some true) else (some (a0 == 126))))))))) else (if a0 = 42 then (some true) else (if a0 = 43 then (some true) else (if a0 = 45 then (some true) else (if a0 = 46 then (some true) else (if a0 ≥ 94 then (if a0 ≤ 96 then (some true) else (if a0 = 124 then (some true) else (some (a0 == 126)))) else (if a0 = 124 then (some true) else (some (a0 == 126))))))))))) else (if a0 = 33 then (some true) else (if a0 ≥ 35 then (if a0 ≤ 39 then (some true) else (if a0 = 42 then (some true) else (if a0 = 43 then (some true) else (if a0 = 45 then (some true) else (if a0 = 46 then (some true) else (if a0 ≥ 94 then (if a0 ≤ 96 then (some true) else (if a0 = 124 then (some true) else (some (a0 == 126)))) else (if a0 = 124 then (some true) else (some (a0 == 126))))))))) else (if a0 = 42 then (some true) else (if a0 = 43 then (some true) else (if a0 = 45 then (some true) else (if a0 = 46 then (some true) else (if a0 ≥ 94 then (if a0 ≤ 96 then (some true) else (if a0 = 124 then (some true) else (some (a0 == 126)))) else (if a0 = 124 then (some true) else (some (a0 == 126))))))))))))
set_option maxHeartbeats 8000000 in
set_option maxRecDepth 100000 in
theorem pursuivantref04_Sign.calls (a0 : Int) (r : Bool) (w : World) (hG_ : GW w) (h : pursuivantref04_Sign.f a0 = some r) :
  Calls Tryz.prog 57 #[.int .u8 a0] w fun e w' => e = .returned (.bool r) ∧ Drawn0 w w' := by
 have H : (if a0 ≥ 48 then (if a0 ≤ 57 then (some true) else (if a0 ≥ 65 then (if a0 ≤ 90 then (some true) else (if a0 ≥ 97 then (if a0 ≤ 122 then (some true) else (if a0 = 33 then (some true) else (if a0 ≥ 35 then (if a0 ≤ 39 then (some true) else (if a0 = 42 then (some true) else (if a0 = 43 then (some true) else (if a0 = 45 then (some true) else (if a0 = 46 then (some true) else (if a0 ≥ 94 then (if a0 ≤ 96 then (some true) else (if a0 = 124 then (some true) else (some (a0 == 126)))) else (if a0 = 124 then (some true) else (some (a0 == 126))))))))) else (if a0 = 42 then (some true) else (if a0 = 43 then (some true) else (if a0 = 45 then (some true) else (if a0 = 46 then (some true) else (if a0 ≥ 94 then (if a0 ≤ 96 then (some true) else (if a0 = 124 then (some true) else (some (a0 == 126)))) else (if a0 = 124 then (some true) else (some (a0 == 126))))))))))) else (if a0 = 33 then (some true) else (if a0 ≥ 35 then (if a0 ≤ 39 then (some true) else (if a0 = 42 then (some true) else (if a0 = 43 then (some true) else (if a0 = 45 then (some true) else (if a0 = 46 then (some true) else (if a0 ≥ 94 then (if a0 ≤ 96 then (some true) else (if a0 = 124 then (some true) else (some (a0 == 126)))) else (if a0 = 124 then (some true) else (some (a0 == 126))))))))) else (if a0 = 42 then (some true) else (if a0 = 43 then (some true) else (if a0 = 45 then (some true) else (if a0 = 46 then (some true) else (if a0 ≥ 94 then (if a0 ≤ 96 then (some true) else (if a0 = 124 then (some true) else (some (a0 == 126)))) else (if a0 = 124 then (some true) else (some (a0 == 126)))))))))))) else (if a0 ≥ 97 then (if a0 ≤ 122 then (some true) else (if a0 = 33 then (some true) else (if a0 ≥ 35 then (if a0 ≤ 39 then (some true) else (if a0 = 42 then (some true) else (if a0 = 43 then (some true) else (if a0 = 45 then (some true) else (if a0 = 46 then (some true) else (if a0 ≥ 94 then (if a0 ≤ 96 then (some true) else (if a0 = 124 then (some true) else (some (a0 == 126)))) else (if a0 = 124 then (some true) else (some (a0 == 126))))))))) else (if a0 = 42 then (some true) else (if a0 = 43 then (some true) else (if a0 = 45 then (some true) else (if a0 = 46 then (some true) else (if a0 ≥ 94 then (if a0 ≤ 96 then (some true) else (if a0 = 124 then (some true) else (some (a0 == 126)))) else (if a0 = 124 then (some true) else (some (a0 == 126))))))))))) else (if a0 = 33 then (some true) else (if a0 ≥ 35 then (if a0 ≤ 39 then (some true) else (if a0 = 42 then (some true) else (if a0 = 43 then (some true) else (if a0 = 45 then (some true) else (if a0 = 46 then (some true) else (if a0 ≥ 94 then (if a0 ≤ 96 then (some true) else (if a0 = 124 then (some true) else (some (a0 == 126)))) else (if a0 = 124 then (some true) else (some (a0 == 126))))))))) else (if a0 = 42 then (some true) else (if a0 = 43 then (some true) else (if a0 = 45 then (some true) else (if a0 = 46 then (some true) else (if a0 ≥ 94 then (if a0 ≤ 96 then (some true) else (if a0 = 124 then (some true) else (some (a0 == 126)))) else (if a0 = 124 then (some true) else (some (a0 == 126))))))))))))) else (if a0 ≥ 65 then (if a0 ≤ 90 then (some true) else (if a0 ≥ 97 then (if a0 ≤ 122 then (some true) else (if a0 = 33 then (some true) else (if a0 ≥ 35 then (if a0 ≤ 39 then (some true) else (if a0 = 42 then (some true) else (if a0 = 43 then (some true) else (if a0 = 45 then (some true) else (if a0 = 46 then (some true) else (if a0 ≥ 94 then (if a0 ≤ 96 then (some true) else (if a0 = 124 then (some true) else (some (a0 == 126)))) else (if a0 = 124 then (some true) else (some (a0 == 126))))))))) else (if a0 = 42 then (some true) else (if a0 = 43 then (some true) else (if a0 = 45 then (some true) else (if a0 = 46 then (some true) else (if a0 ≥ 94 then (if a0 ≤ 96 then (some true) else (if a0 = 124 then (some true) else (some (a0 == 126)))) else (if a0 = 124 then (some true) else (some (a0 == 126))))))))))) else (if a0 = 33 then (some true) else (if a0 ≥ 35 then (if a0 ≤ 39 then (some true) else (if a0 = 42 then (some true) else (if a0 = 43 then (some true) else (if a0 = 45 then (some true) else (if a0 = 46 then (some true) else (if a0 ≥ 94 then (if a0 ≤ 96 then (some true) else (if a0 = 124 then (some true) else (some (a0 == 126)))) else (if a0 = 124 then (some true) else (some (a0 == 126))))))))) else (if a0 = 42 then (some true) else (if a0 = 43 then (some true) else (if a0 = 45 then (some true) else (if a0 = 46 then (some true) else (if a0 ≥ 94 then (if a0 ≤ 96 then (some true) else (if a0 = 124 then (some true) else (some (a0 == 126)))) else (if a0 = 124 then (some true) else (some (a0 == 126)))))))))))) else (if a0 ≥ 97 then (if a0 ≤ 122 then (some true) else (if a0 = 33 then (some true) else (if a0 ≥ 35 then (if a0 ≤ 39 then (some true) else (if a0 = 42 then (some true) else (if a0 = 43 then (some true) else (if a0 = 45 then (some true) else (if a0 = 46 then (some true) else (if a0 ≥ 94 then (if a0 ≤ 96 then (some true) else (if a0 = 124 then (some true) else (some (a0 == 126)))) else (if a0 = 124 then (some true) else (some (a0 == 126))))))))) else (if a0 = 42 then (some true) else (if a0 = 43 then (some true) else (if a0 = 45 then (some true) else (if a0 = 46 then (some true) else (if a0 ≥ 94 then (if a0 ≤ 96 then (some true) else (if a0 = 124 then (some true) else (some (a0 == 126)))) else (if a0 = 124 then (some true) else (some (a0 == 126))))))))))) else (if a0 = 33 then (some true) else (if a0 ≥ 35 then (if a0 ≤ 39 then (some true) else (if a0 = 42 then (some true) else (if a0 = 43 then (some true) else (if a0 = 45 then (some true) else (if a0 = 46 then (some true) else (if a0 ≥ 94 then (if a0 ≤ 96 then (some true) else (if a0 = 124 then (some true) else (some (a0 == 126)))) else (if a0 = 124 then (some true) else (some (a0 == 126))))))))) else (if a0 = 42 then (some true) else (if a0 = 43 then (some true) else (if a0 = 45 then (some true) else (if a0 = 46 then (some true) else (if a0 ≥ 94 then (if a0 ≤ 96 then (some true) else (if a0 = 124 then (some true) else (some (a0 == 126)))) else (if a0 = 124 then (some true) else (some (a0 == 126))))))))))))) = some r := h
 clear h
 by_cases c2 : a0 ≥ 48
 ·rw [if_pos c2] at H
  have c2b0 : decide (48 ≤ a0) = true := decide_eq_true c2; clear c2
  by_cases c3 : a0 ≤ 57
  ·rw [if_pos c3] at H
   have c3b0 : decide (a0 ≤ 57) = true := decide_eq_true c3; clear c3
   obtain rfl := Option.some.inj H
   go_enter Tryz.func57, Tryz.ntmps57
   go_wp2
   go_ret
   exact ⟨z51_, z52_⟩
  ·rw [if_neg c3] at H
   have c3b0 : decide (a0 ≤ 57) = false := decide_eq_false c3; clear c3
   by_cases c4 : a0 ≥ 65
   ·rw [if_pos c4] at H
    have c4b0 : decide (65 ≤ a0) = true := decide_eq_true c4; clear c4
    by_cases c5 : a0 ≤ 90
    ·rw [if_pos c5] at H
     have c5b0 : decide (a0 ≤ 90) = true := decide_eq_true c5; clear c5
     obtain rfl := Option.some.inj H
     go_enter Tryz.func57, Tryz.ntmps57
     go_wp2
     go_ret
     exact ⟨z51_, z52_⟩
    ·rw [if_neg c5] at H
     have c5b0 : decide (a0 ≤ 90) = false := decide_eq_false c5; clear c5
     by_cases c6 : a0 ≥ 97
     ·rw [if_pos c6] at H
      have c6b0 : decide (97 ≤ a0) = true := decide_eq_true c6; clear c6
      by_cases c7 : a0 ≤ 122
      ·rw [if_pos c7] at H
       have c7b0 : decide (a0 ≤ 122) = true := decide_eq_true c7; clear c7
       obtain rfl := Option.some.inj H
       go_enter Tryz.func57, Tryz.ntmps57
       go_wp2
       go_ret
       exact ⟨z51_, z52_⟩
      ·rw [if_neg c7] at H
       have c7b0 : decide (a0 ≤ 122) = false := decide_eq_false c7; clear c7
       by_cases c8 : a0 = 33
       ·rw [if_pos c8] at H
        have c8b0 : (a0 == 33) = true := beq_iff_eq.mpr c8
        have c8b1 : (a0 != 33) = false := bne_eq_false_iff_eq.mpr c8
        clear c8
        obtain rfl := Option.some.inj H
        go_enter Tryz.func57, Tryz.ntmps57
        go_wp2
        go_ret
        exact ⟨z51_, z52_⟩
       ·rw [if_neg c8] at H
        have c8b0 : (a0 == 33) = false := beq_eq_false_iff_ne.mpr c8
        have c8b1 : (a0 != 33) = true := bne_iff_ne.mpr c8
        by_cases c9 : a0 ≥ 35
        ·rw [if_pos c9] at H
         have c9b0 : decide (35 ≤ a0) = true := decide_eq_true c9; clear c9
         by_cases c10 : a0 ≤ 39
         ·rw [if_pos c10] at H
          have c10b0 : decide (a0 ≤ 39) = true := decide_eq_true c10; clear c10
          obtain rfl := Option.some.inj H
          go_enter Tryz.func57, Tryz.ntmps57
          go_wp2
          go_ret
          exact ⟨z51_, z52_⟩
         ·rw [if_neg c10] at H
          have c10b0 : decide (a0 ≤ 39) = false := decide_eq_false c10; clear c10
          by_cases c11 : a0 = 42
          ·rw [if_pos c11] at H
           have c11b0 : (a0 == 42) = true := beq_iff_eq.mpr c11
           have c11b1 : (a0 != 42) = false := bne_eq_false_iff_eq.mpr c11
           clear c11
           obtain rfl := Option.some.inj H
           go_enter Tryz.func57, Tryz.ntmps57
           go_wp2
           go_ret
           exact ⟨z51_, z52_⟩
          ·rw [if_neg c11] at H
           have c11b0 : (a0 == 42) = false := beq_eq_false_iff_ne.mpr c11
           have c11b1 : (a0 != 42) = true := bne_iff_ne.mpr c11
           by_cases c12 : a0 = 43
           ·rw [if_pos c12] at H
            have c12b0 : (a0 == 43) = true := beq_iff_eq.mpr c12
            have c12b1 : (a0 != 43) = false := bne_eq_false_iff_eq.mpr c12
            clear c12
            obtain rfl := Option.some.inj H
            go_enter Tryz.func57, Tryz.ntmps57
            go_wp2
            go_ret
            exact ⟨z51_, z52_⟩
           ·rw [if_neg c12] at H
            have c12b0 : (a0 == 43) = false := beq_eq_false_iff_ne.mpr c12
            have c12b1 : (a0 != 43) = true := bne_iff_ne.mpr c12
            by_cases c13 : a0 = 45
            ·rw [if_pos c13] at H
             have c13b0 : (a0 == 45) = true := beq_iff_eq.mpr c13
             have c13b1 : (a0 != 45) = false := bne_eq_false_iff_eq.mpr c13
             clear c13
             obtain rfl := Option.some.inj H
             go_enter Tryz.func57, Tryz.ntmps57
             go_wp2
             go_ret
             exact ⟨z51_, z52_⟩
            ·rw [if_neg c13] at H
             have c13b0 : (a0 == 45) = false := beq_eq_false_iff_ne.mpr c13
             have c13b1 : (a0 != 45) = true := bne_iff_ne.mpr c13
             by_cases c14 : a0 = 46
             ·rw [if_pos c14] at H
              have c14b0 : (a0 == 46) = true := beq_iff_eq.mpr c14
              have c14b1 : (a0 != 46) = false := bne_eq_false_iff_eq.mpr c14
              clear c14
              obtain rfl := Option.some.inj H
              go_enter Tryz.func57, Tryz.ntmps57
              go_wp2
              go_ret
              exact ⟨z51_, z52_⟩
             ·rw [if_neg c14] at H
              have c14b0 : (a0 == 46) = false := beq_eq_false_iff_ne.mpr c14
              have c14b1 : (a0 != 46) = true := bne_iff_ne.mpr c14
              by_cases c15 : a0 ≥ 94
              ·rw [if_pos c15] at H
               have c15b0 : decide (94 ≤ a0) = true := decide_eq_true c15; clear c15
               by_cases c16 : a0 ≤ 96
               ·rw [if_pos c16] at H
                have c16b0 : decide (a0 ≤ 96) = true := decide_eq_true c16; clear c16
                obtain rfl := Option.some.inj H
                go_enter Tryz.func57, Tryz.ntmps57
                go_wp2
                go_ret
                exact ⟨z51_, z52_⟩
               ·rw [if_neg c16] at H
                have c16b0 : decide (a0 ≤ 96) = false := decide_eq_false c16; clear c16
                by_cases c17 : a0 = 124
                ·rw [if_pos c17] at H
                 have c17b0 : (a0 == 124) = true := beq_iff_eq.mpr c17
                 have c17b1 : (a0 != 124) = false := bne_eq_false_iff_eq.mpr c17
                 clear c17
                 obtain rfl := Option.some.inj H
                 go_enter Tryz.func57, Tryz.ntmps57
                 go_wp2
                 go_ret
                 exact ⟨z51_, z52_⟩
                ·rw [if_neg c17] at H
                 have c17b0 : (a0 == 124) = false := beq_eq_false_iff_ne.mpr c17
                 have c17b1 : (a0 != 124) = true := bne_iff_ne.mpr c17
                 obtain rfl := Option.some.inj H
                 go_enter Tryz.func57, Tryz.ntmps57
                 go_wp2
                 go_ret
                 exact ⟨z51_, z52_⟩
              ·rw [if_neg c15] at H
               have c15b0 : decide (94 ≤ a0) = false := decide_eq_false c15; clear c15
               by_cases c18 : a0 = 124
               ·rw [if_pos c18] at H
                have c18b0 : (a0 == 124) = true := beq_iff_eq.mpr c18
                have c18b1 : (a0 != 124) = false := bne_eq_false_iff_eq.mpr c18
                clear c18
                obtain rfl := Option.some.inj H
                go_enter Tryz.func57, Tryz.ntmps57
                go_wp2
                go_ret
                exact ⟨z51_, z52_⟩
               ·rw [if_neg c18] at H
                have c18b0 : (a0 == 124) = false := beq_eq_false_iff_ne.mpr c18
                have c18b1 : (a0 != 124) = true := bne_iff_ne.mpr c18
                obtain rfl := Option.some.inj H
                go_enter Tryz.func57, Tryz.ntmps57
                go_wp2
                go_ret
                exact ⟨z51_, z52_⟩
        ·rw [if_neg c9] at H
         have c9b0 : decide (35 ≤ a0) = false := decide_eq_false c9; clear c9
         by_cases c19 : a0 = 42
         ·rw [if_pos c19] at H
          have c19b0 : (a0 == 42) = true := beq_iff_eq.mpr c19
          have c19b1 : (a0 != 42) = false := bne_eq_false_iff_eq.mpr c19
          clear c19
          obtain rfl := Option.some.inj H
          go_enter Tryz.func57, Tryz.ntmps57
          go_wp2
          go_ret
          exact ⟨z51_, z52_⟩
         ·rw [if_neg c19] at H
          have c19b0 : (a0 == 42) = false := beq_eq_false_iff_ne.mpr c19
          have c19b1 : (a0 != 42) = true := bne_iff_ne.mpr c19
          by_cases c20 : a0 = 43
          ·rw [if_pos c20] at H
           have c20b0 : (a0 == 43) = true := beq_iff_eq.mpr c20
           have c20b1 : (a0 != 43) = false := bne_eq_false_iff_eq.mpr c20
           clear c20
           obtain rfl := Option.some.inj H
           go_enter Tryz.func57, Tryz.ntmps57
           go_wp2
           go_ret
           exact ⟨z51_, z52_⟩
          ·rw [if_neg c20] at H
           have c20b0 : (a0 == 43) = false := beq_eq_false_iff_ne.mpr c20
           have c20b1 : (a0 != 43) = true := bne_iff_ne.mpr c20
           by_cases c21 : a0 = 45
           ·rw [if_pos c21] at H
            have c21b0 : (a0 == 45) = true := beq_iff_eq.mpr c21
            have c21b1 : (a0 != 45) = false := bne_eq_false_iff_eq.mpr c21
            clear c21
            obtain rfl := Option.some.inj H
            go_enter Tryz.func57, Tryz.ntmps57
            go_wp2
            go_ret
            exact ⟨z51_, z52_⟩
           ·rw [if_neg c21] at H
            have c21b0 : (a0 == 45) = false := beq_eq_false_iff_ne.mpr c21
            have c21b1 : (a0 != 45) = true := bne_iff_ne.mpr c21
            by_cases c22 : a0 = 46
            ·rw [if_pos c22] at H
             have c22b0 : (a0 == 46) = true := beq_iff_eq.mpr c22
             have c22b1 : (a0 != 46) = false := bne_eq_false_iff_eq.mpr c22
             clear c22
             obtain rfl := Option.some.inj H
             go_enter Tryz.func57, Tryz.ntmps57
             go_wp2
             go_ret
             exact ⟨z51_, z52_⟩
            ·rw [if_neg c22] at H
             have c22b0 : (a0 == 46) = false := beq_eq_false_iff_ne.mpr c22
             have c22b1 : (a0 != 46) = true := bne_iff_ne.mpr c22
             by_cases c23 : a0 ≥ 94
             ·rw [if_pos c23] at H
              have c23b0 : decide (94 ≤ a0) = true := decide_eq_true c23; clear c23
              by_cases c24 : a0 ≤ 96
              ·rw [if_pos c24] at H
               have c24b0 : decide (a0 ≤ 96) = true := decide_eq_true c24; clear c24
               obtain rfl := Option.some.inj H
               go_enter Tryz.func57, Tryz.ntmps57
               go_wp2
               go_ret
               exact ⟨z51_, z52_⟩
              ·rw [if_neg c24] at H
               have c24b0 : decide (a0 ≤ 96) = false := decide_eq_false c24; clear c24
               by_cases c25 : a0 = 124
               ·rw [if_pos c25] at H
                have c25b0 : (a0 == 124) = true := beq_iff_eq.mpr c25
                have c25b1 : (a0 != 124) = false := bne_eq_false_iff_eq.mpr c25
                clear c25
                obtain rfl := Option.some.inj H
                go_enter Tryz.func57, Tryz.ntmps57
                go_wp2
                go_ret
                exact ⟨z51_, z52_⟩
               ·rw [if_neg c25] at H
                have c25b0 : (a0 == 124) = false := beq_eq_false_iff_ne.mpr c25
                have c25b1 : (a0 != 124) = true := bne_iff_ne.mpr c25
                obtain rfl := Option.some.inj H
                go_enter Tryz.func57, Tryz.ntmps57
                go_wp2
                go_ret
                exact ⟨z51_, z52_⟩
             ·rw [if_neg c23] at H
              have c23b0 : decide (94 ≤ a0) = false := decide_eq_false c23; clear c23
              by_cases c26 : a0 = 124
              ·rw [if_pos c26] at H
               have c26b0 : (a0 == 124) = true := beq_iff_eq.mpr c26
               have c26b1 : (a0 != 124) = false := bne_eq_false_iff_eq.mpr c26
               clear c26
               obtain rfl := Option.some.inj H
               go_enter Tryz.func57, Tryz.ntmps57
               go_wp2
               go_ret
               exact ⟨z51_, z52_⟩
              ·rw [if_neg c26] at H
               have c26b0 : (a0 == 124) = false := beq_eq_false_iff_ne.mpr c26
               have c26b1 : (a0 != 124) = true := bne_iff_ne.mpr c26
               obtain rfl := Option.some.inj H
               go_enter Tryz.func57, Tryz.ntmps57
               go_wp2
               go_ret
               exact ⟨z51_, z52_⟩
     ·rw [if_neg c6] at H
      have c6b0 : decide (97 ≤ a0) = false := decide_eq_false c6; clear c6
      by_cases c27 : a0 = 33
      ·rw [if_pos c27] at H
       have c27b0 : (a0 == 33) = true := beq_iff_eq.mpr c27
       have c27b1 : (a0 != 33) = false := bne_eq_false_iff_eq.mpr c27
       clear c27
       obtain rfl := Option.some.inj H
       go_enter Tryz.func57, Tryz.ntmps57
       go_wp2
       go_ret
       exact ⟨z51_, z52_⟩
      ·rw [if_neg c27] at H
       have c27b0 : (a0 == 33) = false := beq_eq_false_iff_ne.mpr c27
       have c27b1 : (a0 != 33) = true := bne_iff_ne.mpr c27
       by_cases c28 : a0 ≥ 35
       ·rw [if_pos c28] at H
        have c28b0 : decide (35 ≤ a0) = true := decide_eq_true c28; clear c28
        by_cases c29 : a0 ≤ 39
        ·rw [if_pos c29] at H
         have c29b0 : decide (a0 ≤ 39) = true := decide_eq_true c29; clear c29
         obtain rfl := Option.some.inj H
         go_enter Tryz.func57, Tryz.ntmps57
         go_wp2
         go_ret
         exact ⟨z51_, z52_⟩
        ·rw [if_neg c29] at H
         have c29b0 : decide (a0 ≤ 39) = false := decide_eq_false c29; clear c29
         by_cases c30 : a0 = 42
         ·rw [if_pos c30] at H
          have c30b0 : (a0 == 42) = true := beq_iff_eq.mpr c30
          have c30b1 : (a0 != 42) = false := bne_eq_false_iff_eq.mpr c30
          clear c30
          obtain rfl := Option.some.inj H
          go_enter Tryz.func57, Tryz.ntmps57
          go_wp2
          go_ret
          exact ⟨z51_, z52_⟩
         ·rw [if_neg c30] at H
          have c30b0 : (a0 == 42) = false := beq_eq_false_iff_ne.mpr c30
          have c30b1 : (a0 != 42) = true := bne_iff_ne.mpr c30
          by_cases c31 : a0 = 43
          ·rw [if_pos c31] at H
           have c31b0 : (a0 == 43) = true := beq_iff_eq.mpr c31
           have c31b1 : (a0 != 43) = false := bne_eq_false_iff_eq.mpr c31
           clear c31
           obtain rfl := Option.some.inj H
           go_enter Tryz.func57, Tryz.ntmps57
           go_wp2
           go_ret
           exact ⟨z51_, z52_⟩
          ·rw [if_neg c31] at H
           have c31b0 : (a0 == 43) = false := beq_eq_false_iff_ne.mpr c31
           have c31b1 : (a0 != 43) = true := bne_iff_ne.mpr c31
           by_cases c32 : a0 = 45
           ·rw [if_pos c32] at H
            have c32b0 : (a0 == 45) = true := beq_iff_eq.mpr c32
            have c32b1 : (a0 != 45) = false := bne_eq_false_iff_eq.mpr c32
            clear c32
            obtain rfl := Option.some.inj H
            go_enter Tryz.func57, Tryz.ntmps57
            go_wp2
            go_ret
            exact ⟨z51_, z52_⟩
           ·rw [if_neg c32] at H
            have c32b0 : (a0 == 45) = false := beq_eq_false_iff_ne.mpr c32
            have c32b1 : (a0 != 45) = true := bne_iff_ne.mpr c32
            by_cases c33 : a0 = 46
            ·rw [if_pos c33] at H
             have c33b0 : (a0 == 46) = true := beq_iff_eq.mpr c33
             have c33b1 : (a0 != 46) = false := bne_eq_false_iff_eq.mpr c33
             clear c33
             obtain rfl := Option.some.inj H
             go_enter Tryz.func57, Tryz.ntmps57
             go_wp2
             go_ret
             exact ⟨z51_, z52_⟩
            ·rw [if_neg c33] at H
             have c33b0 : (a0 == 46) = false := beq_eq_false_iff_ne.mpr c33
             have c33b1 : (a0 != 46) = true := bne_iff_ne.mpr c33
             by_cases c34 : a0 ≥ 94
             ·rw [if_pos c34] at H
              have c34b0 : decide (94 ≤ a0) = true := decide_eq_true c34; clear c34
              by_cases c35 : a0 ≤ 96
              ·rw [if_pos c35] at H
               have c35b0 : decide (a0 ≤ 96) = true := decide_eq_true c35; clear c35
               obtain rfl := Option.some.inj H
               go_enter Tryz.func57, Tryz.ntmps57
               go_wp2
               go_ret
               exact ⟨z51_, z52_⟩
              ·rw [if_neg c35] at H
               have c35b0 : decide (a0 ≤ 96) = false := decide_eq_false c35; clear c35
               by_cases c36 : a0 = 124
               ·rw [if_pos c36] at H
                have c36b0 : (a0 == 124) = true := beq_iff_eq.mpr c36
                have c36b1 : (a0 != 124) = false := bne_eq_false_iff_eq.mpr c36
                clear c36
                obtain rfl := Option.some.inj H
                go_enter Tryz.func57, Tryz.ntmps57
                go_wp2
                go_ret
                exact ⟨z51_, z52_⟩
               ·rw [if_neg c36] at H
                have c36b0 : (a0 == 124) = false := beq_eq_false_iff_ne.mpr c36
                have c36b1 : (a0 != 124) = true := bne_iff_ne.mpr c36
                obtain rfl := Option.some.inj H
                go_enter Tryz.func57, Tryz.ntmps57
                go_wp2
                go_ret
                exact ⟨z51_, z52_⟩
             ·rw [if_neg c34] at H
              have c34b0 : decide (94 ≤ a0) = false := decide_eq_false c34; clear c34
              by_cases c37 : a0 = 124
              ·rw [if_pos c37] at H
               have c37b0 : (a0 == 124) = true := beq_iff_eq.mpr c37
               have c37b1 : (a0 != 124) = false := bne_eq_false_iff_eq.mpr c37
               clear c37
               obtain rfl := Option.some.inj H
               go_enter Tryz.func57, Tryz.ntmps57
               go_wp2
               go_ret
               exact ⟨z51_, z52_⟩
              ·rw [if_neg c37] at H
               have c37b0 : (a0 == 124) = false := beq_eq_false_iff_ne.mpr c37
               have c37b1 : (a0 != 124) = true := bne_iff_ne.mpr c37
               obtain rfl := Option.some.inj H
               go_enter Tryz.func57, Tryz.ntmps57
               go_wp2
               go_ret
               exact ⟨z51_, z52_⟩
       ·rw [if_neg c28] at H
        have c28b0 : decide (35 ≤ a0) = false := decide_eq_false c28; clear c28
        by_cases c38 : a0 = 42
        ·rw [if_pos c38] at H
         have c38b0 : (a0 == 42) = true := beq_iff_eq.mpr c38
         have c38b1 : (a0 != 42) = false := bne_eq_false_iff_eq.mpr c38
         clear c38
         obtain rfl := Option.some.inj H
         go_enter Tryz.func57, Tryz.ntmps57
         go_wp2
         go_ret
         exact ⟨z51_, z52_⟩
        ·rw [if_neg c38] at H
         have c38b0 : (a0 == 42) = false := beq_eq_false_iff_ne.mpr c38
         have c38b1 : (a0 != 42) = true := bne_iff_ne.mpr c38
         by_cases c39 : a0 = 43
         ·rw [if_pos c39] at H
          have c39b0 : (a0 == 43) = true := beq_iff_eq.mpr c39
          have c39b1 : (a0 != 43) = false := bne_eq_false_iff_eq.mpr c39
          clear c39
          obtain rfl := Option.some.inj H
          go_enter Tryz.func57, Tryz.ntmps57
          go_wp2
          go_ret
          exact ⟨z51_, z52_⟩
         ·rw [if_neg c39] at H
          have c39b0 : (a0 == 43) = false := beq_eq_false_iff_ne.mpr c39
          have c39b1 : (a0 != 43) = true := bne_iff_ne.mpr c39
          by_cases c40 : a0 = 45
          ·rw [if_pos c40] at H
           have c40b0 : (a0 == 45) = true := beq_iff_eq.mpr c40
           have c40b1 : (a0 != 45) = false := bne_eq_false_iff_eq.mpr c40
           clear c40
           obtain rfl := Option.some.inj H
           go_enter Tryz.func57, Tryz.ntmps57
           go_wp2
           go_ret
           exact ⟨z51_, z52_⟩
          ·rw [if_neg c40] at H
           have c40b0 : (a0 == 45) = false := beq_eq_false_iff_ne.mpr c40
           have c40b1 : (a0 != 45) = true := bne_iff_ne.mpr c40
           by_cases c41 : a0 = 46
           ·rw [if_pos c41] at H
            have c41b0 : (a0 == 46) = true := beq_iff_eq.mpr c41
            have c41b1 : (a0 != 46) = false := bne_eq_false_iff_eq.mpr c41
            clear c41
            obtain rfl := Option.some.inj H
            go_enter Tryz.func57, Tryz.ntmps57
            go_wp2
            go_ret
            exact ⟨z51_, z52_⟩
           ·rw [if_neg c41] at H
            have c41b0 : (a0 == 46) = false := beq_eq_false_iff_ne.mpr c41
            have c41b1 : (a0 != 46) = true := bne_iff_ne.mpr c41
            by_cases c42 : a0 ≥ 94
            ·rw [if_pos c42] at H
             have c42b0 : decide (94 ≤ a0) = true := decide_eq_true c42; clear c42
             by_cases c43 : a0 ≤ 96
             ·rw [if_pos c43] at H
              have c43b0 : decide (a0 ≤ 96) = true := decide_eq_true c43; clear c43
              obtain rfl := Option.some.inj H
              go_enter Tryz.func57, Tryz.ntmps57
              go_wp2
              go_ret
              exact ⟨z51_, z52_⟩
             ·rw [if_neg c43] at H
              have c43b0 : decide (a0 ≤ 96) = false := decide_eq_false c43; clear c43
              by_cases c44 : a0 = 124
              ·rw [if_pos c44] at H
               have c44b0 : (a0 == 124) = true := beq_iff_eq.mpr c44
               have c44b1 : (a0 != 124) = false := bne_eq_false_iff_eq.mpr c44
               clear c44
               obtain rfl := Option.some.inj H
               go_enter Tryz.func57, Tryz.ntmps57
               go_wp2
               go_ret
               exact ⟨z51_, z52_⟩
              ·rw [if_neg c44] at H
               have c44b0 : (a0 == 124) = false := beq_eq_false_iff_ne.mpr c44
               have c44b1 : (a0 != 124) = true := bne_iff_ne.mpr c44
               obtain rfl := Option.some.inj H
               go_enter Tryz.func57, Tryz.ntmps57
               go_wp2
               go_ret
               exact ⟨z51_, z52_⟩
            ·rw [if_neg c42] at H
             have c42b0 : decide (94 ≤ a0) = false := decide_eq_false c42; clear c42
             by_cases c45 : a0 = 124
             ·rw [if_pos c45] at H
              have c45b0 : (a0 == 124) = true := beq_iff_eq.mpr c45
              have c45b1 : (a0 != 124) = false := bne_eq_false_iff_eq.mpr c45
              clear c45
              obtain rfl := Option.some.inj H
              go_enter Tryz.func57, Tryz.ntmps57
              go_wp2
              go_ret
              exact ⟨z51_, z52_⟩
             ·rw [if_neg c45] at H
              have c45b0 : (a0 == 124) = false := beq_eq_false_iff_ne.mpr c45
              have c45b1 : (a0 != 124) = true := bne_iff_ne.mpr c45
              obtain rfl := Option.some.inj H
              go_enter Tryz.func57, Tryz.ntmps57
              go_wp2
              go_ret
              exact ⟨z51_, z52_⟩
   ·rw [if_neg c4] at H
    have c4b0 : decide (65 ≤ a0) = false := decide_eq_false c4; clear c4
    by_cases c46 : a0 ≥ 97
    ·rw [if_pos c46] at H
     have c46b0 : decide (97 ≤ a0) = true := decide_eq_true c46; clear c46
     by_cases c47 : a0 ≤ 122
     ·rw [if_pos c47] at H
      have c47b0 : decide (a0 ≤ 122) = true := decide_eq_true c47; clear c47
      obtain rfl := Option.some.inj H
      go_enter Tryz.func57, Tryz.ntmps57
      go_wp2
      go_ret
      exact ⟨z51_, z52_⟩
     ·rw [if_neg c47] at H
      have c47b0 : decide (a0 ≤ 122) = false := decide_eq_false c47; clear c47
      by_cases c48 : a0 = 33
      ·rw [if_pos c48] at H
       have c48b0 : (a0 == 33) = true := beq_iff_eq.mpr c48
       have c48b1 : (a0 != 33) = false := bne_eq_false_iff_eq.mpr c48
       clear c48
       obtain rfl := Option.some.inj H
       go_enter Tryz.func57, Tryz.ntmps57
       go_wp2
       go_ret
       exact ⟨z51_, z52_⟩
      ·rw [if_neg c48] at H
       have c48b0 : (a0 == 33) = false := beq_eq_false_iff_ne.mpr c48
       have c48b1 : (a0 != 33) = true := bne_iff_ne.mpr c48
       by_cases c49 : a0 ≥ 35
       ·rw [if_pos c49] at H
        have c49b0 : decide (35 ≤ a0) = true := decide_eq_true c49; clear c49
        by_cases c50 : a0 ≤ 39
        ·rw [if_pos c50] at H
         have c50b0 : decide (a0 ≤ 39) = true := decide_eq_true c50; clear c50
         obtain rfl := Option.some.inj H
         go_enter Tryz.func57, Tryz.ntmps57
         go_wp2
         go_ret
         exact ⟨z51_, z52_⟩
        ·rw [if_neg c50] at H
         have c50b0 : decide (a0 ≤ 39) = false := decide_eq_false c50; clear c50
         by_cases c51 : a0 = 42
         ·rw [if_pos c51] at H
          have c51b0 : (a0 == 42) = true := beq_iff_eq.mpr c51
          have c51b1 : (a0 != 42) = false := bne_eq_false_iff_eq.mpr c51
          clear c51
          obtain rfl := Option.some.inj H
          go_enter Tryz.func57, Tryz.ntmps57
          go_wp2
          go_ret
          exact ⟨z51_, z52_⟩
         ·rw [if_neg c51] at H
          have c51b0 : (a0 == 42) = false := beq_eq_false_iff_ne.mpr c51
          have c51b1 : (a0 != 42) = true := bne_iff_ne.mpr c51
          by_cases c52 : a0 = 43
          ·rw [if_pos c52] at H
           have c52b0 : (a0 == 43) = true := beq_iff_eq.mpr c52
           have c52b1 : (a0 != 43) = false := bne_eq_false_iff_eq.mpr c52
           clear c52
           obtain rfl := Option.some.inj H
           go_enter Tryz.func57, Tryz.ntmps57
           go_wp2
           go_ret
           exact ⟨z51_, z52_⟩
          ·rw [if_neg c52] at H
           have c52b0 : (a0 == 43) = false := beq_eq_false_iff_ne.mpr c52
           have c52b1 : (a0 != 43) = true := bne_iff_ne.mpr c52
           by_cases c53 : a0 = 45
           ·rw [if_pos c53] at H
            have c53b0 : (a0 == 45) = true := beq_iff_eq.mpr c53
            have c53b1 : (a0 != 45) = false := bne_eq_false_iff_eq.mpr c53
            clear c53
            obtain rfl := Option.some.inj H
            go_enter Tryz.func57, Tryz.ntmps57
            go_wp2
            go_ret
            exact ⟨z51_, z52_⟩
           ·rw [if_neg c53] at H
            have c53b0 : (a0 == 45) = false := beq_eq_false_iff_ne.mpr c53
            have c53b1 : (a0 != 45) = true := bne_iff_ne.mpr c53
            by_cases c54 : a0 = 46
            ·rw [if_pos c54] at H
             have c54b0 : (a0 == 46) = true := beq_iff_eq.mpr c54
             have c54b1 : (a0 != 46) = false := bne_eq_false_iff_eq.mpr c54
             clear c54
             obtain rfl := Option.some.inj H
             go_enter Tryz.func57, Tryz.ntmps57
             go_wp2
             go_ret
             exact ⟨z51_, z52_⟩
            ·rw [if_neg c54] at H
             have c54b0 : (a0 == 46) = false := beq_eq_false_iff_ne.mpr c54
             have c54b1 : (a0 != 46) = true := bne_iff_ne.mpr c54
             by_cases c55 : a0 ≥ 94
             ·rw [if_pos c55] at H
              have c55b0 : decide (94 ≤ a0) = true := decide_eq_true c55; clear c55
              by_cases c56 : a0 ≤ 96
              ·rw [if_pos c56] at H
               have c56b0 : decide (a0 ≤ 96) = true := decide_eq_true c56; clear c56
               obtain rfl := Option.some.inj H
               go_enter Tryz.func57, Tryz.ntmps57
               go_wp2
               go_ret
               exact ⟨z51_, z52_⟩
              ·rw [if_neg c56] at H
               have c56b0 : decide (a0 ≤ 96) = false := decide_eq_false c56; clear c56
               by_cases c57 : a0 = 124
               ·rw [if_pos c57] at H
                have c57b0 : (a0 == 124) = true := beq_iff_eq.mpr c57
                have c57b1 : (a0 != 124) = false := bne_eq_false_iff_eq.mpr c57
                clear c57
                obtain rfl := Option.some.inj H
                go_enter Tryz.func57, Tryz.ntmps57
                go_wp2
                go_ret
                exact ⟨z51_, z52_⟩
               ·rw [if_neg c57] at H
                have c57b0 : (a0 == 124) = false := beq_eq_false_iff_ne.mpr c57
                have c57b1 : (a0 != 124) = true := bne_iff_ne.mpr c57
                obtain rfl := Option.some.inj H
                go_enter Tryz.func57, Tryz.ntmps57
                go_wp2
                go_ret
                exact ⟨z51_, z52_⟩
             ·rw [if_neg c55] at H
              have c55b0 : decide (94 ≤ a0) = false := decide_eq_false c55; clear c55
              by_cases c58 : a0 = 124
              ·rw [if_pos c58] at H
               have c58b0 : (a0 == 124) = true := beq_iff_eq.mpr c58
               have c58b1 : (a0 != 124) = false := bne_eq_false_iff_eq.mpr c58
               clear c58
               obtain rfl := Option.some.inj H
               go_enter Tryz.func57, Tryz.ntmps57
               go_wp2
               go_ret
               exact ⟨z51_, z52_⟩
              ·rw [if_neg c58] at H
               have c58b0 : (a0 == 124) = false := beq_eq_false_iff_ne.mpr c58
               have c58b1 : (a0 != 124) = true := bne_iff_ne.mpr c58
               obtain rfl := Option.some.inj H
               go_enter Tryz.func57, Tryz.ntmps57
               go_wp2
               go_ret
               exact ⟨z51_, z52_⟩
       ·rw [if_neg c49] at H
        have c49b0 : decide (35 ≤ a0) = false := decide_eq_false c49; clear c49
        by_cases c59 : a0 = 42
        ·rw [if_pos c59] at H
         have c59b0 : (a0 == 42) = true := beq_iff_eq.mpr c59
         have c59b1 : (a0 != 42) = false := bne_eq_false_iff_eq.mpr c59
         clear c59
         obtain rfl := Option.some.inj H
         go_enter Tryz.func57, Tryz.ntmps57
         go_wp2
         go_ret
         exact ⟨z51_, z52_⟩
        ·rw [if_neg c59] at H
         have c59b0 : (a0 == 42) = false := beq_eq_false_iff_ne.mpr c59
         have c59b1 : (a0 != 42) = true := bne_iff_ne.mpr c59
         by_cases c60 : a0 = 43
         ·rw [if_pos c60] at H
          have c60b0 : (a0 == 43) = true := beq_iff_eq.mpr c60
          have c60b1 : (a0 != 43) = false := bne_eq_false_iff_eq.mpr c60
          clear c60
          obtain rfl := Option.some.inj H
          go_enter Tryz.func57, Tryz.ntmps57
          go_wp2
          go_ret
          exact ⟨z51_, z52_⟩
         ·rw [if_neg c60] at H
          have c60b0 : (a0 == 43) = false := beq_eq_false_iff_ne.mpr c60
          have c60b1 : (a0 != 43) = true := bne_iff_ne.mpr c60
          by_cases c61 : a0 = 45
          ·rw [if_pos c61] at H
           have c61b0 : (a0 == 45) = true := beq_iff_eq.mpr c61
           have c61b1 : (a0 != 45) = false := bne_eq_false_iff_eq.mpr c61
           clear c61
           obtain rfl := Option.some.inj H
           go_enter Tryz.func57, Tryz.ntmps57
           go_wp2
           go_ret
           exact ⟨z51_, z52_⟩
          ·rw [if_neg c61] at H
           have c61b0 : (a0 == 45) = false := beq_eq_false_iff_ne.mpr c61
           have c61b1 : (a0 != 45) = true := bne_iff_ne.mpr c61
           by_cases c62 : a0 = 46
           ·rw [if_pos c62] at H
            have c62b0 : (a0 == 46) = true := beq_iff_eq.mpr c62
            have c62b1 : (a0 != 46) = false := bne_eq_false_iff_eq.mpr c62
            clear c62
            obtain rfl := Option.some.inj H
            go_enter Tryz.func57, Tryz.ntmps57
            go_wp2
            go_ret
            exact ⟨z51_, z52_⟩
           ·rw [if_neg c62] at H
            have c62b0 : (a0 == 46) = false := beq_eq_false_iff_ne.mpr c62
            have c62b1 : (a0 != 46) = true := bne_iff_ne.mpr c62
            by_cases c63 : a0 ≥ 94
            ·rw [if_pos c63] at H
             have c63b0 : decide (94 ≤ a0) = true := decide_eq_true c63; clear c63
             by_cases c64 : a0 ≤ 96
             ·rw [if_pos c64] at H
              have c64b0 : decide (a0 ≤ 96) = true := decide_eq_true c64; clear c64
              obtain rfl := Option.some.inj H
              go_enter Tryz.func57, Tryz.ntmps57
              go_wp2
              go_ret
              exact ⟨z51_, z52_⟩
             ·rw [if_neg c64] at H
              have c64b0 : decide (a0 ≤ 96) = false := decide_eq_false c64; clear c64
              by_cases c65 : a0 = 124
              ·rw [if_pos c65] at H
               have c65b0 : (a0 == 124) = true := beq_iff_eq.mpr c65
               have c65b1 : (a0 != 124) = false := bne_eq_false_iff_eq.mpr c65
               clear c65
               obtain rfl := Option.some.inj H
               go_enter Tryz.func57, Tryz.ntmps57
               go_wp2
               go_ret
               exact ⟨z51_, z52_⟩
              ·rw [if_neg c65] at H
               have c65b0 : (a0 == 124) = false := beq_eq_false_iff_ne.mpr c65
               have c65b1 : (a0 != 124) = true := bne_iff_ne.mpr c65
               obtain rfl := Option.some.inj H
               go_enter Tryz.func57, Tryz.ntmps57
               go_wp2
               go_ret
               exact ⟨z51_, z52_⟩
            ·rw [if_neg c63] at H
             have c63b0 : decide (94 ≤ a0) = false := decide_eq_false c63; clear c63
             by_cases c66 : a0 = 124
             ·rw [if_pos c66] at H
              have c66b0 : (a0 == 124) = true := beq_iff_eq.mpr c66
              have c66b1 : (a0 != 124) = false := bne_eq_false_iff_eq.mpr c66
              clear c66
              obtain rfl := Option.some.inj H
              go_enter Tryz.func57, Tryz.ntmps57
              go_wp2
              go_ret
              exact ⟨z51_, z52_⟩
             ·rw [if_neg c66] at H
              have c66b0 : (a0 == 124) = false := beq_eq_false_iff_ne.mpr c66
              have c66b1 : (a0 != 124) = true := bne_iff_ne.mpr c66
              obtain rfl := Option.some.inj H
              go_enter Tryz.func57, Tryz.ntmps57
              go_wp2
              go_ret
              exact ⟨z51_, z52_⟩
    ·rw [if_neg c46] at H
     have c46b0 : decide (97 ≤ a0) = false := decide_eq_false c46; clear c46
     by_cases c67 : a0 = 33
     ·rw [if_pos c67] at H
      have c67b0 : (a0 == 33) = true := beq_iff_eq.mpr c67
      have c67b1 : (a0 != 33) = false := bne_eq_false_iff_eq.mpr c67
      clear c67
      obtain rfl := Option.some.inj H
      go_enter Tryz.func57, Tryz.ntmps57
      go_wp2
      go_ret
      exact ⟨z51_, z52_⟩
     ·rw [if_neg c67] at H
      have c67b0 : (a0 == 33) = false := beq_eq_false_iff_ne.mpr c67
      have c67b1 : (a0 != 33) = true := bne_iff_ne.mpr c67
      by_cases c68 : a0 ≥ 35
      ·rw [if_pos c68] at H
       have c68b0 : decide (35 ≤ a0) = true := decide_eq_true c68; clear c68
       by_cases c69 : a0 ≤ 39
       ·rw [if_pos c69] at H
        have c69b0 : decide (a0 ≤ 39) = true := decide_eq_true c69; clear c69
        obtain rfl := Option.some.inj H
        go_enter Tryz.func57, Tryz.ntmps57
        go_wp2
        go_ret
        exact ⟨z51_, z52_⟩
       ·rw [if_neg c69] at H
        have c69b0 : decide (a0 ≤ 39) = false := decide_eq_false c69; clear c69
        by_cases c70 : a0 = 42
        ·rw [if_pos c70] at H
         have c70b0 : (a0 == 42) = true := beq_iff_eq.mpr c70
         have c70b1 : (a0 != 42) = false := bne_eq_false_iff_eq.mpr c70
         clear c70
         obtain rfl := Option.some.inj H
         go_enter Tryz.func57, Tryz.ntmps57
         go_wp2
         go_ret
         exact ⟨z51_, z52_⟩
        ·rw [if_neg c70] at H
         have c70b0 : (a0 == 42) = false := beq_eq_false_iff_ne.mpr c70
         have c70b1 : (a0 != 42) = true := bne_iff_ne.mpr c70
         by_cases c71 : a0 = 43
         ·rw [if_pos c71] at H
          have c71b0 : (a0 == 43) = true := beq_iff_eq.mpr c71
          have c71b1 : (a0 != 43) = false := bne_eq_false_iff_eq.mpr c71
          clear c71
          obtain rfl := Option.some.inj H
          go_enter Tryz.func57, Tryz.ntmps57
          go_wp2
          go_ret
          exact ⟨z51_, z52_⟩
         ·rw [if_neg c71] at H
          have c71b0 : (a0 == 43) = false := beq_eq_false_iff_ne.mpr c71
          have c71b1 : (a0 != 43) = true := bne_iff_ne.mpr c71
          by_cases c72 : a0 = 45
          ·rw [if_pos c72] at H
           have c72b0 : (a0 == 45) = true := beq_iff_eq.mpr c72
           have c72b1 : (a0 != 45) = false := bne_eq_false_iff_eq.mpr c72
           clear c72
           obtain rfl := Option.some.inj H
           go_enter Tryz.func57, Tryz.ntmps57
           go_wp2
           go_ret
           exact ⟨z51_, z52_⟩
          ·rw [if_neg c72] at H
           have c72b0 : (a0 == 45) = false := beq_eq_false_iff_ne.mpr c72
           have c72b1 : (a0 != 45) = true := bne_iff_ne.mpr c72
           by_cases c73 : a0 = 46
           ·rw [if_pos c73] at H
            have c73b0 : (a0 == 46) = true := beq_iff_eq.mpr c73
            have c73b1 : (a0 != 46) = false := bne_eq_false_iff_eq.mpr c73
            clear c73
            obtain rfl := Option.some.inj H
            go_enter Tryz.func57, Tryz.ntmps57
            go_wp2
            go_ret
            exact ⟨z51_, z52_⟩
           ·rw [if_neg c73] at H
            have c73b0 : (a0 == 46) = false := beq_eq_false_iff_ne.mpr c73
            have c73b1 : (a0 != 46) = true := bne_iff_ne.mpr c73
            by_cases c74 : a0 ≥ 94
            ·rw [if_pos c74] at H
             have c74b0 : decide (94 ≤ a0) = true := decide_eq_true c74; clear c74
             by_cases c75 : a0 ≤ 96
             ·rw [if_pos c75] at H
              have c75b0 : decide (a0 ≤ 96) = true := decide_eq_true c75; clear c75
              obtain rfl := Option.some.inj H
              go_enter Tryz.func57, Tryz.ntmps57
              go_wp2
              go_ret
              exact ⟨z51_, z52_⟩
             ·rw [if_neg c75] at H
              have c75b0 : decide (a0 ≤ 96) = false := decide_eq_false c75; clear c75
              by_cases c76 : a0 = 124
              ·rw [if_pos c76] at H
               have c76b0 : (a0 == 124) = true := beq_iff_eq.mpr c76
               have c76b1 : (a0 != 124) = false := bne_eq_false_iff_eq.mpr c76
               clear c76
               obtain rfl := Option.some.inj H
               go_enter Tryz.func57, Tryz.ntmps57
               go_wp2
               go_ret
               exact ⟨z51_, z52_⟩
              ·rw [if_neg c76] at H
               have c76b0 : (a0 == 124) = false := beq_eq_false_iff_ne.mpr c76
               have c76b1 : (a0 != 124) = true := bne_iff_ne.mpr c76
               obtain rfl := Option.some.inj H
               go_enter Tryz.func57, Tryz.ntmps57
               go_wp2
               go_ret
               exact ⟨z51_, z52_⟩
            ·rw [if_neg c74] at H
             have c74b0 : decide (94 ≤ a0) = false := decide_eq_false c74; clear c74
             by_cases c77 : a0 = 124
             ·rw [if_pos c77] at H
              have c77b0 : (a0 == 124) = true := beq_iff_eq.mpr c77
              have c77b1 : (a0 != 124) = false := bne_eq_false_iff_eq.mpr c77
              clear c77
              obtain rfl := Option.some.inj H
              go_enter Tryz.func57, Tryz.ntmps57
              go_wp2
              go_ret
              exact ⟨z51_, z52_⟩
             ·rw [if_neg c77] at H
              have c77b0 : (a0 == 124) = false := beq_eq_false_iff_ne.mpr c77
              have c77b1 : (a0 != 124) = true := bne_iff_ne.mpr c77
              obtain rfl := Option.some.inj H
              go_enter Tryz.func57, Tryz.ntmps57
              go_wp2
              go_ret
              exact ⟨z51_, z52_⟩
      ·rw [if_neg c68] at H
       have c68b0 : decide (35 ≤ a0) = false := decide_eq_false c68; clear c68
       by_cases c78 : a0 = 42
       ·rw [if_pos c78] at H
        have c78b0 : (a0 == 42) = true := beq_iff_eq.mpr c78
        have c78b1 : (a0 != 42) = false := bne_eq_false_iff_eq.mpr c78
        clear c78
        obtain rfl := Option.some.inj H
        go_enter Tryz.func57, Tryz.ntmps57
        go_wp2
        go_ret
        exact ⟨z51_, z52_⟩
       ·rw [if_neg c78] at H
        have c78b0 : (a0 == 42) = false := beq_eq_false_iff_ne.mpr c78
        have c78b1 : (a0 != 42) = true := bne_iff_ne.mpr c78
        by_cases c79 : a0 = 43
        ·rw [if_pos c79] at H
         have c79b0 : (a0 == 43) = true := beq_iff_eq.mpr c79
         have c79b1 : (a0 != 43) = false := bne_eq_false_iff_eq.mpr c79
         clear c79
         obtain rfl := Option.some.inj H
         go_enter Tryz.func57, Tryz.ntmps57
         go_wp2
         go_ret
         exact ⟨z51_, z52_⟩
        ·rw [if_neg c79] at H
         have c79b0 : (a0 == 43) = false := beq_eq_false_iff_ne.mpr c79
         have c79b1 : (a0 != 43) = true := bne_iff_ne.mpr c79
         by_cases c80 : a0 = 45
         ·rw [if_pos c80] at H
          have c80b0 : (a0 == 45) = true := beq_iff_eq.mpr c80
          have c80b1 : (a0 != 45) = false := bne_eq_false_iff_eq.mpr c80
          clear c80
          obtain rfl := Option.some.inj H
          go_enter Tryz.func57, Tryz.ntmps57
          go_wp2
          go_ret
          exact ⟨z51_, z52_⟩
         ·rw [if_neg c80] at H
          have c80b0 : (a0 == 45) = false := beq_eq_false_iff_ne.mpr c80
          have c80b1 : (a0 != 45) = true := bne_iff_ne.mpr c80
          by_cases c81 : a0 = 46
          ·rw [if_pos c81] at H
           have c81b0 : (a0 == 46) = true := beq_iff_eq.mpr c81
           have c81b1 : (a0 != 46) = false := bne_eq_false_iff_eq.mpr c81
           clear c81
           obtain rfl := Option.some.inj H
           go_enter Tryz.func57, Tryz.ntmps57
           go_wp2
           go_ret
           exact ⟨z51_, z52_⟩
          ·rw [if_neg c81] at H
           have c81b0 : (a0 == 46) = false := beq_eq_false_iff_ne.mpr c81
           have c81b1 : (a0 != 46) = true := bne_iff_ne.mpr c81
           by_cases c82 : a0 ≥ 94
           ·rw [if_pos c82] at H
            have c82b0 : decide (94 ≤ a0) = true := decide_eq_true c82; clear c82
            by_cases c83 : a0 ≤ 96
            ·rw [if_pos c83] at H
             have c83b0 : decide (a0 ≤ 96) = true := decide_eq_true c83; clear c83
             obtain rfl := Option.some.inj H
             go_enter Tryz.func57, Tryz.ntmps57
             go_wp2
             go_ret
             exact ⟨z51_, z52_⟩
            ·rw [if_neg c83] at H
             have c83b0 : decide (a0 ≤ 96) = false := decide_eq_false c83; clear c83
             by_cases c84 : a0 = 124
             ·rw [if_pos c84] at H
              have c84b0 : (a0 == 124) = true := beq_iff_eq.mpr c84
              have c84b1 : (a0 != 124) = false := bne_eq_false_iff_eq.mpr c84
              clear c84
              obtain rfl := Option.some.inj H
              go_enter Tryz.func57, Tryz.ntmps57
              go_wp2
              go_ret
              exact ⟨z51_, z52_⟩
             ·rw [if_neg c84] at H
              have c84b0 : (a0 == 124) = false := beq_eq_false_iff_ne.mpr c84
              have c84b1 : (a0 != 124) = true := bne_iff_ne.mpr c84
              obtain rfl := Option.some.inj H
              go_enter Tryz.func57, Tryz.ntmps57
              go_wp2
              go_ret
              exact ⟨z51_, z52_⟩
           ·rw [if_neg c82] at H
            have c82b0 : decide (94 ≤ a0) = false := decide_eq_false c82; clear c82
            by_cases c85 : a0 = 124
            ·rw [if_pos c85] at H
             have c85b0 : (a0 == 124) = true := beq_iff_eq.mpr c85
             have c85b1 : (a0 != 124) = false := bne_eq_false_iff_eq.mpr c85
             clear c85
             obtain rfl := Option.some.inj H
             go_enter Tryz.func57, Tryz.ntmps57
             go_wp2
             go_ret
             exact ⟨z51_, z52_⟩
            ·rw [if_neg c85] at H
             have c85b0 : (a0 == 124) = false := beq_eq_false_iff_ne.mpr c85
             have c85b1 : (a0 != 124) = true := bne_iff_ne.mpr c85
             obtain rfl := Option.some.inj H
             go_enter Tryz.func57, Tryz.ntmps57
             go_wp2
             go_ret
             exact ⟨z51_, z52_⟩
 ·rw [if_neg c2] at H
  have c2b0 : decide (48 ≤ a0) = false := decide_eq_false c2; clear c2
  by_cases c86 : a0 ≥ 65
  ·rw [if_pos c86] at H
   have c86b0 : decide (65 ≤ a0) = true := decide_eq_true c86; clear c86
   by_cases c87 : a0 ≤ 90
   ·rw [if_pos c87] at H
    have c87b0 : decide (a0 ≤ 90) = true := decide_eq_true c87; clear c87
    obtain rfl := Option.some.inj H
    go_enter Tryz.func57, Tryz.ntmps57
    go_wp2
    go_ret
    exact ⟨z51_, z52_⟩
   ·rw [if_neg c87] at H
    have c87b0 : decide (a0 ≤ 90) = false := decide_eq_false c87; clear c87
    by_cases c88 : a0 ≥ 97
    ·rw [if_pos c88] at H
     have c88b0 : decide (97 ≤ a0) = true := decide_eq_true c88; clear c88
     by_cases c89 : a0 ≤ 122
     ·rw [if_pos c89] at H
      have c89b0 : decide (a0 ≤ 122) = true := decide_eq_true c89; clear c89
      obtain rfl := Option.some.inj H
      go_enter Tryz.func57, Tryz.ntmps57
      go_wp2
      go_ret
      exact ⟨z51_, z52_⟩
     ·rw [if_neg c89] at H
      have c89b0 : decide (a0 ≤ 122) = false := decide_eq_false c89; clear c89
      by_cases c90 : a0 = 33
      ·rw [if_pos c90] at H
       have c90b0 : (a0 == 33) = true := beq_iff_eq.mpr c90
       have c90b1 : (a0 != 33) = false := bne_eq_false_iff_eq.mpr c90
       clear c90
       obtain rfl := Option.some.inj H
       go_enter Tryz.func57, Tryz.ntmps57
       go_wp2
       go_ret
       exact ⟨z51_, z52_⟩
      ·rw [if_neg c90] at H
       have c90b0 : (a0 == 33) = false := beq_eq_false_iff_ne.mpr c90
       have c90b1 : (a0 != 33) = true := bne_iff_ne.mpr c90
       by_cases c91 : a0 ≥ 35
       ·rw [if_pos c91] at H
        have c91b0 : decide (35 ≤ a0) = true := decide_eq_true c91; clear c91
        by_cases c92 : a0 ≤ 39
        ·rw [if_pos c92] at H
         have c92b0 : decide (a0 ≤ 39) = true := decide_eq_true c92; clear c92
         obtain rfl := Option.some.inj H
         go_enter Tryz.func57, Tryz.ntmps57
         go_wp2
         go_ret
         exact ⟨z51_, z52_⟩
        ·rw [if_neg c92] at H
         have c92b0 : decide (a0 ≤ 39) = false := decide_eq_false c92; clear c92
         by_cases c93 : a0 = 42
         ·rw [if_pos c93] at H
          have c93b0 : (a0 == 42) = true := beq_iff_eq.mpr c93
          have c93b1 : (a0 != 42) = false := bne_eq_false_iff_eq.mpr c93
          clear c93
          obtain rfl := Option.some.inj H
          go_enter Tryz.func57, Tryz.ntmps57
          go_wp2
          go_ret
          exact ⟨z51_, z52_⟩
         ·rw [if_neg c93] at H
          have c93b0 : (a0 == 42) = false := beq_eq_false_iff_ne.mpr c93
          have c93b1 : (a0 != 42) = true := bne_iff_ne.mpr c93
          by_cases c94 : a0 = 43
          ·rw [if_pos c94] at H
           have c94b0 : (a0 == 43) = true := beq_iff_eq.mpr c94
           have c94b1 : (a0 != 43) = false := bne_eq_false_iff_eq.mpr c94
           clear c94
           obtain rfl := Option.some.inj H
           go_enter Tryz.func57, Tryz.ntmps57
           go_wp2
           go_ret
           exact ⟨z51_, z52_⟩
          ·rw [if_neg c94] at H
           have c94b0 : (a0 == 43) = false := beq_eq_false_iff_ne.mpr c94
           have c94b1 : (a0 != 43) = true := bne_iff_ne.mpr c94
           by_cases c95 : a0 = 45
           ·rw [if_pos c95] at H
            have c95b0 : (a0 == 45) = true := beq_iff_eq.mpr c95
            have c95b1 : (a0 != 45) = false := bne_eq_false_iff_eq.mpr c95
            clear c95
            obtain rfl := Option.some.inj H
            go_enter Tryz.func57, Tryz.ntmps57
            go_wp2
            go_ret
            exact ⟨z51_, z52_⟩
           ·rw [if_neg c95] at H
            have c95b0 : (a0 == 45) = false := beq_eq_false_iff_ne.mpr c95
            have c95b1 : (a0 != 45) = true := bne_iff_ne.mpr c95
            by_cases c96 : a0 = 46
            ·rw [if_pos c96] at H
             have c96b0 : (a0 == 46) = true := beq_iff_eq.mpr c96
             have c96b1 : (a0 != 46) = false := bne_eq_false_iff_eq.mpr c96
             clear c96
             obtain rfl := Option.some.inj H
             go_enter Tryz.func57, Tryz.ntmps57
             go_wp2
             go_ret
             exact ⟨z51_, z52_⟩
            ·rw [if_neg c96] at H
             have c96b0 : (a0 == 46) = false := beq_eq_false_iff_ne.mpr c96
             have c96b1 : (a0 != 46) = true := bne_iff_ne.mpr c96
             by_cases c97 : a0 ≥ 94
             ·rw [if_pos c97] at H
              have c97b0 : decide (94 ≤ a0) = true := decide_eq_true c97; clear c97
              by_cases c98 : a0 ≤ 96
              ·rw [if_pos c98] at H
               have c98b0 : decide (a0 ≤ 96) = true := decide_eq_true c98; clear c98
               obtain rfl := Option.some.inj H
               go_enter Tryz.func57, Tryz.ntmps57
               go_wp2
               go_ret
               exact ⟨z51_, z52_⟩
              ·rw [if_neg c98] at H
               have c98b0 : decide (a0 ≤ 96) = false := decide_eq_false c98; clear c98
               by_cases c99 : a0 = 124
               ·rw [if_pos c99] at H
                have c99b0 : (a0 == 124) = true := beq_iff_eq.mpr c99
                have c99b1 : (a0 != 124) = false := bne_eq_false_iff_eq.mpr c99
                clear c99
                obtain rfl := Option.some.inj H
                go_enter Tryz.func57, Tryz.ntmps57
                go_wp2
                go_ret
                exact ⟨z51_, z52_⟩
               ·rw [if_neg c99] at H
                have c99b0 : (a0 == 124) = false := beq_eq_false_iff_ne.mpr c99
                have c99b1 : (a0 != 124) = true := bne_iff_ne.mpr c99
                obtain rfl := Option.some.inj H
                go_enter Tryz.func57, Tryz.ntmps57
                go_wp2
                go_ret
                exact ⟨z51_, z52_⟩
             ·rw [if_neg c97] at H
              have c97b0 : decide (94 ≤ a0) = false := decide_eq_false c97; clear c97
              by_cases c100 : a0 = 124
              ·rw [if_pos c100] at H
               have c100b0 : (a0 == 124) = true := beq_iff_eq.mpr c100
               have c100b1 : (a0 != 124) = false := bne_eq_false_iff_eq.mpr c100
               clear c100
               obtain rfl := Option.some.inj H
               go_enter Tryz.func57, Tryz.ntmps57
               go_wp2
               go_ret
               exact ⟨z51_, z52_⟩
              ·rw [if_neg c100] at H
               have c100b0 : (a0 == 124) = false := beq_eq_false_iff_ne.mpr c100
               have c100b1 : (a0 != 124) = true := bne_iff_ne.mpr c100
               obtain rfl := Option.some.inj H
               go_enter Tryz.func57, Tryz.ntmps57
               go_wp2
               go_ret
               exact ⟨z51_, z52_⟩
       ·rw [if_neg c91] at H
        have c91b0 : decide (35 ≤ a0) = false := decide_eq_false c91; clear c91
        by_cases c101 : a0 = 42
        ·rw [if_pos c101] at H
         have c101b0 : (a0 == 42) = true := beq_iff_eq.mpr c101
         have c101b1 : (a0 != 42) = false := bne_eq_false_iff_eq.mpr c101
         clear c101
         obtain rfl := Option.some.inj H
         go_enter Tryz.func57, Tryz.ntmps57
         go_wp2
         go_ret
         exact ⟨z51_, z52_⟩
        ·rw [if_neg c101] at H
         have c101b0 : (a0 == 42) = false := beq_eq_false_iff_ne.mpr c101
         have c101b1 : (a0 != 42) = true := bne_iff_ne.mpr c101
         by_cases c102 : a0 = 43
         ·rw [if_pos c102] at H
          have c102b0 : (a0 == 43) = true := beq_iff_eq.mpr c102
          have c102b1 : (a0 != 43) = false := bne_eq_false_iff_eq.mpr c102
          clear c102
          obtain rfl := Option.some.inj H
          go_enter Tryz.func57, Tryz.ntmps57
          go_wp2
          go_ret
          exact ⟨z51_, z52_⟩
         ·rw [if_neg c102] at H
          have c102b0 : (a0 == 43) = false := beq_eq_false_iff_ne.mpr c102
          have c102b1 : (a0 != 43) = true := bne_iff_ne.mpr c102
          by_cases c103 : a0 = 45
          ·rw [if_pos c103] at H
           have c103b0 : (a0 == 45) = true := beq_iff_eq.mpr c103
           have c103b1 : (a0 != 45) = false := bne_eq_false_iff_eq.mpr c103
           clear c103
           obtain rfl := Option.some.inj H
           go_enter Tryz.func57, Tryz.ntmps57
           go_wp2
           go_ret
           exact ⟨z51_, z52_⟩
          ·rw [if_neg c103] at H
           have c103b0 : (a0 == 45) = false := beq_eq_false_iff_ne.mpr c103
           have c103b1 : (a0 != 45) = true := bne_iff_ne.mpr c103
           by_cases c104 : a0 = 46
           ·rw [if_pos c104] at H
            have c104b0 : (a0 == 46) = true := beq_iff_eq.mpr c104
            have c104b1 : (a0 != 46) = false := bne_eq_false_iff_eq.mpr c104
            clear c104
            obtain rfl := Option.some.inj H
            go_enter Tryz.func57, Tryz.ntmps57
            go_wp2
            go_ret
            exact ⟨z51_, z52_⟩
           ·rw [if_neg c104] at H
            have c104b0 : (a0 == 46) = false := beq_eq_false_iff_ne.mpr c104
            have c104b1 : (a0 != 46) = true := bne_iff_ne.mpr c104
            by_cases c105 : a0 ≥ 94
            ·rw [if_pos c105] at H
             have c105b0 : decide (94 ≤ a0) = true := decide_eq_true c105; clear c105
             by_cases c106 : a0 ≤ 96
             ·rw [if_pos c106] at H
              have c106b0 : decide (a0 ≤ 96) = true := decide_eq_true c106; clear c106
              obtain rfl := Option.some.inj H
              go_enter Tryz.func57, Tryz.ntmps57
              go_wp2
              go_ret
              exact ⟨z51_, z52_⟩
             ·rw [if_neg c106] at H
              have c106b0 : decide (a0 ≤ 96) = false := decide_eq_false c106; clear c106
              by_cases c107 : a0 = 124
              ·rw [if_pos c107] at H
               have c107b0 : (a0 == 124) = true := beq_iff_eq.mpr c107
               have c107b1 : (a0 != 124) = false := bne_eq_false_iff_eq.mpr c107
               clear c107
               obtain rfl := Option.some.inj H
               go_enter Tryz.func57, Tryz.ntmps57
               go_wp2
               go_ret
               exact ⟨z51_, z52_⟩
              ·rw [if_neg c107] at H
               have c107b0 : (a0 == 124) = false := beq_eq_false_iff_ne.mpr c107
               have c107b1 : (a0 != 124) = true := bne_iff_ne.mpr c107
               obtain rfl := Option.some.inj H
               go_enter Tryz.func57, Tryz.ntmps57
               go_wp2
               go_ret
               exact ⟨z51_, z52_⟩
            ·rw [if_neg c105] at H
             have c105b0 : decide (94 ≤ a0) = false := decide_eq_false c105; clear c105
             by_cases c108 : a0 = 124
             ·rw [if_pos c108] at H
              have c108b0 : (a0 == 124) = true := beq_iff_eq.mpr c108
              have c108b1 : (a0 != 124) = false := bne_eq_false_iff_eq.mpr c108
              clear c108
              obtain rfl := Option.some.inj H
              go_enter Tryz.func57, Tryz.ntmps57
              go_wp2
              go_ret
              exact ⟨z51_, z52_⟩
             ·rw [if_neg c108] at H
              have c108b0 : (a0 == 124) = false := beq_eq_false_iff_ne.mpr c108
              have c108b1 : (a0 != 124) = true := bne_iff_ne.mpr c108
              obtain rfl := Option.some.inj H
              go_enter Tryz.func57, Tryz.ntmps57
              go_wp2
              go_ret
              exact ⟨z51_, z52_⟩
    ·rw [if_neg c88] at H
     have c88b0 : decide (97 ≤ a0) = false := decide_eq_false c88; clear c88
     by_cases c109 : a0 = 33
     ·rw [if_pos c109] at H
      have c109b0 : (a0 == 33) = true := beq_iff_eq.mpr c109
      have c109b1 : (a0 != 33) = false := bne_eq_false_iff_eq.mpr c109
      clear c109
      obtain rfl := Option.some.inj H
      go_enter Tryz.func57, Tryz.ntmps57
      go_wp2
      go_ret
      exact ⟨z51_, z52_⟩
     ·rw [if_neg c109] at H
      have c109b0 : (a0 == 33) = false := beq_eq_false_iff_ne.mpr c109
      have c109b1 : (a0 != 33) = true := bne_iff_ne.mpr c109
      by_cases c110 : a0 ≥ 35
      ·rw [if_pos c110] at H
       have c110b0 : decide (35 ≤ a0) = true := decide_eq_true c110; clear c110
       by_cases c111 : a0 ≤ 39
       ·rw [if_pos c111] at H
        have c111b0 : decide (a0 ≤ 39) = true := decide_eq_true c111; clear c111
        obtain rfl := Option.some.inj H
        go_enter Tryz.func57, Tryz.ntmps57
        go_wp2
        go_ret
        exact ⟨z51_, z52_⟩
       ·rw [if_neg c111] at H
        have c111b0 : decide (a0 ≤ 39) = false := decide_eq_false c111; clear c111
        by_cases c112 : a0 = 42
        ·rw [if_pos c112] at H
         have c112b0 : (a0 == 42) = true := beq_iff_eq.mpr c112
         have c112b1 : (a0 != 42) = false := bne_eq_false_iff_eq.mpr c112
         clear c112
         obtain rfl := Option.some.inj H
         go_enter Tryz.func57, Tryz.ntmps57
         go_wp2
         go_ret
         exact ⟨z51_, z52_⟩
        ·rw [if_neg c112] at H
         have c112b0 : (a0 == 42) = false := beq_eq_false_iff_ne.mpr c112
         have c112b1 : (a0 != 42) = true := bne_iff_ne.mpr c112
         by_cases c113 : a0 = 43
         ·rw [if_pos c113] at H
          have c113b0 : (a0 == 43) = true := beq_iff_eq.mpr c113
          have c113b1 : (a0 != 43) = false := bne_eq_false_iff_eq.mpr c113
          clear c113
          obtain rfl := Option.some.inj H
          go_enter Tryz.func57, Tryz.ntmps57
          go_wp2
          go_ret
          exact ⟨z51_, z52_⟩
         ·rw [if_neg c113] at H
          have c113b0 : (a0 == 43) = false := beq_eq_false_iff_ne.mpr c113
          have c113b1 : (a0 != 43) = true := bne_iff_ne.mpr c113
          by_cases c114 : a0 = 45
          ·rw [if_pos c114] at H
           have c114b0 : (a0 == 45) = true := beq_iff_eq.mpr c114
           have c114b1 : (a0 != 45) = false := bne_eq_false_iff_eq.mpr c114
           clear c114
           obtain rfl := Option.some.inj H
           go_enter Tryz.func57, Tryz.ntmps57
           go_wp2
           go_ret
           exact ⟨z51_, z52_⟩
          ·rw [if_neg c114] at H
           have c114b0 : (a0 == 45) = false := beq_eq_false_iff_ne.mpr c114
           have c114b1 : (a0 != 45) = true := bne_iff_ne.mpr c114
           by_cases c115 : a0 = 46
           ·rw [if_pos c115] at H
            have c115b0 : (a0 == 46) = true := beq_iff_eq.mpr c115
            have c115b1 : (a0 != 46) = false := bne_eq_false_iff_eq.mpr c115
            clear c115
            obtain rfl := Option.some.inj H
            go_enter Tryz.func57, Tryz.ntmps57
            go_wp2
            go_ret
            exact ⟨z51_, z52_⟩
           ·rw [if_neg c115] at H
            have c115b0 : (a0 == 46) = false := beq_eq_false_iff_ne.mpr c115
            have c115b1 : (a0 != 46) = true := bne_iff_ne.mpr c115
            by_cases c116 : a0 ≥ 94
            ·rw [if_pos c116] at H
             have c116b0 : decide (94 ≤ a0) = true := decide_eq_true c116; clear c116
             by_cases c117 : a0 ≤ 96
             ·rw [if_pos c117] at H
              have c117b0 : decide (a0 ≤ 96) = true := decide_eq_true c117; clear c117
              obtain rfl := Option.some.inj H
              go_enter Tryz.func57, Tryz.ntmps57
              go_wp2
              go_ret
              exact ⟨z51_, z52_⟩
             ·rw [if_neg c117] at H
              have c117b0 : decide (a0 ≤ 96) = false := decide_eq_false c117; clear c117
              by_cases c118 : a0 = 124
              ·rw [if_pos c118] at H
               have c118b0 : (a0 == 124) = true := beq_iff_eq.mpr c118
               have c118b1 : (a0 != 124) = false := bne_eq_false_iff_eq.mpr c118
               clear c118
               obtain rfl := Option.some.inj H
               go_enter Tryz.func57, Tryz.ntmps57
               go_wp2
               go_ret
               exact ⟨z51_, z52_⟩
              ·rw [if_neg c118] at H
               have c118b0 : (a0 == 124) = false := beq_eq_false_iff_ne.mpr c118
               have c118b1 : (a0 != 124) = true := bne_iff_ne.mpr c118
               obtain rfl := Option.some.inj H
               go_enter Tryz.func57, Tryz.ntmps57
               go_wp2
               go_ret
               exact ⟨z51_, z52_⟩
            ·rw [if_neg c116] at H
             have c116b0 : decide (94 ≤ a0) = false := decide_eq_false c116; clear c116
             by_cases c119 : a0 = 124
             ·rw [if_pos c119] at H
              have c119b0 : (a0 == 124) = true := beq_iff_eq.mpr c119
              have c119b1 : (a0 != 124) = false := bne_eq_false_iff_eq.mpr c119
              clear c119
              obtain rfl := Option.some.inj H
              go_enter Tryz.func57, Tryz.ntmps57
              go_wp2
              go_ret
              exact ⟨z51_, z52_⟩
             ·rw [if_neg c119] at H
              have c119b0 : (a0 == 124) = false := beq_eq_false_iff_ne.mpr c119
              have c119b1 : (a0 != 124) = true := bne_iff_ne.mpr c119
              obtain rfl := Option.some.inj H
              go_enter Tryz.func57, Tryz.ntmps57
              go_wp2
              go_ret
              exact ⟨z51_, z52_⟩
      ·rw [if_neg c110] at H
       have c110b0 : decide (35 ≤ a0) = false := decide_eq_false c110; clear c110
       by_cases c120 : a0 = 42
       ·rw [if_pos c120] at H
        have c120b0 : (a0 == 42) = true := beq_iff_eq.mpr c120
        have c120b1 : (a0 != 42) = false := bne_eq_false_iff_eq.mpr c120
        clear c120
        obtain rfl := Option.some.inj H
        go_enter Tryz.func57, Tryz.ntmps57
        go_wp2
        go_ret
        exact ⟨z51_, z52_⟩
       ·rw [if_neg c120] at H
        have c120b0 : (a0 == 42) = false := beq_eq_false_iff_ne.mpr c120
        have c120b1 : (a0 != 42) = true := bne_iff_ne.mpr c120
        by_cases c121 : a0 = 43
        ·rw [if_pos c121] at H
         have c121b0 : (a0 == 43) = true := beq_iff_eq.mpr c121
         have c121b1 : (a0 != 43) = false := bne_eq_false_iff_eq.mpr c121
         clear c121
         obtain rfl := Option.some.inj H
         go_enter Tryz.func57, Tryz.ntmps57
         go_wp2
         go_ret
         exact ⟨z51_, z52_⟩
        ·rw [if_neg c121] at H
         have c121b0 : (a0 == 43) = false := beq_eq_false_iff_ne.mpr c121
         have c121b1 : (a0 != 43) = true := bne_iff_ne.mpr c121
         by_cases c122 : a0 = 45
         ·rw [if_pos c122] at H
          have c122b0 : (a0 == 45) = true := beq_iff_eq.mpr c122
          have c122b1 : (a0 != 45) = false := bne_eq_false_iff_eq.mpr c122
          clear c122
          obtain rfl := Option.some.inj H
          go_enter Tryz.func57, Tryz.ntmps57
          go_wp2
          go_ret
          exact ⟨z51_, z52_⟩
         ·rw [if_neg c122] at H
          have c122b0 : (a0 == 45) = false := beq_eq_false_iff_ne.mpr c122
          have c122b1 : (a0 != 45) = true := bne_iff_ne.mpr c122
          by_cases c123 : a0 = 46
          ·rw [if_pos c123] at H
           have c123b0 : (a0 == 46) = true := beq_iff_eq.mpr c123
           have c123b1 : (a0 != 46) = false := bne_eq_false_iff_eq.mpr c123
           clear c123
           obtain rfl := Option.some.inj H
           go_enter Tryz.func57, Tryz.ntmps57
           go_wp2
           go_ret
           exact ⟨z51_, z52_⟩
          ·rw [if_neg c123] at H
           have c123b0 : (a0 == 46) = false := beq_eq_false_iff_ne.mpr c123
           have c123b1 : (a0 != 46) = true := bne_iff_ne.mpr c123
           by_cases c124 : a0 ≥ 94
           ·rw [if_pos c124] at H
            have c124b0 : decide (94 ≤ a0) = true := decide_eq_true c124; clear c124
            by_cases c125 : a0 ≤ 96
            ·rw [if_pos c125] at H
             have c125b0 : decide (a0 ≤ 96) = true := decide_eq_true c125; clear c125
             obtain rfl := Option.some.inj H
             go_enter Tryz.func57, Tryz.ntmps57
             go_wp2
             go_ret
             exact ⟨z51_, z52_⟩
            ·rw [if_neg c125] at H
             have c125b0 : decide (a0 ≤ 96) = false := decide_eq_false c125; clear c125
             by_cases c126 : a0 = 124
             ·rw [if_pos c126] at H
              have c126b0 : (a0 == 124) = true := beq_iff_eq.mpr c126
              have c126b1 : (a0 != 124) = false := bne_eq_false_iff_eq.mpr c126
              clear c126
              obtain rfl := Option.some.inj H
              go_enter Tryz.func57, Tryz.ntmps57
              go_wp2
              go_ret
              exact ⟨z51_, z52_⟩
             ·rw [if_neg c126] at H
              have c126b0 : (a0 == 124) = false := beq_eq_false_iff_ne.mpr c126
              have c126b1 : (a0 != 124) = true := bne_iff_ne.mpr c126
              obtain rfl := Option.some.inj H
              go_enter Tryz.func57, Tryz.ntmps57
              go_wp2
              go_ret
              exact ⟨z51_, z52_⟩
           ·rw [if_neg c124] at H
            have c124b0 : decide (94 ≤ a0) = false := decide_eq_false c124; clear c124
            by_cases c127 : a0 = 124
            ·rw [if_pos c127] at H
             have c127b0 : (a0 == 124) = true := beq_iff_eq.mpr c127
             have c127b1 : (a0 != 124) = false := bne_eq_false_iff_eq.mpr c127
             clear c127
             obtain rfl := Option.some.inj H
             go_enter Tryz.func57, Tryz.ntmps57
             go_wp2
             go_ret
             exact ⟨z51_, z52_⟩
            ·rw [if_neg c127] at H
             have c127b0 : (a0 == 124) = false := beq_eq_false_iff_ne.mpr c127
             have c127b1 : (a0 != 124) = true := bne_iff_ne.mpr c127
             obtain rfl := Option.some.inj H
             go_enter Tryz.func57, Tryz.ntmps57
             go_wp2
             go_ret
             exact ⟨z51_, z52_⟩
  ·rw [if_neg c86] at H
   have c86b0 : decide (65 ≤ a0) = false := decide_eq_false c86; clear c86
   by_cases c128 : a0 ≥ 97
   ·rw [if_pos c128] at H
    have c128b0 : decide (97 ≤ a0) = true := decide_eq_true c128; clear c128
    by_cases c129 : a0 ≤ 122
    ·rw [if_pos c129] at H
     have c129b0 : decide (a0 ≤ 122) = true := decide_eq_true c129; clear c129
     obtain rfl := Option.some.inj H
     go_enter Tryz.func57, Tryz.ntmps57
     go_wp2
     go_ret
     exact ⟨z51_, z52_⟩
    ·rw [if_neg c129] at H
     have c129b0 : decide (a0 ≤ 122) = false := decide_eq_false c129; clear c129
     by_cases c130 : a0 = 33
     ·rw [if_pos c130] at H
      have c130b0 : (a0 == 33) = true := beq_iff_eq.mpr c130
      have c130b1 : (a0 != 33) = false := bne_eq_false_iff_eq.mpr c130
      clear c130
      obtain rfl := Option.some.inj H
      go_enter Tryz.func57, Tryz.ntmps57
      go_wp2
      go_ret
      exact ⟨z51_, z52_⟩
     ·rw [if_neg c130] at H
      have c130b0 : (a0 == 33) = false := beq_eq_false_iff_ne.mpr c130
      have c130b1 : (a0 != 33) = true := bne_iff_ne.mpr c130
      by_cases c131 : a0 ≥ 35
      ·rw [if_pos c131] at H
       have c131b0 : decide (35 ≤ a0) = true := decide_eq_true c131; clear c131
       by_cases c132 : a0 ≤ 39
       ·rw [if_pos c132] at H
        have c132b0 : decide (a0 ≤ 39) = true := decide_eq_true c132; clear c132
        obtain rfl := Option.some.inj H
        go_enter Tryz.func57, Tryz.ntmps57
        go_wp2
        go_ret
        exact ⟨z51_, z52_⟩
       ·rw [if_neg c132] at H
        have c132b0 : decide (a0 ≤ 39) = false := decide_eq_false c132; clear c132
        by_cases c133 : a0 = 42
        ·rw [if_pos c133] at H
         have c133b0 : (a0 == 42) = true := beq_iff_eq.mpr c133
         have c133b1 : (a0 != 42) = false := bne_eq_false_iff_eq.mpr c133
         clear c133
         obtain rfl := Option.some.inj H
         go_enter Tryz.func57, Tryz.ntmps57
         go_wp2
         go_ret
         exact ⟨z51_, z52_⟩
        ·rw [if_neg c133] at H
         have c133b0 : (a0 == 42) = false := beq_eq_false_iff_ne.mpr c133
         have c133b1 : (a0 != 42) = true := bne_iff_ne.mpr c133
         by_cases c134 : a0 = 43
         ·rw [if_pos c134] at H
          have c134b0 : (a0 == 43) = true := beq_iff_eq.mpr c134
          have c134b1 : (a0 != 43) = false := bne_eq_false_iff_eq.mpr c134
          clear c134
          obtain rfl := Option.some.inj H
          go_enter Tryz.func57, Tryz.ntmps57
          go_wp2
          go_ret
          exact ⟨z51_, z52_⟩
         ·rw [if_neg c134] at H
          have c134b0 : (a0 == 43) = false := beq_eq_false_iff_ne.mpr c134
          have c134b1 : (a0 != 43) = true := bne_iff_ne.mpr c134
          by_cases c135 : a0 = 45
          ·rw [if_pos c135] at H
           have c135b0 : (a0 == 45) = true := beq_iff_eq.mpr c135
           have c135b1 : (a0 != 45) = false := bne_eq_false_iff_eq.mpr c135
           clear c135
           obtain rfl := Option.some.inj H
           go_enter Tryz.func57, Tryz.ntmps57
           go_wp2
           go_ret
           exact ⟨z51_, z52_⟩
          ·rw [if_neg c135] at H
           have c135b0 : (a0 == 45) = false := beq_eq_false_iff_ne.mpr c135
           have c135b1 : (a0 != 45) = true := bne_iff_ne.mpr c135
           by_cases c136 : a0 = 46
           ·rw [if_pos c136] at H
            have c136b0 : (a0 == 46) = true := beq_iff_eq.mpr c136
            have c136b1 : (a0 != 46) = false := bne_eq_false_iff_eq.mpr c136
            clear c136
            obtain rfl := Option.some.inj H
            go_enter Tryz.func57, Tryz.ntmps57
            go_wp2
            go_ret
            exact ⟨z51_, z52_⟩
           ·rw [if_neg c136] at H
            have c136b0 : (a0 == 46) = false := beq_eq_false_iff_ne.mpr c136
            have c136b1 : (a0 != 46) = true := bne_iff_ne.mpr c136
            by_cases c137 : a0 ≥ 94
            ·rw [if_pos c137] at H
             have c137b0 : decide (94 ≤ a0) = true := decide_eq_true c137; clear c137
             by_cases c138 : a0 ≤ 96
             ·rw [if_pos c138] at H
              have c138b0 : decide (a0 ≤ 96) = true := decide_eq_true c138; clear c138
              obtain rfl := Option.some.inj H
              go_enter Tryz.func57, Tryz.ntmps57
              go_wp2
              go_ret
              exact ⟨z51_, z52_⟩
             ·rw [if_neg c138] at H
              have c138b0 : decide (a0 ≤ 96) = false := decide_eq_false c138; clear c138
              by_cases c139 : a0 = 124
              ·rw [if_pos c139] at H
               have c139b0 : (a0 == 124) = true := beq_iff_eq.mpr c139
               have c139b1 : (a0 != 124) = false := bne_eq_false_iff_eq.mpr c139
               clear c139
               obtain rfl := Option.some.inj H
               go_enter Tryz.func57, Tryz.ntmps57
               go_wp2
               go_ret
               exact ⟨z51_, z52_⟩
              ·rw [if_neg c139] at H
               have c139b0 : (a0 == 124) = false := beq_eq_false_iff_ne.mpr c139
               have c139b1 : (a0 != 124) = true := bne_iff_ne.mpr c139
               obtain rfl := Option.some.inj H
               go_enter Tryz.func57, Tryz.ntmps57
               go_wp2
               go_ret
               exact ⟨z51_, z52_⟩
            ·rw [if_neg c137] at H
             have c137b0 : decide (94 ≤ a0) = false := decide_eq_false c137; clear c137
             by_cases c140 : a0 = 124
             ·rw [if_pos c140] at H
              have c140b0 : (a0 == 124) = true := beq_iff_eq.mpr c140
              have c140b1 : (a0 != 124) = false := bne_eq_false_iff_eq.mpr c140
              clear c140
              obtain rfl := Option.some.inj H
              go_enter Tryz.func57, Tryz.ntmps57
              go_wp2
              go_ret
              exact ⟨z51_, z52_⟩
             ·rw [if_neg c140] at H
              have c140b0 : (a0 == 124) = false := beq_eq_false_iff_ne.mpr c140
              have c140b1 : (a0 != 124) = true := bne_iff_ne.mpr c140
              obtain rfl := Option.some.inj H
              go_enter Tryz.func57, Tryz.ntmps57
              go_wp2
              go_ret
              exact ⟨z51_, z52_⟩
      ·rw [if_neg c131] at H
       have c131b0 : decide (35 ≤ a0) = false := decide_eq_false c131; clear c131
       by_cases c141 : a0 = 42
       ·rw [if_pos c141] at H
        have c141b0 : (a0 == 42) = true := beq_iff_eq.mpr c141
        have c141b1 : (a0 != 42) = false := bne_eq_false_iff_eq.mpr c141
        clear c141
        obtain rfl := Option.some.inj H
        go_enter Tryz.func57, Tryz.ntmps57
        go_wp2
        go_ret
        exact ⟨z51_, z52_⟩
       ·rw [if_neg c141] at H
        have c141b0 : (a0 == 42) = false := beq_eq_false_iff_ne.mpr c141
        have c141b1 : (a0 != 42) = true := bne_iff_ne.mpr c141
        by_cases c142 : a0 = 43
        ·rw [if_pos c142] at H
         have c142b0 : (a0 == 43) = true := beq_iff_eq.mpr c142
         have c142b1 : (a0 != 43) = false := bne_eq_false_iff_eq.mpr c142
         clear c142
         obtain rfl := Option.some.inj H
         go_enter Tryz.func57, Tryz.ntmps57
         go_wp2
         go_ret
         exact ⟨z51_, z52_⟩
        ·rw [if_neg c142] at H
         have c142b0 : (a0 == 43) = false := beq_eq_false_iff_ne.mpr c142
         have c142b1 : (a0 != 43) = true := bne_iff_ne.mpr c142
         by_cases c143 : a0 = 45
         ·rw [if_pos c143] at H
          have c143b0 : (a0 == 45) = true := beq_iff_eq.mpr c143
          have c143b1 : (a0 != 45) = false := bne_eq_false_iff_eq.mpr c143
          clear c143
          obtain rfl := Option.some.inj H
          go_enter Tryz.func57, Tryz.ntmps57
          go_wp2
          go_ret
          exact ⟨z51_, z52_⟩
         ·rw [if_neg c143] at H
          have c143b0 : (a0 == 45) = false := beq_eq_false_iff_ne.mpr c143
          have c143b1 : (a0 != 45) = true := bne_iff_ne.mpr c143
          by_cases c144 : a0 = 46
          ·rw [if_pos c144] at H
           have c144b0 : (a0 == 46) = true := beq_iff_eq.mpr c144
           have c144b1 : (a0 != 46) = false := bne_eq_false_iff_eq.mpr c144
           clear c144
           obtain rfl := Option.some.inj H
           go_enter Tryz.func57, Tryz.ntmps57
           go_wp2
           go_ret
           exact ⟨z51_, z52_⟩
          ·rw [if_neg c144] at H
           have c144b0 : (a0 == 46) = false := beq_eq_false_iff_ne.mpr c144
           have c144b1 : (a0 != 46) = true := bne_iff_ne.mpr c144
           by_cases c145 : a0 ≥ 94
           ·rw [if_pos c145] at H
            have c145b0 : decide (94 ≤ a0) = true := decide_eq_true c145; clear c145
            by_cases c146 : a0 ≤ 96
            ·rw [if_pos c146] at H
             have c146b0 : decide (a0 ≤ 96) = true := decide_eq_true c146; clear c146
             obtain rfl := Option.some.inj H
             go_enter Tryz.func57, Tryz.ntmps57
             go_wp2
             go_ret
             exact ⟨z51_, z52_⟩
            ·rw [if_neg c146] at H
             have c146b0 : decide (a0 ≤ 96) = false := decide_eq_false c146; clear c146
             by_cases c147 : a0 = 124
             ·rw [if_pos c147] at H
              have c147b0 : (a0 == 124) = true := beq_iff_eq.mpr c147
              have c147b1 : (a0 != 124) = false := bne_eq_false_iff_eq.mpr c147
              clear c147
              obtain rfl := Option.some.inj H
              go_enter Tryz.func57, Tryz.ntmps57
              go_wp2
              go_ret
              exact ⟨z51_, z52_⟩
             ·rw [if_neg c147] at H
              have c147b0 : (a0 == 124) = false := beq_eq_false_iff_ne.mpr c147
              have c147b1 : (a0 != 124) = true := bne_iff_ne.mpr c147
              obtain rfl := Option.some.inj H
              go_enter Tryz.func57, Tryz.ntmps57
              go_wp2
              go_ret
              exact ⟨z51_, z52_⟩
           ·rw [if_neg c145] at H
            have c145b0 : decide (94 ≤ a0) = false := decide_eq_false c145; clear c145
            by_cases c148 : a0 = 124
            ·rw [if_pos c148] at H
             have c148b0 : (a0 == 124) = true := beq_iff_eq.mpr c148
             have c148b1 : (a0 != 124) = false := bne_eq_false_iff_eq.mpr c148
             clear c148
             obtain rfl := Option.some.inj H
             go_enter Tryz.func57, Tryz.ntmps57
             go_wp2
             go_ret
             exact ⟨z51_, z52_⟩
            ·rw [if_neg c148] at H
             have c148b0 : (a0 == 124) = false := beq_eq_false_iff_ne.mpr c148
             have c148b1 : (a0 != 124) = true := bne_iff_ne.mpr c148
             obtain rfl := Option.some.inj H
             go_enter Tryz.func57, Tryz.ntmps57
             go_wp2
             go_ret
             exact ⟨z51_, z52_⟩
   ·rw [if_neg c128] at H
    have c128b0 : decide (97 ≤ a0) = false := decide_eq_false c128; clear c128
    by_cases c149 : a0 = 33
    ·rw [if_pos c149] at H
     have c149b0 : (a0 == 33) = true := beq_iff_eq.mpr c149
     have c149b1 : (a0 != 33) = false := bne_eq_false_iff_eq.mpr c149
     clear c149
     obtain rfl := Option.some.inj H
     go_enter Tryz.func57, Tryz.ntmps57
     go_wp2
     go_ret
     exact ⟨z51_, z52_⟩
    ·rw [if_neg c149] at H
     have c149b0 : (a0 == 33) = false := beq_eq_false_iff_ne.mpr c149
     have c149b1 : (a0 != 33) = true := bne_iff_ne.mpr c149
     by_cases c150 : a0 ≥ 35
     ·rw [if_pos c150] at H
      have c150b0 : decide (35 ≤ a0) = true := decide_eq_true c150; clear c150
      by_cases c151 : a0 ≤ 39
      ·rw [if_pos c151] at H
       have c151b0 : decide (a0 ≤ 39) = true := decide_eq_true c151; clear c151
       obtain rfl := Option.some.inj H
       go_enter Tryz.func57, Tryz.ntmps57
       go_wp2
       go_ret
       exact ⟨z51_, z52_⟩
      ·rw [if_neg c151] at H
       have c151b0 : decide (a0 ≤ 39) = false := decide_eq_false c151; clear c151
       by_cases c152 : a0 = 42
       ·rw [if_pos c152] at H
        have c152b0 : (a0 == 42) = true := beq_iff_eq.mpr c152
        have c152b1 : (a0 != 42) = false := bne_eq_false_iff_eq.mpr c152
        clear c152
        obtain rfl := Option.some.inj H
        go_enter Tryz.func57, Tryz.ntmps57
        go_wp2
        go_ret
        exact ⟨z51_, z52_⟩
       ·rw [if_neg c152] at H
        have c152b0 : (a0 == 42) = false := beq_eq_false_iff_ne.mpr c152
        have c152b1 : (a0 != 42) = true := bne_iff_ne.mpr c152
        by_cases c153 : a0 = 43
        ·rw [if_pos c153] at H
         have c153b0 : (a0 == 43) = true := beq_iff_eq.mpr c153
         have c153b1 : (a0 != 43) = false := bne_eq_false_iff_eq.mpr c153
         clear c153
         obtain rfl := Option.some.inj H
         go_enter Tryz.func57, Tryz.ntmps57
         go_wp2
         go_ret
         exact ⟨z51_, z52_⟩
        ·rw [if_neg c153] at H
         have c153b0 : (a0 == 43) = false := beq_eq_false_iff_ne.mpr c153
         have c153b1 : (a0 != 43) = true := bne_iff_ne.mpr c153
         by_cases c154 : a0 = 45
         ·rw [if_pos c154] at H
          have c154b0 : (a0 == 45) = true := beq_iff_eq.mpr c154
          have c154b1 : (a0 != 45) = false := bne_eq_false_iff_eq.mpr c154
          clear c154
          obtain rfl := Option.some.inj H
          go_enter Tryz.func57, Tryz.ntmps57
          go_wp2
          go_ret
          exact ⟨z51_, z52_⟩
         ·rw [if_neg c154] at H
          have c154b0 : (a0 == 45) = false := beq_eq_false_iff_ne.mpr c154
          have c154b1 : (a0 != 45) = true := bne_iff_ne.mpr c154
          by_cases c155 : a0 = 46
          ·rw [if_pos c155] at H
           have c155b0 : (a0 == 46) = true := beq_iff_eq.mpr c155
           have c155b1 : (a0 != 46) = false := bne_eq_false_iff_eq.mpr c155
           clear c155
           obtain rfl := Option.some.inj H
           go_enter Tryz.func57, Tryz.ntmps57
           go_wp2
           go_ret
           exact ⟨z51_, z52_⟩
          ·rw [if_neg c155] at H
           have c155b0 : (a0 == 46) = false := beq_eq_false_iff_ne.mpr c155
           have c155b1 : (a0 != 46) = true := bne_iff_ne.mpr c155
           by_cases c156 : a0 ≥ 94
           ·rw [if_pos c156] at H
            have c156b0 : decide (94 ≤ a0) = true := decide_eq_true c156; clear c156
            by_cases c157 : a0 ≤ 96
            ·rw [if_pos c157] at H
             have c157b0 : decide (a0 ≤ 96) = true := decide_eq_true c157; clear c157
             obtain rfl := Option.some.inj H
             go_enter Tryz.func57, Tryz.ntmps57
             go_wp2
             go_ret
             exact ⟨z51_, z52_⟩
            ·rw [if_neg c157] at H
             have c157b0 : decide (a0 ≤ 96) = false := decide_eq_false c157; clear c157
             by_cases c158 : a0 = 124
             ·rw [if_pos c158] at H
              have c158b0 : (a0 == 124) = true := beq_iff_eq.mpr c158
              have c158b1 : (a0 != 124) = false := bne_eq_false_iff_eq.mpr c158
              clear c158
              obtain rfl := Option.some.inj H
              go_enter Tryz.func57, Tryz.ntmps57
              go_wp2
              go_ret
              exact ⟨z51_, z52_⟩
             ·rw [if_neg c158] at H
              have c158b0 : (a0 == 124) = false := beq_eq_false_iff_ne.mpr c158
              have c158b1 : (a0 != 124) = true := bne_iff_ne.mpr c158
              obtain rfl := Option.some.inj H
              go_enter Tryz.func57, Tryz.ntmps57
              go_wp2
              go_ret
              exact ⟨z51_, z52_⟩
           ·rw [if_neg c156] at H
            have c156b0 : decide (94 ≤ a0) = false := decide_eq_false c156; clear c156
            by_cases c159 : a0 = 124
            ·rw [if_pos c159] at H
             have c159b0 : (a0 == 124) = true := beq_iff_eq.mpr c159
             have c159b1 : (a0 != 124) = false := bne_eq_false_iff_eq.mpr c159
             clear c159
             obtain rfl := Option.some.inj H
             go_enter Tryz.func57, Tryz.ntmps57
             go_wp2
             go_ret
             exact ⟨z51_, z52_⟩
            ·rw [if_neg c159] at H
             have c159b0 : (a0 == 124) = false := beq_eq_false_iff_ne.mpr c159
             have c159b1 : (a0 != 124) = true := bne_iff_ne.mpr c159
             obtain rfl := Option.some.inj H
             go_enter Tryz.func57, Tryz.ntmps57
             go_wp2
             go_ret
             exact ⟨z51_, z52_⟩
     ·rw [if_neg c150] at H
      have c150b0 : decide (35 ≤ a0) = false := decide_eq_false c150; clear c150
      by_cases c160 : a0 = 42
      ·rw [if_pos c160] at H
       have c160b0 : (a0 == 42) = true := beq_iff_eq.mpr c160
       have c160b1 : (a0 != 42) = false := bne_eq_false_iff_eq.mpr c160
       clear c160
       obtain rfl := Option.some.inj H
       go_enter Tryz.func57, Tryz.ntmps57
       go_wp2
       go_ret
       exact ⟨z51_, z52_⟩
      ·rw [if_neg c160] at H
       have c160b0 : (a0 == 42) = false := beq_eq_false_iff_ne.mpr c160
       have c160b1 : (a0 != 42) = true := bne_iff_ne.mpr c160
       by_cases c161 : a0 = 43
       ·rw [if_pos c161] at H
        have c161b0 : (a0 == 43) = true := beq_iff_eq.mpr c161
        have c161b1 : (a0 != 43) = false := bne_eq_false_iff_eq.mpr c161
        clear c161
        obtain rfl := Option.some.inj H
        go_enter Tryz.func57, Tryz.ntmps57
        go_wp2
        go_ret
        exact ⟨z51_, z52_⟩
       ·rw [if_neg c161] at H
        have c161b0 : (a0 == 43) = false := beq_eq_false_iff_ne.mpr c161
        have c161b1 : (a0 != 43) = true := bne_iff_ne.mpr c161
        by_cases c162 : a0 = 45
        ·rw [if_pos c162] at H
         have c162b0 : (a0 == 45) = true := beq_iff_eq.mpr c162
         have c162b1 : (a0 != 45) = false := bne_eq_false_iff_eq.mpr c162
         clear c162
         obtain rfl := Option.some.inj H
         go_enter Tryz.func57, Tryz.ntmps57
         go_wp2
         go_ret
         exact ⟨z51_, z52_⟩
        ·rw [if_neg c162] at H
         have c162b0 : (a0 == 45) = false := beq_eq_false_iff_ne.mpr c162
         have c162b1 : (a0 != 45) = true := bne_iff_ne.mpr c162
         by_cases c163 : a0 = 46
         ·rw [if_pos c163] at H
          have c163b0 : (a0 == 46) = true := beq_iff_eq.mpr c163
          have c163b1 : (a0 != 46) = false := bne_eq_false_iff_eq.mpr c163
          clear c163
          obtain rfl := Option.some.inj H
          go_enter Tryz.func57, Tryz.ntmps57
          go_wp2
          go_ret
          exact ⟨z51_, z52_⟩
         ·rw [if_neg c163] at H
          have c163b0 : (a0 == 46) = false := beq_eq_false_iff_ne.mpr c163
          have c163b1 : (a0 != 46) = true := bne_iff_ne.mpr c163
          by_cases c164 : a0 ≥ 94
          ·rw [if_pos c164] at H
           have c164b0 : decide (94 ≤ a0) = true := decide_eq_true c164; clear c164
           by_cases c165 : a0 ≤ 96
           ·rw [if_pos c165] at H
            have c165b0 : decide (a0 ≤ 96) = true := decide_eq_true c165; clear c165
            obtain rfl := Option.some.inj H
            go_enter Tryz.func57, Tryz.ntmps57
            go_wp2
            go_ret
            exact ⟨z51_, z52_⟩
           ·rw [if_neg c165] at H
            have c165b0 : decide (a0 ≤ 96) = false := decide_eq_false c165; clear c165
            by_cases c166 : a0 = 124
            ·rw [if_pos c166] at H
             have c166b0 : (a0 == 124) = true := beq_iff_eq.mpr c166
             have c166b1 : (a0 != 124) = false := bne_eq_false_iff_eq.mpr c166
             clear c166
             obtain rfl := Option.some.inj H
             go_enter Tryz.func57, Tryz.ntmps57
             go_wp2
             go_ret
             exact ⟨z51_, z52_⟩
            ·rw [if_neg c166] at H
             have c166b0 : (a0 == 124) = false := beq_eq_false_iff_ne.mpr c166
             have c166b1 : (a0 != 124) = true := bne_iff_ne.mpr c166
             obtain rfl := Option.some.inj H
             go_enter Tryz.func57, Tryz.ntmps57
             go_wp2
             go_ret
             exact ⟨z51_, z52_⟩
          ·rw [if_neg c164] at H
           have c164b0 : decide (94 ≤ a0) = false := decide_eq_false c164; clear c164
           by_cases c167 : a0 = 124
           ·rw [if_pos c167] at H
            have c167b0 : (a0 == 124) = true := beq_iff_eq.mpr c167
            have c167b1 : (a0 != 124) = false := bne_eq_false_iff_eq.mpr c167
            clear c167
            obtain rfl := Option.some.inj H
            go_enter Tryz.func57, Tryz.ntmps57
            go_wp2
            go_ret
            exact ⟨z51_, z52_⟩
           ·rw [if_neg c167] at H
            have c167b0 : (a0 == 124) = false := beq_eq_false_iff_ne.mpr c167
            have c167b1 : (a0 != 124) = true := bne_iff_ne.mpr c167
            obtain rfl := Option.some.inj H
            go_enter Tryz.func57, Tryz.ntmps57
            go_wp2
            go_ret
            exact ⟨z51_, z52_⟩

def pursuivantref04_Token.l0 : Nat → ByteArray → Int → Option (Bool)
 | 0, _, _ => none
 | k + 1, x0, x3 => if x3 < (x0.size : Int) then (if 0 ≤ x3 then ((pursuivantref04_Sign.f (bt x0 x3)).bind fun t104 => (if t104 = true then (pursuivantref04_Token.l0 k x0 (wrap64 (x3 + 1))) else (some false))) else (none)) else (some (decide ((x0.size : Int) > 0)))
def pursuivantref04_Token.f (k : Nat) (a0 : ByteArray) : Option (Bool) := pursuivantref04_Token.l0 k a0 0
set_option maxHeartbeats 8000000 in
set_option maxRecDepth 100000 in
theorem pursuivantref04_Token.calls (k : Nat) (a0 : ByteArray) (r : Bool) (w : World) (hG_ : GW w) (h : pursuivantref04_Token.f k a0 = some r) :
  Calls Tryz.prog 33 #[.string a0] w fun e w' => e = .returned (.bool r) ∧ Drawn0 w w' := by
 have H : (pursuivantref04_Token.l0 k a0 0) = some r := h
 clear h
 have H' := Aside0.mk H
 clear H
 go_enter Tryz.func33, Tryz.ntmps33
 go_wp2
 go_loopg [3] k (fun kq v3 w' => ∃ (x3_1 : Int), v3 = .int .i64 x3_1 ∧ Aside0 (pursuivantref04_Token.l0 kq a0 x3_1 = some r) ∧ Aside0 (kq ≤ k) ∧ Drawn0 w w')
 case atStart => exact ⟨(0), z51_, H', ⟨Nat.le_refl _⟩, z52_⟩
 case round =>
  clear H'
  obtain ⟨x3_1, rfl, HA, HK1, ⟨m1, rfl⟩⟩ := hrel
  cases gk with
  | zero => exact absurd HA.out (by simp [pursuivantref04_Token.l0])
  | succ k1 =>
   have H := HA.out
   clear HA
   simp only [pursuivantref04_Token.l0] at H
   by_cases c2 : x3_1 < (a0.size : Int)
   ·rw [if_pos c2] at H
    have c2b0 : decide (x3_1 < (a0.size : Int)) = true := decide_eq_true c2; clear c2
    by_cases c3 : 0 ≤ x3_1
    ·rw [if_pos c3] at H
     have c3b0 : decide (0 ≤ x3_1) = true := decide_eq_true c3; clear c3
     replace H := Option.bind_eq_some_iff.mp H
     obtain ⟨t104, A50, H⟩ := H
     replace H : (if t104 = true then (pursuivantref04_Token.l0 k1 a0 (wrap64 (x3_1 + 1))) else (some false)) = some r := H
     have A5 := Aside0.mk A50; clear A50
     by_cases c6 : t104 = true
     ·subst c6
      have H1 : (pursuivantref04_Token.l0 k1 a0 (wrap64 (x3_1 + 1))) = some r := by rw [if_pos rfl] at H; exact H
      clear H
      have H := H1
      clear H1
      have H' := Aside0.mk H
      clear H
      have p4 : 0 ≤ (x3_1 : Int) := of_decide_eq_true z55_
      have q4 : x3_1 < (a0.size : Int) := of_decide_eq_true z55_
      have hx4 := bt_at a0 x3_1
      replace p4 := eq_true p4
      replace q4 := eq_true q4
      go_wp2_with (first | ((with_reducible refine gate_callee (f := 57) rfl ?_); refine goesL_ (some 13) rfl rfl Tryz.func57 (by kernel_rfl) rfl #[.int .u8 (bt a0 x3_1)] rfl z24_ ?_; (with_reducible refine (pursuivantref04_Sign.calls (bt a0 x3_1) true _ ?gw5_ A5.out).mono ?_); (case gw5_ => exact z4_); rintro e w' ⟨rfl, ⟨nd, rfl⟩⟩; refine ⟨_, rfl, ?_⟩))
      go_roundg k1
      case measure => have := HK1.out; omega
      case rel => exact ⟨(wrap64 (x3_1 + 1)), z51_, H', ⟨z58_⟩, z52_⟩
     ·replace c6 := Bool.eq_false_iff.mpr c6
      subst c6
      have H1 : (some false) = some r := by rw [if_neg (show ¬ (false = true) by decide)] at H; exact H
      clear H
      have H := H1
      clear H1
      obtain rfl := Option.some.inj H
      have p4 : 0 ≤ (x3_1 : Int) := of_decide_eq_true z55_
      have q4 : x3_1 < (a0.size : Int) := of_decide_eq_true z55_
      have hx4 := bt_at a0 x3_1
      replace p4 := eq_true p4
      replace q4 := eq_true q4
      go_wp2_with (first | ((with_reducible refine gate_callee (f := 57) rfl ?_); refine goesL_ (some 13) rfl rfl Tryz.func57 (by kernel_rfl) rfl #[.int .u8 (bt a0 x3_1)] rfl z24_ ?_; (with_reducible refine (pursuivantref04_Sign.calls (bt a0 x3_1) false _ ?gw6_ A5.out).mono ?_); (case gw6_ => exact z4_); rintro e w' ⟨rfl, ⟨nd, rfl⟩⟩; refine ⟨_, rfl, ?_⟩))
      go_ret
      exact ⟨z51_, z52_⟩
    ·rw [if_neg c3] at H
     exact absurd H (by simp)
   ·rw [if_neg c2] at H
    have c2b0 : decide (x3_1 < (a0.size : Int)) = false := decide_eq_false c2; clear c2
    obtain rfl := Option.some.inj H
    go_wp2
    go_ret
    exact ⟨z51_, z52_⟩

mutual
def pursuivantref04_Trim.j1 : Nat → ByteArray → Option (ByteArray)
 | 0, _ => none
 | k + 1, x0 => pursuivantref04_Trim.l1 k x0
def pursuivantref04_Trim.l1 : Nat → ByteArray → Option (ByteArray)
 | 0, _ => none
 | k + 1, x0 => if (x0.size : Int) > 0 then (if 0 ≤ (wrap64 ((x0.size : Int) - 1)) then (if (wrap64 ((x0.size : Int) - 1)) < (x0.size : Int) then (if (bt x0 (wrap64 ((x0.size : Int) - 1))) = 32 then (if (wrap64 ((x0.size : Int) - 1)) ≤ (x0.size : Int) then (pursuivantref04_Trim.l1 k (x0.extract 0 ((wrap64 ((x0.size : Int) - 1)) : Int).toNat)) else (none)) else (if (bt x0 (wrap64 ((x0.size : Int) - 1))) = 9 then (if (wrap64 ((x0.size : Int) - 1)) ≤ (x0.size : Int) then (pursuivantref04_Trim.l1 k (x0.extract 0 ((wrap64 ((x0.size : Int) - 1)) : Int).toNat)) else (none)) else (some x0))) else (none)) else (none)) else (some x0)
def pursuivantref04_Trim.l0 : Nat → ByteArray → Option (ByteArray)
 | 0, _ => none
 | k + 1, x0 => if (x0.size : Int) > 0 then (if 0 < (x0.size : Int) then (if (bt x0 0) = 32 then (if 1 ≤ (x0.size : Int) then (pursuivantref04_Trim.l0 k (x0.extract 1 x0.size)) else (none)) else (if (bt x0 0) = 9 then (if 1 ≤ (x0.size : Int) then (pursuivantref04_Trim.l0 k (x0.extract 1 x0.size)) else (none)) else (pursuivantref04_Trim.j1 k x0))) else (none)) else (pursuivantref04_Trim.j1 k x0)
end
def pursuivantref04_Trim.f (k : Nat) (a0 : ByteArray) : Option (ByteArray) := pursuivantref04_Trim.l0 k a0
set_option maxHeartbeats 8000000 in
set_option maxRecDepth 100000 in
theorem pursuivantref04_Trim.calls (k : Nat) (a0 r : ByteArray) (w : World) (hG_ : GW w) (h : pursuivantref04_Trim.f k a0 = some r) :
  Calls Tryz.prog 47 #[.string a0] w fun e w' => e = .returned (.string r) ∧ Drawn0 w w' := by
 have H : (pursuivantref04_Trim.l0 k a0) = some r := h
 clear h; have HC2 := Aside0.mk H; clear H
 go_enter Tryz.func47, Tryz.ntmps47
 go_upto_block 0 with (fail)
 go_cut [0] (fun v0 wc => ∃ (kq : Nat) (x0_1 : ByteArray), v0 = .string x0_1 ∧ Aside0 (pursuivantref04_Trim.j1 kq x0_1 = some r) ∧ Aside0 (kq ≤ k) ∧ Drawn0 w wc)
 case first =>
  have H := HC2.out
  clear HC2
  have H' := Aside0.mk H
  clear H; go_wp2
  go_loopg [0] k (fun kq v0 w' => ∃ (x0_1 : ByteArray), v0 = .string x0_1 ∧ Aside0 (pursuivantref04_Trim.l0 kq x0_1 = some r) ∧ Aside0 (kq ≤ k) ∧ Drawn0 w w')
  case atStart => exact ⟨(a0), z51_, H', ⟨Nat.le_refl _⟩, z52_⟩
  case round =>
   clear H'
   obtain ⟨x0_1, rfl, HA, HK1, ⟨m1, rfl⟩⟩ := hrel
   cases gk with
   | zero => exact absurd HA.out (by simp [pursuivantref04_Trim.l0])
   | succ k1 =>
    have H := HA.out
    clear HA
    simp only [pursuivantref04_Trim.l0] at H
    by_cases c3 : (x0_1.size : Int) > 0
    ·rw [if_pos c3] at H
     have c3b0 : decide (0 < (x0_1.size : Int)) = true := decide_eq_true c3
     have c3b1 : decide (0 < x0_1.size) = true := decide_eq_true (by omega)
     clear c3
     (first | rw [c3b0] | (simp only [i64_w, i32_w]; rw [c3b0]) | skip)
     by_cases c4 : 0 < (x0_1.size : Int)
     ·rw [if_pos c4] at H
      have c4b0 : decide (0 < (x0_1.size : Int)) = true := decide_eq_true c4
      have c4b1 : decide (0 < x0_1.size) = true := decide_eq_true (by omega)
      clear c4
      by_cases c6 : (bt x0_1 0) = 32
      ·rw [if_pos c6] at H
       have c6b0 : ((bt x0_1 0) == 32) = true := beq_iff_eq.mpr c6
       have c6b1 : ((bt x0_1 0) != 32) = false := bne_eq_false_iff_eq.mpr c6
       clear c6
       by_cases c7 : 1 ≤ (x0_1.size : Int)
       ·rw [if_pos c7] at H
        have c7b0 := eq_true c7; have c7b1 : decide (1 ≤ (x0_1.size : Int)) = true := decide_eq_true c7; clear c7
        have H' := Aside0.mk H
        clear H
        have p5 : 0 ≤ (0 : Int) := (by omega)
        have q5 : 0 < x0_1.size := (by have : (0 : Int) < (x0_1.size : Int) := of_decide_eq_true z55_; omega)
        have hx5 : ∀ h : 0 < x0_1.size, ((x0_1[0]'h).toNat : Int) = bt x0_1 0 := bt_at x0_1 0
        clear p5
        have qi5 : (0 < (x0_1.size : Int)) = True := eq_true (of_decide_eq_true z55_)
        replace q5 := eq_true q5
        go_wp2
        go_roundg k1
        case measure => have := HK1.out; omega
        case rel => exact ⟨(x0_1.extract 1 x0_1.size), z51_, H', ⟨z58_⟩, z52_⟩
       ·rw [if_neg c7] at H
        exact absurd H (by simp)
      ·rw [if_neg c6] at H
       have c6b0 : ((bt x0_1 0) == 32) = false := beq_eq_false_iff_ne.mpr c6
       have c6b1 : ((bt x0_1 0) != 32) = true := bne_iff_ne.mpr c6
       by_cases c9 : (bt x0_1 0) = 9
       ·rw [if_pos c9] at H
        have c9b0 : ((bt x0_1 0) == 9) = true := beq_iff_eq.mpr c9
        have c9b1 : ((bt x0_1 0) != 9) = false := bne_eq_false_iff_eq.mpr c9
        clear c9
        by_cases c10 : 1 ≤ (x0_1.size : Int)
        ·rw [if_pos c10] at H
         have c10b0 := eq_true c10; have c10b1 : decide (1 ≤ (x0_1.size : Int)) = true := decide_eq_true c10; clear c10
         have H' := Aside0.mk H
         clear H
         have p5 : 0 ≤ (0 : Int) := (by omega)
         have q5 : 0 < x0_1.size := (by have : (0 : Int) < (x0_1.size : Int) := of_decide_eq_true z55_; omega)
         have hx5 : ∀ h : 0 < x0_1.size, ((x0_1[0]'h).toNat : Int) = bt x0_1 0 := bt_at x0_1 0
         clear p5
         have qi5 : (0 < (x0_1.size : Int)) = True := eq_true (of_decide_eq_true z55_)
         replace q5 := eq_true q5
         have p8 : 0 ≤ (0 : Int) := (by omega)
         have q8 : 0 < x0_1.size := (by have : (0 : Int) < (x0_1.size : Int) := of_decide_eq_true z55_; omega)
         have hx8 : ∀ h : 0 < x0_1.size, ((x0_1[0]'h).toNat : Int) = bt x0_1 0 := bt_at x0_1 0
         clear p8
         have qi8 : (0 < (x0_1.size : Int)) = True := eq_true (of_decide_eq_true z55_)
         replace q8 := eq_true q8
         go_wp2
         go_roundg k1
         case measure => have := HK1.out; omega
         case rel => exact ⟨(x0_1.extract 1 x0_1.size), z51_, H', ⟨z58_⟩, z52_⟩
        ·rw [if_neg c10] at H
         exact absurd H (by simp)
       ·rw [if_neg c9] at H
        have c9b0 : ((bt x0_1 0) == 9) = false := beq_eq_false_iff_ne.mpr c9
        have c9b1 : ((bt x0_1 0) != 9) = true := bne_iff_ne.mpr c9
        have H' := Aside0.mk H
        clear H
        have p5 : 0 ≤ (0 : Int) := (by omega)
        have q5 : 0 < x0_1.size := (by have : (0 : Int) < (x0_1.size : Int) := of_decide_eq_true z55_; omega)
        have hx5 : ∀ h : 0 < x0_1.size, ((x0_1[0]'h).toNat : Int) = bt x0_1 0 := bt_at x0_1 0
        clear p5
        have qi5 : (0 < (x0_1.size : Int)) = True := eq_true (of_decide_eq_true z55_)
        replace q5 := eq_true q5
        have p8 : 0 ≤ (0 : Int) := (by omega)
        have q8 : 0 < x0_1.size := (by have : (0 : Int) < (x0_1.size : Int) := of_decide_eq_true z55_; omega)
        have hx8 : ∀ h : 0 < x0_1.size, ((x0_1[0]'h).toNat : Int) = bt x0_1 0 := bt_at x0_1 0
        clear p8
        have qi8 : (0 < (x0_1.size : Int)) = True := eq_true (of_decide_eq_true z55_)
        replace q8 := eq_true q8
        go_wp2; go_meet
        case rel => exact ⟨_, (x0_1), z51_, H', ⟨z54_⟩, z52_⟩
     ·rw [if_neg c4] at H
      exact absurd H (by simp)
    ·rw [if_neg c3] at H
     have c3b0 : decide (0 < (x0_1.size : Int)) = false := decide_eq_false c3
     have c3b1 : decide (0 < x0_1.size) = false := decide_eq_false (by omega)
     clear c3
     (first | rw [c3b0] | (simp only [i64_w, i32_w]; rw [c3b0]) | skip)
     have H' := Aside0.mk H
     clear H; go_wp2; go_meet
     case rel => exact ⟨_, (x0_1), z51_, H', ⟨z54_⟩, z52_⟩
 case rest =>
  clear HC2
  obtain ⟨kq, x0_1, rfl, HA, HJ1, ⟨mc1, rfl⟩⟩ := hcut
  cases kq with
  | zero => exact absurd HA.out (by simp [pursuivantref04_Trim.j1])
  | succ kj1 =>
   have H := HA.out
   clear HA
   simp only [pursuivantref04_Trim.j1] at H
   have H' := Aside0.mk H
   clear H; go_wp2
   go_loopg [0] kj1 (fun kq v0 w' => ∃ (x0_2 : ByteArray), v0 = .string x0_2 ∧ Aside0 (pursuivantref04_Trim.l1 kq x0_2 = some r) ∧ Aside0 (kq ≤ kj1) ∧ Drawn0 w w')
   case atStart => exact ⟨(x0_1), z51_, H', ⟨Nat.le_refl _⟩, z52_⟩
   case round =>
    clear H'
    obtain ⟨x0_2, rfl, HA, HK2, ⟨m2, rfl⟩⟩ := hrel
    cases gk with
    | zero => exact absurd HA.out (by simp [pursuivantref04_Trim.l1])
    | succ k2 =>
     have H := HA.out
     clear HA
     simp only [pursuivantref04_Trim.l1] at H
     by_cases c11 : (x0_2.size : Int) > 0
     ·rw [if_pos c11] at H
      have c11b0 : decide (0 < (x0_2.size : Int)) = true := decide_eq_true c11
      have c11b1 : decide (0 < x0_2.size) = true := decide_eq_true (by omega)
      clear c11
      obtain ⟨ji12, hji12⟩ : ∃ j_ : Int, (wrap64 ((x0_2.size : Int) - 1)) = j_ := ⟨_, rfl⟩
      replace H : (if 0 ≤ (ji12) then (if (ji12) < (x0_2.size : Int) then (if (bt x0_2 (ji12)) = 32 then (if (ji12) ≤ (x0_2.size : Int) then (pursuivantref04_Trim.l1 k2 (x0_2.extract 0 ((ji12) : Int).toNat)) else (none)) else (if (bt x0_2 (ji12)) = 9 then (if (ji12) ≤ (x0_2.size : Int) then (pursuivantref04_Trim.l1 k2 (x0_2.extract 0 ((ji12) : Int).toNat)) else (none)) else (some x0_2))) else (none)) else (none)) = some r := by first | (rw [hji12] at H; exact H) | (simp only [hji12] at H ⊢; exact H)
      have hji12w : (IntKind.i64.wrap ((x0_2.size : Int) - 1)) = ji12 := (i64_w _).trans hji12
      by_cases c13 : 0 ≤ (ji12)
      ·rw [if_pos c13] at H
       have c13b0 : decide (0 ≤ (ji12)) = true := decide_eq_true c13; clear c13
       by_cases c14 : (ji12) < (x0_2.size : Int)
       ·rw [if_pos c14] at H
        have c14b0 : decide ((ji12) < (x0_2.size : Int)) = true := decide_eq_true c14; clear c14
        by_cases c16 : (bt x0_2 (ji12)) = 32
        ·rw [if_pos c16] at H
         have c16b0 : ((bt x0_2 (ji12)) == 32) = true := beq_iff_eq.mpr c16
         have c16b1 : ((bt x0_2 (ji12)) != 32) = false := bne_eq_false_iff_eq.mpr c16
         clear c16
         have c17b0 := eq_true (of_decide_eq_true z55_ : 0 ≤ (ji12))
         by_cases c18 : (ji12) ≤ (x0_2.size : Int)
         ·rw [if_pos c18] at H
          have c18b0 := eq_true c18; have c18b1 : decide ((ji12) ≤ (x0_2.size : Int)) = true := decide_eq_true c18; clear c18
          have H' := Aside0.mk H
          clear H
          have p15 : 0 ≤ ((ji12) : Int) := of_decide_eq_true z55_
          have q15 : (ji12) < (x0_2.size : Int) := of_decide_eq_true z55_
          have hx15 := bt_at x0_2 (ji12)
          replace p15 := eq_true p15
          replace q15 := eq_true q15
          go_wp2
          go_roundg k2
          case measure => have := HJ1.out; have := HK2.out; omega
          case rel => exact ⟨(x0_2.extract 0 ((ji12) : Int).toNat), z29_, H', ⟨by have := HJ1.out; have := HK2.out; omega⟩, z52_⟩
         ·rw [if_neg c18] at H
          exact absurd H (by simp)
        ·rw [if_neg c16] at H
         have c16b0 : ((bt x0_2 (ji12)) == 32) = false := beq_eq_false_iff_ne.mpr c16
         have c16b1 : ((bt x0_2 (ji12)) != 32) = true := bne_iff_ne.mpr c16
         by_cases c20 : (bt x0_2 (ji12)) = 9
         ·rw [if_pos c20] at H
          have c20b0 : ((bt x0_2 (ji12)) == 9) = true := beq_iff_eq.mpr c20
          have c20b1 : ((bt x0_2 (ji12)) != 9) = false := bne_eq_false_iff_eq.mpr c20
          clear c20
          have c21b0 := eq_true (of_decide_eq_true z55_ : 0 ≤ (ji12))
          by_cases c22 : (ji12) ≤ (x0_2.size : Int)
          ·rw [if_pos c22] at H
           have c22b0 := eq_true c22; have c22b1 : decide ((ji12) ≤ (x0_2.size : Int)) = true := decide_eq_true c22; clear c22
           have H' := Aside0.mk H
           clear H
           have p15 : 0 ≤ ((ji12) : Int) := of_decide_eq_true z55_
           have q15 : (ji12) < (x0_2.size : Int) := of_decide_eq_true z55_
           have hx15 := bt_at x0_2 (ji12)
           replace p15 := eq_true p15
           replace q15 := eq_true q15
           have p19 : 0 ≤ ((ji12) : Int) := of_decide_eq_true z55_
           have q19 : (ji12) < (x0_2.size : Int) := of_decide_eq_true z55_
           have hx19 := bt_at x0_2 (ji12)
           replace p19 := eq_true p19
           replace q19 := eq_true q19
           go_wp2
           go_roundg k2
           case measure => have := HJ1.out; have := HK2.out; omega
           case rel => exact ⟨(x0_2.extract 0 ((ji12) : Int).toNat), z29_, H', ⟨by have := HJ1.out; have := HK2.out; omega⟩, z52_⟩
          ·rw [if_neg c22] at H
           exact absurd H (by simp)
         ·rw [if_neg c20] at H
          have c20b0 : ((bt x0_2 (ji12)) == 9) = false := beq_eq_false_iff_ne.mpr c20
          have c20b1 : ((bt x0_2 (ji12)) != 9) = true := bne_iff_ne.mpr c20
          obtain rfl := Option.some.inj H
          have p15 : 0 ≤ ((ji12) : Int) := of_decide_eq_true z55_
          have q15 : (ji12) < (x0_2.size : Int) := of_decide_eq_true z55_
          have hx15 := bt_at x0_2 (ji12)
          replace p15 := eq_true p15
          replace q15 := eq_true q15
          have p19 : 0 ≤ ((ji12) : Int) := of_decide_eq_true z55_
          have q19 : (ji12) < (x0_2.size : Int) := of_decide_eq_true z55_
          have hx19 := bt_at x0_2 (ji12)
          replace p19 := eq_true p19
          replace q19 := eq_true q19
          go_wp2
          go_ret
          exact ⟨z29_, z52_⟩
       ·rw [if_neg c14] at H
        exact absurd H (by simp)
      ·rw [if_neg c13] at H
       exact absurd H (by simp)
     ·rw [if_neg c11] at H
      have c11b0 : decide (0 < (x0_2.size : Int)) = false := decide_eq_false c11
      have c11b1 : decide (0 < x0_2.size) = false := decide_eq_false (by omega)
      clear c11
      obtain rfl := Option.some.inj H
      go_wp2
      go_ret
      exact ⟨z51_, z52_⟩

mutual
def pursuivantref04_List.l0 : Nat → ByteArray → List ByteArray → Int → Int → Option (List ByteArray)
 | 0, _, _, _, _ => none
 | k + 1, x0, x3, x4, x5 => if x5 ≤ (x0.size : Int) then (if x5 < (x0.size : Int) then (if 0 ≤ x5 then (pursuivantref04_List.j1 k x0 x3 x4 x5 ((bt x0 x5) != 44)) else (none)) else (pursuivantref04_List.j1 k x0 x3 x4 x5 false)) else (some x3)
def pursuivantref04_List.j1 : Nat → ByteArray → List ByteArray → Int → Int → Bool → Option (List ByteArray)
 | 0, _, _, _, _, _ => none
 | k + 1, x0, x3, x4, x5, x23 => if x23 = true then (pursuivantref04_List.l0 k x0 x3 x4 (wrap64 (x5 + 1))) else (if 0 ≤ x4 then (if x4 ≤ x5 then (if x5 ≤ (x0.size : Int) then ((pursuivantref04_Trim.f k (x0.extract (x4 : Int).toNat (x5 : Int).toNat)).bind fun t108 => (if t108.toList = ([] : List UInt8) then (pursuivantref04_List.l0 k x0 x3 (wrap64 (x5 + 1)) (wrap64 (x5 + 1))) else (if x3.length < 8796093022208 then (pursuivantref04_List.l0 k x0 (x3 ++ [t108]) (wrap64 (x5 + 1)) (wrap64 (x5 + 1))) else (none)))) else (none)) else (none)) else (none))
end
def pursuivantref04_List.f (k : Nat) (a0 : ByteArray) : Option (List ByteArray) := pursuivantref04_List.l0 k a0 (([] : List ByteArray)) 0 0
set_option maxHeartbeats 8000000 in
set_option maxRecDepth 100000 in
theorem pursuivantref04_List.calls (k : Nat) (a0 : ByteArray) (r : List ByteArray) (w : World) (hG_ : GW w) (h : pursuivantref04_List.f k a0 = some r) :
  Calls Tryz.prog 32 #[.string a0] w fun e w' => ∃ v0_ : Value, e = .returned (v0_) ∧ Kd.R Kd.string 9 w' w.heap.size (fun _ => True) v0_ r ∧ Below w.heap.size w w' := by
 have HB := Aside0.mk (Below.refl w.heap.size w)
 have H : (pursuivantref04_List.l0 k a0 (([] : List ByteArray)) 0 0) = some r := h
 clear h
 obtain ⟨y105, hy105⟩ : ∃ y_ : List ByteArray, y_ = (([] : List ByteArray)) := ⟨_, rfl⟩
 replace H : (pursuivantref04_List.l0 k a0 y105 0 0) = some r := by first | (rw [hy105]; with_reducible exact H) | (have H2_ := (Option.bind_some _ _).symm.trans H; rw [hy105]; with_reducible exact H2_) | (have H2_ := (Option.bind_some _ _).symm.trans H; with_reducible exact H2_) | with_reducible exact H | (rw [hy105]; exact H) | exact H
 have Ny105 := Aside0.mk hy105; clear hy105
 have H' := Aside0.mk H
 clear H
 go_enter Tryz.func32, Tryz.ntmps32
 go_wp2_with (first | ((with_reducible refine gate_dst (N := 7) rfl ?_); refine Kd.R_lit Kd.string _ 9 ?hg (N := 7) ?hd (xs := ([] : List ByteArray)) (inner := []) (ok := fun _ => True) (okp := fun _ => True) ?hr ?hp (fun _ hk => hk) trivial (Below.refl _ _) (Nat.le_refl _) (by simp) ?_; (case hd => rfl); (case hg => rfl); (case hr => first | (go_simp; done) | (go_simp; rfl)); (case hp => exact (Reps.none _ _)); intro v106 w2 ho3 hb hg_ hnew_; clear hg_ hnew_; (first | rw [← Ny105.out] at ho3 | (simp only [Int.reduceToNat] at ho3; rw [← Ny105.out] at ho3)); have n0_ := Aside0.mk (Kd.R_lower ho3 (below_size z25_)); have n1_ := Aside0.mk (below_step z25_ hb); clear HB; have HO107 := n0_; have HB := n1_; clear n0_ n1_; clear hb ho3))
 go_loopg [3, 4, 5] k (fun kq v3 v4 v5 w' => ∃ (x3_1 : List ByteArray) (x4_1 : Int) (x5_1 : Int), v4 = .int .i64 x4_1 ∧ v5 = .int .i64 x5_1 ∧ Aside0 (pursuivantref04_List.l0 kq a0 x3_1 x4_1 x5_1 = some r) ∧ Aside0 (kq ≤ k) ∧ Aside0 (Kd.R Kd.string 9 w' w.heap.size (fun _ => True) v3 x3_1) ∧ Aside0 (Below w.heap.size w w'))
 case atStart => exact ⟨(y105), (0), (0), z51_, z51_, H', ⟨Nat.le_refl _⟩, ⟨z43_⟩, ⟨z25_⟩⟩
 case round =>
  clear H'
  obtain ⟨x3_1, x4_1, x5_1, rfl, rfl, HA, HK1, HO_3, HB⟩ := hrel
  cases gk with
  | zero => exact absurd HA.out (by simp [pursuivantref04_List.l0])
  | succ k1 =>
   have H := HA.out
   clear HA
   simp only [pursuivantref04_List.l0] at H
   by_cases c4 : x5_1 ≤ (a0.size : Int)
   ·rw [if_pos c4] at H
    have c4b0 : decide (x5_1 ≤ (a0.size : Int)) = true := decide_eq_true c4; clear c4; have HC5 := Aside0.mk H; clear H
    go_upto_region 5 with (fail)
    go_cut [23] (fun v23 wc => ∃ (kq : Nat) (x23_4 : Bool), v23 = .bool x23_4 ∧ Aside0 (pursuivantref04_List.j1 kq a0 x3_1 x4_1 x5_1 x23_4 = some r) ∧ Aside0 (kq ≤ k1) ∧ Aside0 (Kd.R Kd.string 9 wc w.heap.size (fun _ => True) u3 x3_1) ∧ Aside0 (Below w.heap.size w wc))
    case first =>
     have H := HC5.out
     clear HC5
     by_cases c6 : x5_1 < (a0.size : Int)
     ·rw [if_pos c6] at H
      have c6b0 : decide (x5_1 < (a0.size : Int)) = true := decide_eq_true c6; clear c6
      (first | rw [c6b0] | (simp only [i64_w, i32_w]; rw [c6b0]) | skip)
      by_cases c7 : 0 ≤ x5_1
      ·rw [if_pos c7] at H
       have c7b0 : decide (0 ≤ x5_1) = true := decide_eq_true c7; clear c7
       have H' := Aside0.mk H
       clear H
       have p8 : 0 ≤ (x5_1 : Int) := of_decide_eq_true z55_
       have q8 : x5_1 < (a0.size : Int) := of_decide_eq_true z55_
       have hx8 := bt_at a0 x5_1
       replace p8 := eq_true p8
       replace q8 := eq_true q8
       go_wp2; go_meet
       case rel => exact ⟨_, (((bt a0 x5_1) != 44)), z51_, H', ⟨z54_⟩, ⟨z50_⟩, ⟨z25_⟩⟩
      ·rw [if_neg c7] at H
       exact absurd H (by simp)
     ·rw [if_neg c6] at H
      have c6b0 : decide (x5_1 < (a0.size : Int)) = false := decide_eq_false c6; clear c6
      (first | rw [c6b0] | (simp only [i64_w, i32_w]; rw [c6b0]) | skip)
      have H' := Aside0.mk H
      clear H; go_wp2; go_meet
      case rel => exact ⟨_, (false), z51_, H', ⟨z54_⟩, ⟨z50_⟩, ⟨z25_⟩⟩
    case rest =>
     clear HC5; (try clear c4); (try clear c4b0)
     obtain ⟨kq, x23_4, rfl, HA, HJ4, HO_3, HB⟩ := hcut
     cases kq with
     | zero => exact absurd HA.out (by simp [pursuivantref04_List.j1])
     | succ kj4 =>
      have H := HA.out
      clear HA
      simp only [pursuivantref04_List.j1] at H
      by_cases c9 : x23_4 = true
      ·subst c9
       have H1 : (pursuivantref04_List.l0 kj4 a0 x3_1 x4_1 (wrap64 (x5_1 + 1))) = some r := by rw [if_pos rfl] at H; exact H
       clear H
       have H := H1
       clear H1
       have H' := Aside0.mk H
       clear H; go_wp2
       go_roundg kj4
       case measure => have := HK1.out; have := HJ4.out; omega
       case rel => exact ⟨(x3_1), (x4_1), (wrap64 (x5_1 + 1)), z51_, z51_, H', ⟨z56_⟩, ⟨z50_⟩, ⟨z25_⟩⟩
      ·replace c9 := Bool.eq_false_iff.mpr c9
       subst c9
       have H1 : (if 0 ≤ x4_1 then (if x4_1 ≤ x5_1 then (if x5_1 ≤ (a0.size : Int) then ((pursuivantref04_Trim.f kj4 (a0.extract (x4_1 : Int).toNat (x5_1 : Int).toNat)).bind fun t108 => (if t108.toList = ([] : List UInt8) then (pursuivantref04_List.l0 kj4 a0 x3_1 (wrap64 (x5_1 + 1)) (wrap64 (x5_1 + 1))) else (if x3_1.length < 8796093022208 then (pursuivantref04_List.l0 kj4 a0 (x3_1 ++ [t108]) (wrap64 (x5_1 + 1)) (wrap64 (x5_1 + 1))) else (none)))) else (none)) else (none)) else (none)) = some r := by rw [if_neg (show ¬ (false = true) by decide)] at H; exact H
       clear H
       have H := H1
       clear H1
       by_cases c10 : 0 ≤ x4_1
       ·rw [if_pos c10] at H
        have c10b0 := eq_true c10; have c10b1 : decide (0 ≤ x4_1) = true := decide_eq_true c10; clear c10
        by_cases c11 : x4_1 ≤ x5_1
        ·rw [if_pos c11] at H
         have c11b0 := eq_true c11; have c11b1 : decide (x4_1 ≤ x5_1) = true := decide_eq_true c11; clear c11
         by_cases c12 : x5_1 ≤ (a0.size : Int)
         ·rw [if_pos c12] at H
          have c12b0 := eq_true c12; have c12b1 : decide (x5_1 ≤ (a0.size : Int)) = true := decide_eq_true c12; clear c12
          replace H := Option.bind_eq_some_iff.mp H
          obtain ⟨t108, A130, H⟩ := H
          replace H : (if t108.toList = ([] : List UInt8) then (pursuivantref04_List.l0 kj4 a0 x3_1 (wrap64 (x5_1 + 1)) (wrap64 (x5_1 + 1))) else (if x3_1.length < 8796093022208 then (pursuivantref04_List.l0 kj4 a0 (x3_1 ++ [t108]) (wrap64 (x5_1 + 1)) (wrap64 (x5_1 + 1))) else (none))) = some r := H
          have A13 := Aside0.mk A130; clear A130
          by_cases c14 : t108.toList = ([] : List UInt8)
          ·rw [if_pos c14] at H
           have c14b0 : (t108.toList == ([] : List UInt8)) = true := beq_iff_eq.mpr c14
           try have c14e0 : t108.toList.isEmpty = true := by rw [← nil_beq]; exact c14b0
           have c14b1 : (t108.toList != ([] : List UInt8)) = false := bne_eq_false_iff_eq.mpr c14
           clear c14
           have H' := Aside0.mk H
           clear H
           go_wp2_with (first | ((with_reducible refine gate_callee (f := 47) rfl ?_); refine goesL_ (some 28) rfl rfl Tryz.func47 (by kernel_rfl) rfl #[.string (a0.extract (x4_1 : Int).toNat (x5_1 : Int).toNat)] rfl z24_ ?_; (with_reducible refine (pursuivantref04_Trim.calls kj4 (a0.extract (x4_1 : Int).toNat (x5_1 : Int).toNat) t108 _ ?gw7_ A13.out).mono ?_); (case gw7_ => exact z4_); rintro e w' ⟨rfl, ⟨nd, rfl⟩⟩; refine ⟨_, rfl, ?_⟩))
           go_roundg kj4
           case measure => have := HK1.out; have := HJ4.out; omega
           case rel => exact ⟨(x3_1), (wrap64 (x5_1 + 1)), (wrap64 (x5_1 + 1)), z51_, z51_, H', ⟨z56_⟩, ⟨z50_⟩, ⟨z25_⟩⟩
          ·rw [if_neg c14] at H
           have c14b0 : (t108.toList == ([] : List UInt8)) = false := beq_eq_false_iff_ne.mpr c14
           try have c14e0 : t108.toList.isEmpty = false := by rw [← nil_beq]; exact c14b0
           have c14b1 : (t108.toList != ([] : List UInt8)) = true := bne_iff_ne.mpr c14
           by_cases c15 : x3_1.length < 8796093022208
           ·rw [if_pos c15] at H
            have LMc15 := Aside0.mk c15; clear c15
            obtain ⟨y109, hy109⟩ : ∃ y_ : List ByteArray, y_ = (x3_1 ++ [t108]) := ⟨_, rfl⟩
            replace H : (pursuivantref04_List.l0 kj4 a0 y109 (wrap64 (x5_1 + 1)) (wrap64 (x5_1 + 1))) = some r := by first | (rw [hy109]; with_reducible exact H) | (have H2_ := (Option.bind_some _ _).symm.trans H; rw [hy109]; with_reducible exact H2_) | (have H2_ := (Option.bind_some _ _).symm.trans H; with_reducible exact H2_) | with_reducible exact H | (rw [hy109]; exact H) | exact H
            have Ny109 := Aside0.mk hy109; clear hy109
            have H' := Aside0.mk H
            clear H
            go_wp2_with (first | ((with_reducible refine gate_callee (f := 47) rfl ?_); refine goesL_ (some 28) rfl rfl Tryz.func47 (by kernel_rfl) rfl #[.string (a0.extract (x4_1 : Int).toNat (x5_1 : Int).toNat)] rfl z24_ ?_; (with_reducible refine (pursuivantref04_Trim.calls kj4 (a0.extract (x4_1 : Int).toNat (x5_1 : Int).toNat) t108 _ ?gw8_ A13.out).mono ?_); (case gw8_ => exact z4_); rintro e w' ⟨rfl, ⟨nd, rfl⟩⟩; refine ⟨_, rfl, ?_⟩) | ((with_reducible refine gate_builtin (b := .append) (xs := #[.tmp 31, .tmp 33]) rfl ?_); at_builtin; refine Kd.R_append Kd.string (w0 := w) w.heap.size rfl (.tmp 31) (.tmp 33) 31 9 (.string ⟨#[]⟩) 16 rfl Tryz.underlying31 info9 rfl (by decide) (by omega) u3 x3_1 t108 [.string t108] (fun _ => True) (fun _ => False) rfl rfl ?aP (fun _ hk => hk.elim) ?aF ?aO ?aB ?aS ?aL ?_; (case aP => exact rfl); (case aB => exact z25_); (case aF => exact (fun _ _ => trivial)); (case aO => exact z50_); (case aS => exact (below_size z25_)); (case aL => have := LMc15.out; omega); intro v110 w16 ho hb hg hat; rw [← Ny109.out] at ho; have n0_ := Aside0.mk (hb); have n1_ := Aside0.mk (ho); clear HB; clear HO_3; have HB := n0_; have HO111 := n1_; clear n0_ n1_; clear ho hb hg hat))
            go_roundg kj4
            case measure => have := HK1.out; have := HJ4.out; omega
            case rel => exact ⟨(y109), (wrap64 (x5_1 + 1)), (wrap64 (x5_1 + 1)), z51_, z51_, H', ⟨z56_⟩, ⟨by (with_reducible repeat (first | apply Kd.R_alloc | apply Kd.R_drewN | apply Kd.R_drew)); exact HO111.out⟩, ⟨z25_⟩⟩
           ·rw [if_neg c15] at H
            exact absurd H (by simp)
         ·rw [if_neg c12] at H
          exact absurd H (by simp)
        ·rw [if_neg c11] at H
         exact absurd H (by simp)
       ·rw [if_neg c10] at H
        exact absurd H (by simp)
   ·rw [if_neg c4] at H
    have c4b0 : decide (x5_1 ≤ (a0.size : Int)) = false := decide_eq_false c4; clear c4
    obtain rfl := Option.some.inj H
    go_wp2
    go_ret
    exact ⟨_, z28_, z50_, z25_⟩

def pursuivantref04_top.l0 : Nat → ByteArray → Int → Int → Option (Int)
 | 0, _, _, _ => none
 | k + 1, x0, x3, x4 => if x4 < (x0.size : Int) then (if 0 ≤ x4 then (pursuivantref04_top.l0 k x0 (IntKind.u64.wrap ((IntKind.u64.wrap (10 * x3)) + (((bt x0 x4) - 48) % 256))) (wrap64 (x4 + 1))) else (none)) else (if x3 > 9223372036854775807 then (some 9223372036854775807) else (some (wrap64 (x3))))
def pursuivantref04_top.f (k : Nat) (a0 : ByteArray) : Option (Int) := pursuivantref04_top.l0 k a0 0 0
set_option maxHeartbeats 8000000 in
set_option maxRecDepth 100000 in
theorem pursuivantref04_top.calls (k : Nat) (a0 : ByteArray) (r : Int) (w : World) (hG_ : GW w) (h : pursuivantref04_top.f k a0 = some r) :
  Calls Tryz.prog 58 #[.string a0] w fun e w' => e = .returned (.int .i64 r) ∧ Drawn0 w w' := by
 have H : (pursuivantref04_top.l0 k a0 0 0) = some r := h
 clear h
 have H' := Aside0.mk H
 clear H
 go_enter Tryz.func58, Tryz.ntmps58
 go_wp2
 go_loopg [3, 4] k (fun kq v3 v4 w' => ∃ (x3_1 x4_1 : Int), v3 = .int .u64 x3_1 ∧ v4 = .int .i64 x4_1 ∧ Aside0 (pursuivantref04_top.l0 kq a0 x3_1 x4_1 = some r) ∧ Aside0 (kq ≤ k) ∧ Drawn0 w w')
 case atStart => exact ⟨(0), (0), z51_, z51_, H', ⟨Nat.le_refl _⟩, z52_⟩
 case round =>
  clear H'
  obtain ⟨x3_1, x4_1, rfl, rfl, HA, HK1, ⟨m1, rfl⟩⟩ := hrel
  cases gk with
  | zero => exact absurd HA.out (by simp [pursuivantref04_top.l0])
  | succ k1 =>
   have H := HA.out
   clear HA
   simp only [pursuivantref04_top.l0] at H
   by_cases c2 : x4_1 < (a0.size : Int)
   ·rw [if_pos c2] at H
    have c2b0 : decide (x4_1 < (a0.size : Int)) = true := decide_eq_true c2; clear c2
    by_cases c3 : 0 ≤ x4_1
    ·rw [if_pos c3] at H
     have c3b0 : decide (0 ≤ x4_1) = true := decide_eq_true c3; clear c3
     have H' := Aside0.mk H
     clear H
     have p4 : 0 ≤ (x4_1 : Int) := of_decide_eq_true z55_
     have q4 : x4_1 < (a0.size : Int) := of_decide_eq_true z55_
     have hx4 := bt_at a0 x4_1
     replace p4 := eq_true p4
     replace q4 := eq_true q4
     go_wp2
     go_roundg k1
     case measure => have := HK1.out; omega
     case rel => exact ⟨(IntKind.u64.wrap ((IntKind.u64.wrap (10 * x3_1)) + (((bt a0 x4_1) - 48) % 256))), (wrap64 (x4_1 + 1)), z51_, z51_, H', ⟨z58_⟩, z52_⟩
    ·rw [if_neg c3] at H
     exact absurd H (by simp)
   ·rw [if_neg c2] at H
    have c2b0 : decide (x4_1 < (a0.size : Int)) = false := decide_eq_false c2; clear c2
    by_cases c5 : x3_1 > 9223372036854775807
    ·rw [if_pos c5] at H
     have c5b0 : decide (9223372036854775807 < x3_1) = true := decide_eq_true c5; clear c5
     obtain rfl := Option.some.inj H
     go_wp2
     go_ret
     exact ⟨z51_, z52_⟩
    ·rw [if_neg c5] at H
     have c5b0 : decide (9223372036854775807 < x3_1) = false := decide_eq_false c5; clear c5
     obtain rfl := Option.some.inj H
     go_wp2
     go_ret
     exact ⟨z51_, z52_⟩

mutual
def pursuivantref04_Number.l0 : Nat → ByteArray → Int → Int → Int → Int → Option (Int × Bool)
 | 0, _, _, _, _, _ => none
 | k + 1, x0, x1, x6, x7, x8 => if x8 < (x0.size : Int) then (if 0 ≤ x8 then (if (bt x0 x8) < 48 then (pursuivantref04_Number.j1 k x0 x1 x6 x7 x8 true) else (pursuivantref04_Number.j1 k x0 x1 x6 x7 x8 (decide ((bt x0 x8) > 57)))) else (none)) else (if x7 = 19 then (pursuivantref04_Number.j3 k x0 x1 x6 x7 (decide ((x0.size : Int) ≥ 19))) else (pursuivantref04_Number.j3 k x0 x1 x6 x7 false))
def pursuivantref04_Number.j1 : Nat → ByteArray → Int → Int → Int → Int → Bool → Option (Int × Bool)
 | 0, _, _, _, _, _, _ => none
 | k + 1, x0, x1, x6, x7, x8, x24 => if x24 = true then (some (0, false)) else (if x7 > 0 then (pursuivantref04_Number.j2 k x0 x1 x6 x7 x8 true) else (if 0 ≤ x8 then (if x8 < (x0.size : Int) then (pursuivantref04_Number.j2 k x0 x1 x6 x7 x8 (decide ((bt x0 x8) > 48))) else (none)) else (none)))
def pursuivantref04_Number.j2 : Nat → ByteArray → Int → Int → Int → Int → Bool → Option (Int × Bool)
 | 0, _, _, _, _, _, _ => none
 | k + 1, x0, x1, x6, x7, x8, x32 => if x32 = true then (if (wrap64 (x7 + 1)) ≤ 18 then (if 0 ≤ x8 then (if x8 < (x0.size : Int) then (pursuivantref04_Number.l0 k x0 x1 (wrap64 ((wrap64 (10 * x6)) + (((bt x0 x8) - 48) % 256))) (wrap64 (x7 + 1)) (wrap64 (x8 + 1))) else (none)) else (none)) else (pursuivantref04_Number.l0 k x0 x1 x6 (wrap64 (x7 + 1)) (wrap64 (x8 + 1)))) else (if x7 ≤ 18 then (if 0 ≤ x8 then (if x8 < (x0.size : Int) then (pursuivantref04_Number.l0 k x0 x1 (wrap64 ((wrap64 (10 * x6)) + (((bt x0 x8) - 48) % 256))) x7 (wrap64 (x8 + 1))) else (none)) else (none)) else (pursuivantref04_Number.l0 k x0 x1 x6 x7 (wrap64 (x8 + 1))))
def pursuivantref04_Number.j3 : Nat → ByteArray → Int → Int → Int → Bool → Option (Int × Bool)
 | 0, _, _, _, _, _ => none
 | k + 1, x0, x1, x6, x7, x51 => if x51 = true then (if 0 ≤ (wrap64 ((x0.size : Int) - 19)) then (if (wrap64 ((x0.size : Int) - 19)) ≤ (x0.size : Int) then ((pursuivantref04_top.f k (x0.extract ((wrap64 ((x0.size : Int) - 19)) : Int).toNat x0.size)).bind fun t112 => (if x7 > 19 then (some (x1, decide ((x0.size : Int) > 0))) else (if t112 > x1 then (some (x1, decide ((x0.size : Int) > 0))) else (some (t112, decide ((x0.size : Int) > 0)))))) else (none)) else (none)) else (if x7 > 19 then (some (x1, decide ((x0.size : Int) > 0))) else (if x6 > x1 then (some (x1, decide ((x0.size : Int) > 0))) else (some (x6, decide ((x0.size : Int) > 0)))))
end
def pursuivantref04_Number.f (k : Nat) (a0 : ByteArray) (a1 : Int) : Option (Int × Bool) := pursuivantref04_Number.l0 k a0 a1 0 0 0
set_option maxHeartbeats 8000000 in
set_option maxRecDepth 100000 in
theorem pursuivantref04_Number.calls (k : Nat) (a0 : ByteArray) (a1 r1 : Int) (r2 : Bool) (w : World) (hG_ : GW w) (h : pursuivantref04_Number.f k a0 a1 = some (r1, r2)) :
  Calls Tryz.prog 35 #[.string a0, .int .i64 a1] w fun e w' => e = .returned (.tuple #[.int .i64 r1, .bool r2]) ∧ Drawn0 w w' := by
 have H : (pursuivantref04_Number.l0 k a0 a1 0 0 0) = some (r1, r2) := h
 clear h
 have H' := Aside0.mk H
 clear H
 go_enter Tryz.func35, Tryz.ntmps35
 go_wp2
 go_loopg [6, 7, 8] k (fun kq v6 v7 v8 w' => ∃ (x6_1 x7_1 x8_1 : Int), v6 = .int .i64 x6_1 ∧ v7 = .int .i64 x7_1 ∧ v8 = .int .i64 x8_1 ∧ Aside0 (pursuivantref04_Number.l0 kq a0 a1 x6_1 x7_1 x8_1 = some (r1, r2)) ∧ Aside0 (kq ≤ k) ∧ Drawn0 w w')
 case atStart => exact ⟨(0), (0), (0), z51_, z51_, z51_, H', ⟨Nat.le_refl _⟩, z52_⟩
 case round =>
  clear H'
  obtain ⟨x6_1, x7_1, x8_1, rfl, rfl, rfl, HA, HK1, ⟨m1, rfl⟩⟩ := hrel
  cases gk with
  | zero => exact absurd HA.out (by simp [pursuivantref04_Number.l0])
  | succ k1 =>
   have H := HA.out
   clear HA
   simp only [pursuivantref04_Number.l0] at H
   by_cases c3 : x8_1 < (a0.size : Int)
   ·rw [if_pos c3] at H
    have c3b0 : decide (x8_1 < (a0.size : Int)) = true := decide_eq_true c3; clear c3; have HC4 := Aside0.mk H; clear H
    go_upto_region 5 with (fail)
    go_cut [24] (fun v24 wc => ∃ (kq : Nat) (x24_3 : Bool), v24 = .bool x24_3 ∧ Aside0 (pursuivantref04_Number.j1 kq a0 a1 x6_1 x7_1 x8_1 x24_3 = some (r1, r2)) ∧ Aside0 (kq ≤ k1) ∧ Drawn0 w wc)
    case first =>
     have H := HC4.out
     clear HC4
     by_cases c5 : 0 ≤ x8_1
     ·rw [if_pos c5] at H
      have c5b0 : decide (0 ≤ x8_1) = true := decide_eq_true c5; clear c5
      (first | rw [c5b0] | (simp only [i64_w, i32_w]; rw [c5b0]) | skip)
      by_cases c7 : (bt a0 x8_1) < 48
      ·rw [if_pos c7] at H
       have c7b0 : decide ((bt a0 x8_1) < 48) = true := decide_eq_true c7; clear c7
       have H' := Aside0.mk H
       clear H
       have p6 : 0 ≤ (x8_1 : Int) := of_decide_eq_true z55_
       have q6 : x8_1 < (a0.size : Int) := of_decide_eq_true z55_
       have hx6 := bt_at a0 x8_1
       replace p6 := eq_true p6
       replace q6 := eq_true q6
       go_wp2; go_meet
       case rel => exact ⟨_, (true), z51_, H', ⟨z54_⟩, z52_⟩
      ·rw [if_neg c7] at H
       have c7b0 : decide ((bt a0 x8_1) < 48) = false := decide_eq_false c7; clear c7
       have H' := Aside0.mk H
       clear H
       have p6 : 0 ≤ (x8_1 : Int) := of_decide_eq_true z55_
       have q6 : x8_1 < (a0.size : Int) := of_decide_eq_true z55_
       have hx6 := bt_at a0 x8_1
       replace p6 := eq_true p6
       replace q6 := eq_true q6
       have p8 : 0 ≤ (x8_1 : Int) := of_decide_eq_true z55_
       have q8 : x8_1 < (a0.size : Int) := of_decide_eq_true z55_
       have hx8 := bt_at a0 x8_1
       replace p8 := eq_true p8
       replace q8 := eq_true q8
       go_wp2; go_meet
       case rel => exact ⟨_, (decide ((bt a0 x8_1) > 57)), z51_, H', ⟨z54_⟩, z52_⟩
     ·rw [if_neg c5] at H
      exact absurd H (by simp)
    case rest =>
     clear HC4; (try clear c3); (try clear c3b0)
     obtain ⟨kq, x24_3, rfl, HA, HJ3, ⟨mc3, rfl⟩⟩ := hcut
     cases kq with
     | zero => exact absurd HA.out (by simp [pursuivantref04_Number.j1])
     | succ kj3 =>
      have H := HA.out
      clear HA
      simp only [pursuivantref04_Number.j1] at H
      by_cases c9 : x24_3 = true
      ·subst c9
       have H1 : (some (0, false)) = some (r1, r2) := by rw [if_pos rfl] at H; exact H
       clear H
       have H := H1
       clear H1
       simp only [Option.some.injEq, Prod.mk.injEq] at H
       obtain ⟨rfl, rfl⟩ := H
       go_wp2
       go_ret2
       exact ⟨z51_, z52_⟩
      ·replace c9 := Bool.eq_false_iff.mpr c9
       subst c9
       have H1 : (if x7_1 > 0 then (pursuivantref04_Number.j2 kj3 a0 a1 x6_1 x7_1 x8_1 true) else (if 0 ≤ x8_1 then (if x8_1 < (a0.size : Int) then (pursuivantref04_Number.j2 kj3 a0 a1 x6_1 x7_1 x8_1 (decide ((bt a0 x8_1) > 48))) else (none)) else (none))) = some (r1, r2) := by rw [if_neg (show ¬ (false = true) by decide)] at H; exact H
       clear H
       have H := H1
       clear H1; have HC10 := Aside0.mk H; clear H
       go_upto_region 7 with (fail)
       go_cut [32] (fun v32 wc => ∃ (kq : Nat) (x32_9 : Bool), v32 = .bool x32_9 ∧ Aside0 (pursuivantref04_Number.j2 kq a0 a1 x6_1 x7_1 x8_1 x32_9 = some (r1, r2)) ∧ Aside0 (kq ≤ kj3) ∧ Drawn0 w wc)
       case first =>
        have H := HC10.out
        clear HC10
        by_cases c11 : x7_1 > 0
        ·rw [if_pos c11] at H
         have c11b0 : decide (0 < x7_1) = true := decide_eq_true c11; clear c11
         (first | rw [c11b0] | (simp only [i64_w, i32_w]; rw [c11b0]) | skip)
         have H' := Aside0.mk H
         clear H; go_wp2; go_meet
         case rel => exact ⟨_, (true), z51_, H', ⟨by have := HK1.out; have := HJ3.out; first | omega | exact Nat.le_refl _⟩, z52_⟩
        ·rw [if_neg c11] at H
         have c11b0 : decide (0 < x7_1) = false := decide_eq_false c11; clear c11
         (first | rw [c11b0] | (simp only [i64_w, i32_w]; rw [c11b0]) | skip)
         by_cases c12 : 0 ≤ x8_1
         ·rw [if_pos c12] at H
          have c12b0 : decide (0 ≤ x8_1) = true := decide_eq_true c12; clear c12
          by_cases c13 : x8_1 < (a0.size : Int)
          ·rw [if_pos c13] at H
           have c13b0 : decide (x8_1 < (a0.size : Int)) = true := decide_eq_true c13; clear c13
           have H' := Aside0.mk H
           clear H
           have p14 : 0 ≤ (x8_1 : Int) := of_decide_eq_true z55_
           have q14 : x8_1 < (a0.size : Int) := of_decide_eq_true z55_
           have hx14 := bt_at a0 x8_1
           replace p14 := eq_true p14
           replace q14 := eq_true q14
           go_wp2; go_meet
           case rel => exact ⟨_, (decide ((bt a0 x8_1) > 48)), z51_, H', ⟨by have := HK1.out; have := HJ3.out; first | omega | exact Nat.le_refl _⟩, z52_⟩
          ·rw [if_neg c13] at H
           exact absurd H (by simp)
         ·rw [if_neg c12] at H
          exact absurd H (by simp)
       case rest =>
        clear HC10; (try clear c3); (try clear c3b0); (try clear c9)
        obtain ⟨kq, x32_9, rfl, HA, HJ9, ⟨mc9, rfl⟩⟩ := hcut
        cases kq with
        | zero => exact absurd HA.out (by simp [pursuivantref04_Number.j2])
        | succ kj9 =>
         have H := HA.out
         clear HA
         simp only [pursuivantref04_Number.j2] at H
         by_cases c15 : x32_9 = true
         ·subst c15
          have H1 : (if (wrap64 (x7_1 + 1)) ≤ 18 then (if 0 ≤ x8_1 then (if x8_1 < (a0.size : Int) then (pursuivantref04_Number.l0 kj9 a0 a1 (wrap64 ((wrap64 (10 * x6_1)) + (((bt a0 x8_1) - 48) % 256))) (wrap64 (x7_1 + 1)) (wrap64 (x8_1 + 1))) else (none)) else (none)) else (pursuivantref04_Number.l0 kj9 a0 a1 x6_1 (wrap64 (x7_1 + 1)) (wrap64 (x8_1 + 1)))) = some (r1, r2) := by rw [if_pos rfl] at H; exact H
          clear H
          have H := H1
          clear H1
          by_cases c16 : (wrap64 (x7_1 + 1)) ≤ 18
          ·rw [if_pos c16] at H
           have c16b0 : decide ((wrap64 (x7_1 + 1)) ≤ 18) = true := decide_eq_true c16; clear c16
           by_cases c17 : 0 ≤ x8_1
           ·rw [if_pos c17] at H
            have c17b0 : decide (0 ≤ x8_1) = true := decide_eq_true c17; clear c17
            by_cases c18 : x8_1 < (a0.size : Int)
            ·rw [if_pos c18] at H
             have c18b0 : decide (x8_1 < (a0.size : Int)) = true := decide_eq_true c18; clear c18
             have H' := Aside0.mk H
             clear H
             have p19 : 0 ≤ (x8_1 : Int) := of_decide_eq_true z55_
             have q19 : x8_1 < (a0.size : Int) := of_decide_eq_true z55_
             have hx19 := bt_at a0 x8_1
             replace p19 := eq_true p19
             replace q19 := eq_true q19
             go_wp2
             go_roundg kj9
             case measure => have := HK1.out; have := HJ3.out; have := HJ9.out; omega
             case rel => exact ⟨(wrap64 ((wrap64 (10 * x6_1)) + (((bt a0 x8_1) - 48) % 256))), (wrap64 (x7_1 + 1)), (wrap64 (x8_1 + 1)), z51_, z51_, z51_, H', ⟨z53_⟩, z52_⟩
            ·rw [if_neg c18] at H
             exact absurd H (by simp)
           ·rw [if_neg c17] at H
            exact absurd H (by simp)
          ·rw [if_neg c16] at H
           have c16b0 : decide ((wrap64 (x7_1 + 1)) ≤ 18) = false := decide_eq_false c16; clear c16
           have H' := Aside0.mk H
           clear H; go_wp2
           go_roundg kj9
           case measure => have := HK1.out; have := HJ3.out; have := HJ9.out; omega
           case rel => exact ⟨(x6_1), (wrap64 (x7_1 + 1)), (wrap64 (x8_1 + 1)), z51_, z51_, z51_, H', ⟨z53_⟩, z52_⟩
         ·replace c15 := Bool.eq_false_iff.mpr c15
          subst c15
          have H1 : (if x7_1 ≤ 18 then (if 0 ≤ x8_1 then (if x8_1 < (a0.size : Int) then (pursuivantref04_Number.l0 kj9 a0 a1 (wrap64 ((wrap64 (10 * x6_1)) + (((bt a0 x8_1) - 48) % 256))) x7_1 (wrap64 (x8_1 + 1))) else (none)) else (none)) else (pursuivantref04_Number.l0 kj9 a0 a1 x6_1 x7_1 (wrap64 (x8_1 + 1)))) = some (r1, r2) := by rw [if_neg (show ¬ (false = true) by decide)] at H; exact H
          clear H
          have H := H1
          clear H1
          by_cases c20 : x7_1 ≤ 18
          ·rw [if_pos c20] at H
           have c20b0 : decide (x7_1 ≤ 18) = true := decide_eq_true c20; clear c20
           by_cases c21 : 0 ≤ x8_1
           ·rw [if_pos c21] at H
            have c21b0 : decide (0 ≤ x8_1) = true := decide_eq_true c21; clear c21
            by_cases c22 : x8_1 < (a0.size : Int)
            ·rw [if_pos c22] at H
             have c22b0 : decide (x8_1 < (a0.size : Int)) = true := decide_eq_true c22; clear c22
             have H' := Aside0.mk H
             clear H
             have p23 : 0 ≤ (x8_1 : Int) := of_decide_eq_true z55_
             have q23 : x8_1 < (a0.size : Int) := of_decide_eq_true z55_
             have hx23 := bt_at a0 x8_1
             replace p23 := eq_true p23
             replace q23 := eq_true q23
             go_wp2
             go_roundg kj9
             case measure => have := HK1.out; have := HJ3.out; have := HJ9.out; omega
             case rel => exact ⟨(wrap64 ((wrap64 (10 * x6_1)) + (((bt a0 x8_1) - 48) % 256))), (x7_1), (wrap64 (x8_1 + 1)), z51_, z51_, z51_, H', ⟨z53_⟩, z52_⟩
            ·rw [if_neg c22] at H
             exact absurd H (by simp)
           ·rw [if_neg c21] at H
            exact absurd H (by simp)
          ·rw [if_neg c20] at H
           have c20b0 : decide (x7_1 ≤ 18) = false := decide_eq_false c20; clear c20
           have H' := Aside0.mk H
           clear H; go_wp2
           go_roundg kj9
           case measure => have := HK1.out; have := HJ3.out; have := HJ9.out; omega
           case rel => exact ⟨(x6_1), (x7_1), (wrap64 (x8_1 + 1)), z51_, z51_, z51_, H', ⟨z53_⟩, z52_⟩
   ·rw [if_neg c3] at H
    have c3b0 : decide (x8_1 < (a0.size : Int)) = false := decide_eq_false c3; clear c3; have HC24 := Aside0.mk H; clear H
    go_upto_region 11 with (fail)
    go_cut [51] (fun v51 wc => ∃ (kq : Nat) (x51_23 : Bool), v51 = .bool x51_23 ∧ Aside0 (pursuivantref04_Number.j3 kq a0 a1 x6_1 x7_1 x51_23 = some (r1, r2)) ∧ Aside0 (kq ≤ k1) ∧ Drawn0 w wc)
    case first =>
     have H := HC24.out
     clear HC24
     by_cases c25 : x7_1 = 19
     ·rw [if_pos c25] at H
      have c25b0 : (x7_1 == 19) = true := beq_iff_eq.mpr c25
      have c25b1 : (x7_1 != 19) = false := bne_eq_false_iff_eq.mpr c25
      clear c25
      (first | rw [c25b0] | (simp only [i64_w, i32_w]; rw [c25b0]) | skip)
      have H' := Aside0.mk H
      clear H; go_wp2; go_meet
      case rel => exact ⟨_, (decide ((a0.size : Int) ≥ 19)), z51_, H', ⟨z54_⟩, z52_⟩
     ·rw [if_neg c25] at H
      have c25b0 : (x7_1 == 19) = false := beq_eq_false_iff_ne.mpr c25
      have c25b1 : (x7_1 != 19) = true := bne_iff_ne.mpr c25
      (first | rw [c25b0] | (simp only [i64_w, i32_w]; rw [c25b0]) | skip)
      have H' := Aside0.mk H
      clear H; go_wp2; go_meet
      case rel => exact ⟨_, (false), z51_, H', ⟨z54_⟩, z52_⟩
    case rest =>
     clear HC24; (try clear c3); (try clear c3b0)
     obtain ⟨kq, x51_23, rfl, HA, HJ23, ⟨mc23, rfl⟩⟩ := hcut
     cases kq with
     | zero => exact absurd HA.out (by simp [pursuivantref04_Number.j3])
     | succ kj23 =>
      have H := HA.out
      clear HA
      simp only [pursuivantref04_Number.j3] at H
      by_cases c26 : x51_23 = true
      ·subst c26
       have H1 : (if 0 ≤ (wrap64 ((a0.size : Int) - 19)) then (if (wrap64 ((a0.size : Int) - 19)) ≤ (a0.size : Int) then ((pursuivantref04_top.f kj23 (a0.extract ((wrap64 ((a0.size : Int) - 19)) : Int).toNat a0.size)).bind fun t112 => (if x7_1 > 19 then (some (a1, decide ((a0.size : Int) > 0))) else (if t112 > a1 then (some (a1, decide ((a0.size : Int) > 0))) else (some (t112, decide ((a0.size : Int) > 0)))))) else (none)) else (none)) = some (r1, r2) := by rw [if_pos rfl] at H; exact H
       clear H
       have H := H1
       clear H1
       obtain ⟨ji27, hji27⟩ : ∃ j_ : Int, (wrap64 ((a0.size : Int) - 19)) = j_ := ⟨_, rfl⟩
       replace H : (if 0 ≤ (ji27) then (if (ji27) ≤ (a0.size : Int) then ((pursuivantref04_top.f kj23 (a0.extract ((ji27) : Int).toNat a0.size)).bind fun t112 => (if x7_1 > 19 then (some (a1, decide ((a0.size : Int) > 0))) else (if t112 > a1 then (some (a1, decide ((a0.size : Int) > 0))) else (some (t112, decide ((a0.size : Int) > 0)))))) else (none)) else (none)) = some (r1, r2) := by first | (rw [hji27] at H; exact H) | (simp only [hji27] at H ⊢; exact H)
       have hji27w : (IntKind.i64.wrap ((a0.size : Int) - 19)) = ji27 := (i64_w _).trans hji27
       by_cases c28 : 0 ≤ (ji27)
       ·rw [if_pos c28] at H
        have c28b0 := eq_true c28; have c28b1 : decide (0 ≤ (ji27)) = true := decide_eq_true c28; clear c28
        by_cases c29 : (ji27) ≤ (a0.size : Int)
        ·rw [if_pos c29] at H
         have c29b0 := eq_true c29; have c29b1 : decide ((ji27) ≤ (a0.size : Int)) = true := decide_eq_true c29; clear c29
         replace H := Option.bind_eq_some_iff.mp H
         obtain ⟨t112, A300, H⟩ := H
         replace H : (if x7_1 > 19 then (some (a1, decide ((a0.size : Int) > 0))) else (if t112 > a1 then (some (a1, decide ((a0.size : Int) > 0))) else (some (t112, decide ((a0.size : Int) > 0))))) = some (r1, r2) := H
         have A30 := Aside0.mk A300; clear A300
         by_cases c31 : x7_1 > 19
         ·rw [if_pos c31] at H
          have c31b0 : decide (19 < x7_1) = true := decide_eq_true c31; clear c31
          simp only [Option.some.injEq, Prod.mk.injEq] at H
          obtain ⟨rfl, rfl⟩ := H
          go_wp2_with (first | ((with_reducible refine gate_callee (f := 58) rfl ?_); refine goesL_ (some 57) rfl rfl Tryz.func58 (by kernel_rfl) rfl #[.string (a0.extract ((ji27) : Int).toNat a0.size)] rfl z14_ ?_; (with_reducible refine (pursuivantref04_top.calls kj23 (a0.extract ((ji27) : Int).toNat a0.size) t112 _ ?gw9_ A30.out).mono ?_); (case gw9_ => exact z4_); rintro e w' ⟨rfl, ⟨nd, rfl⟩⟩; refine ⟨_, rfl, ?_⟩))
          go_ret2
          exact ⟨z30_, z52_⟩
         ·rw [if_neg c31] at H
          have c31b0 : decide (19 < x7_1) = false := decide_eq_false c31; clear c31
          by_cases c32 : t112 > a1
          ·rw [if_pos c32] at H
           have c32b0 : decide (a1 < t112) = true := decide_eq_true c32; clear c32
           simp only [Option.some.injEq, Prod.mk.injEq] at H
           obtain ⟨rfl, rfl⟩ := H
           go_wp2_with (first | ((with_reducible refine gate_callee (f := 58) rfl ?_); refine goesL_ (some 57) rfl rfl Tryz.func58 (by kernel_rfl) rfl #[.string (a0.extract ((ji27) : Int).toNat a0.size)] rfl z14_ ?_; (with_reducible refine (pursuivantref04_top.calls kj23 (a0.extract ((ji27) : Int).toNat a0.size) t112 _ ?gw10_ A30.out).mono ?_); (case gw10_ => exact z4_); rintro e w' ⟨rfl, ⟨nd, rfl⟩⟩; refine ⟨_, rfl, ?_⟩))
           go_ret2
           exact ⟨z30_, z52_⟩
          ·rw [if_neg c32] at H
           have c32b0 : decide (a1 < t112) = false := decide_eq_false c32; clear c32
           simp only [Option.some.injEq, Prod.mk.injEq] at H
           obtain ⟨rfl, rfl⟩ := H
           go_wp2_with (first | ((with_reducible refine gate_callee (f := 58) rfl ?_); refine goesL_ (some 57) rfl rfl Tryz.func58 (by kernel_rfl) rfl #[.string (a0.extract ((ji27) : Int).toNat a0.size)] rfl z14_ ?_; (with_reducible refine (pursuivantref04_top.calls kj23 (a0.extract ((ji27) : Int).toNat a0.size) t112 _ ?gw11_ A30.out).mono ?_); (case gw11_ => exact z4_); rintro e w' ⟨rfl, ⟨nd, rfl⟩⟩; refine ⟨_, rfl, ?_⟩))
           go_ret2
           exact ⟨z30_, z52_⟩
        ·rw [if_neg c29] at H
         exact absurd H (by simp)
       ·rw [if_neg c28] at H
        exact absurd H (by simp)
      ·replace c26 := Bool.eq_false_iff.mpr c26
       subst c26
       have H1 : (if x7_1 > 19 then (some (a1, decide ((a0.size : Int) > 0))) else (if x6_1 > a1 then (some (a1, decide ((a0.size : Int) > 0))) else (some (x6_1, decide ((a0.size : Int) > 0))))) = some (r1, r2) := by rw [if_neg (show ¬ (false = true) by decide)] at H; exact H
       clear H
       have H := H1
       clear H1
       by_cases c33 : x7_1 > 19
       ·rw [if_pos c33] at H
        have c33b0 : decide (19 < x7_1) = true := decide_eq_true c33; clear c33
        simp only [Option.some.injEq, Prod.mk.injEq] at H
        obtain ⟨rfl, rfl⟩ := H
        go_wp2
        go_ret2
        exact ⟨z51_, z52_⟩
       ·rw [if_neg c33] at H
        have c33b0 : decide (19 < x7_1) = false := decide_eq_false c33; clear c33
        by_cases c34 : x6_1 > a1
        ·rw [if_pos c34] at H
         have c34b0 : decide (a1 < x6_1) = true := decide_eq_true c34; clear c34
         simp only [Option.some.injEq, Prod.mk.injEq] at H
         obtain ⟨rfl, rfl⟩ := H
         go_wp2
         go_ret2
         exact ⟨z51_, z52_⟩
        ·rw [if_neg c34] at H
         have c34b0 : decide (a1 < x6_1) = false := decide_eq_false c34; clear c34
         simp only [Option.some.injEq, Prod.mk.injEq] at H
         obtain ⟨rfl, rfl⟩ := H
         go_wp2
         go_ret2
         exact ⟨z51_, z52_⟩

def pursuivantref04_Same.l0 : Nat → List ByteArray → List ByteArray → Int → Option (Bool)
 | 0, _, _, _ => none
 | k + 1, x0, x1, x5 => if x5 < (x0.length : Int) then (if 0 ≤ x5 then (if x5 < (x1.length : Int) then (if (rdOf ByteArray.empty x0 x5).toList = (rdOf ByteArray.empty x1 x5).toList then (pursuivantref04_Same.l0 k x0 x1 (wrap64 (x5 + 1))) else (some false)) else (none)) else (none)) else (some true)
def pursuivantref04_Same.f (k : Nat) (l0 : List ByteArray) (l1 : List ByteArray) : Option (Bool) := if (l0.length : Int) = (l1.length : Int) then (pursuivantref04_Same.l0 k l0 l1 0) else (some false)
set_option maxHeartbeats 8000000 in
set_option maxRecDepth 100000 in
theorem pursuivantref04_Same.calls (k : Nat) (A0 : Option Addr) (c0 : Nat) (l0 : List ByteArray) (A1 : Option Addr) (c1 : Nat) (l1 : List ByteArray) (r : Bool) (w : World) (hG_ : GW w) (hr0 : Kd.C Kd.string w A0 l0.length l0) (hc0 : l0.length ≤ c0) (hr1 : Kd.C Kd.string w A1 l1.length l1) (hc1 : l1.length ≤ c1) (h : pursuivantref04_Same.f k l0 l1 = some r) :
  Calls Tryz.prog 15 #[.slice A0 l0.length c0, .slice A1 l1.length c1] w fun e w' => e = .returned (.bool r) ∧ Drawn0 w w' := by
 have HR0 := Aside0.mk hr0; have HC0 := Aside0.mk hc0; clear hr0 hc0; have HR1 := Aside0.mk hr1; have HC1 := Aside0.mk hc1; clear hr1 hc1
 have H : (if (l0.length : Int) = (l1.length : Int) then (pursuivantref04_Same.l0 k l0 l1 0) else (some false)) = some r := h
 clear h
 by_cases c3 : (l0.length : Int) = (l1.length : Int)
 ·rw [if_pos c3] at H
  have c3b0 : ((l0.length : Int) == (l1.length : Int)) = true := beq_iff_eq.mpr c3
  have c3b1 : ((l0.length : Int) != (l1.length : Int)) = false := bne_eq_false_iff_eq.mpr c3
  have c3b2 : (l0.length == l1.length) = true := by first | simpa using c3 | (simp at c3 ⊢; omega)
  clear c3
  have H' := Aside0.mk H
  clear H
  go_enter Tryz.func15, Tryz.ntmps15
  go_wp2
  repeat (go_quiet (fail); try go_wp2)
  go_loopg [5] k (fun kq v5 w' => ∃ (x5_1 : Int), v5 = .int .i64 x5_1 ∧ Aside0 (pursuivantref04_Same.l0 kq l0 l1 x5_1 = some r) ∧ Aside0 (kq ≤ k) ∧ Drawn0 w w')
  case atStart => exact ⟨(0), z51_, H', ⟨Nat.le_refl _⟩, z52_⟩
  case round =>
   clear H'; (try clear c1); (try clear c3); (try clear c3b0); (try clear c3b1); (try clear c3b2)
   obtain ⟨x5_1, rfl, HA, HK1, ⟨m1, rfl⟩⟩ := hrel
   cases gk with
   | zero => exact absurd HA.out (by simp [pursuivantref04_Same.l0])
   | succ k1 =>
    have H := HA.out
    clear HA
    simp only [pursuivantref04_Same.l0] at H
    by_cases c4 : x5_1 < (l0.length : Int)
    ·rw [if_pos c4] at H
     have c4b0 : decide (x5_1 < (l0.length : Int)) = true := decide_eq_true c4; clear c4
     by_cases c5 : 0 ≤ x5_1
     ·rw [if_pos c5] at H
      have c5b0 : decide (0 ≤ x5_1) = true := decide_eq_true c5; clear c5
      by_cases c6 : x5_1 < (l1.length : Int)
      ·rw [if_pos c6] at H
       have c6b0 : decide (x5_1 < (l1.length : Int)) = true := decide_eq_true c6; clear c6
       by_cases c7 : (rdOf ByteArray.empty l0 x5_1).toList = (rdOf ByteArray.empty l1 x5_1).toList
       ·rw [if_pos c7] at H
        have c7b0 : ((rdOf ByteArray.empty l0 x5_1).toList == (rdOf ByteArray.empty l1 x5_1).toList) = true := beq_iff_eq.mpr c7
        have c7b1 : ((rdOf ByteArray.empty l0 x5_1).toList != (rdOf ByteArray.empty l1 x5_1).toList) = false := bne_eq_false_iff_eq.mpr c7
        clear c7
        have H' := Aside0.mk H
        clear H
        have p113 : 0 ≤ (x5_1 : Int) := of_decide_eq_true z55_
        have q113 : x5_1 < (l0.length : Int) := of_decide_eq_true z55_
        obtain ⟨ad113, e113, hx113_0⟩ := Kd.at_string HR0.out x5_1 p113 q113
        cases e113
        replace p113 := eq_true p113
        replace q113 := eq_true q113
        have p114 : 0 ≤ (x5_1 : Int) := of_decide_eq_true z55_
        have q114 : x5_1 < (l1.length : Int) := of_decide_eq_true z55_
        obtain ⟨ad114, e114, hx114_0⟩ := Kd.at_string HR1.out x5_1 p114 q114
        cases e114
        replace p114 := eq_true p114
        replace q114 := eq_true q114
        go_wp2
        repeat (go_quiet (fail); try go_wp2)
        go_roundg k1
        case measure => have := HK1.out; omega
        case rel => exact ⟨(wrap64 (x5_1 + 1)), z51_, H', ⟨z58_⟩, z52_⟩
       ·rw [if_neg c7] at H
        have c7b0 : ((rdOf ByteArray.empty l0 x5_1).toList == (rdOf ByteArray.empty l1 x5_1).toList) = false := beq_eq_false_iff_ne.mpr c7
        have c7b1 : ((rdOf ByteArray.empty l0 x5_1).toList != (rdOf ByteArray.empty l1 x5_1).toList) = true := bne_iff_ne.mpr c7
        obtain rfl := Option.some.inj H
        have p113 : 0 ≤ (x5_1 : Int) := of_decide_eq_true z55_
        have q113 : x5_1 < (l0.length : Int) := of_decide_eq_true z55_
        obtain ⟨ad113, e113, hx113_0⟩ := Kd.at_string HR0.out x5_1 p113 q113
        cases e113
        replace p113 := eq_true p113
        replace q113 := eq_true q113
        have p114 : 0 ≤ (x5_1 : Int) := of_decide_eq_true z55_
        have q114 : x5_1 < (l1.length : Int) := of_decide_eq_true z55_
        obtain ⟨ad114, e114, hx114_0⟩ := Kd.at_string HR1.out x5_1 p114 q114
        cases e114
        replace p114 := eq_true p114
        replace q114 := eq_true q114
        go_wp2
        repeat (go_quiet (fail); try go_wp2)
        go_ret
        exact ⟨z51_, z52_⟩
      ·rw [if_neg c6] at H
       exact absurd H (by simp)
     ·rw [if_neg c5] at H
      exact absurd H (by simp)
    ·rw [if_neg c4] at H
     have c4b0 : decide (x5_1 < (l0.length : Int)) = false := decide_eq_false c4; clear c4
     obtain rfl := Option.some.inj H
     go_wp2
     repeat (go_quiet (fail); try go_wp2)
     go_ret
     exact ⟨z51_, z52_⟩
 ·rw [if_neg c3] at H
  have c3b0 : ((l0.length : Int) == (l1.length : Int)) = false := beq_eq_false_iff_ne.mpr c3
  have c3b1 : ((l0.length : Int) != (l1.length : Int)) = true := bne_iff_ne.mpr c3
  have c3b2 : (l0.length == l1.length) = false := by first | simpa using c3 | (simp at c3 ⊢; omega)
  obtain rfl := Option.some.inj H
  go_enter Tryz.func15, Tryz.ntmps15
  go_wp2
  repeat (go_quiet (fail); try go_wp2)
  go_ret
  exact ⟨z51_, z52_⟩

end Go.Proofs.YtfibkgmbgdaeoaaGreatDoor.Hand
