/- What each Go function here computes, and that its call computes it, over contracts proved by hand (written by this project's xprint.py, which drives the kit's print). -/
import Derived.Test.YtfibkgmbgdaeoaaGreatDoorZ
import Derived.Test.YtfibkgmbgdaeoaaGreatDoorK
import Derived.Test.YtfibkgmbgdaeoaaGreatDoorGet
import Derived.Test.YtfibkgmbgdaeoaaGreatDoorFA1
import Derived.Test.YtfibkgmbgdaeoaaGreatDoorFP1
import Derived.Test.YtfibkgmbgdaeoaaGreatDoorFPB1
import Derived.Test.YtfibkgmbgdaeoaaGreatDoorFYA1
namespace Go.Proofs.YtfibkgmbgdaeoaaGreatDoor.Hand
open Go.RowKit Go.Proofs.YtfibkgmbgdaeoaaGreatDoorW.PrintWords Go.Proofs.YtfibkgmbgdaeoaaGreatDoorW.PrintLast Go.Proofs.YtfibkgmbgdaeoaaGreatDoorW.PrintMore
attribute [local go_sem] Instr.field asAgg max2_int min2_int max_two min_two max_three min_three max_four min_four   -- for this text's walks alone
set_option linter.unusedVariables false
set_option linter.unusedSimpArgs false

def safe_language.l0 : Nat → ByteArray → Int → Int → Option (Bool)
 | 0, _, _, _ => none
 | k + 1, x0, x6, x7 => if x7 < x6 then (if 0 ≤ x7 then (if x7 < (x0.size : Int) then (if (bt x0 x7) < 48 then (if (Go.bits .or .u8 (bt x0 x7) 32) < 97 then ((strings_IndexByte.f (⟨#[32, 42, 44, 45, 46, 59, 61]⟩ : ByteArray) (bt x0 x7)).bind fun t101 => (if t101 < 0 then (some false) else (safe_language.l0 k x0 x6 (wrap64 (x7 + 1))))) else (if (Go.bits .or .u8 (bt x0 x7) 32) > 122 then ((strings_IndexByte.f (⟨#[32, 42, 44, 45, 46, 59, 61]⟩ : ByteArray) (bt x0 x7)).bind fun t102 => (if t102 < 0 then (some false) else (safe_language.l0 k x0 x6 (wrap64 (x7 + 1))))) else (safe_language.l0 k x0 x6 (wrap64 (x7 + 1))))) else (if (bt x0 x7) > 57 then (if (Go.bits .or .u8 (bt x0 x7) 32) < 97 then ((strings_IndexByte.f (⟨#[32, 42, 44, 45, 46, 59, 61]⟩ : ByteArray) (bt x0 x7)).bind fun t103 => (if t103 < 0 then (some false) else (safe_language.l0 k x0 x6 (wrap64 (x7 + 1))))) else (if (Go.bits .or .u8 (bt x0 x7) 32) > 122 then ((strings_IndexByte.f (⟨#[32, 42, 44, 45, 46, 59, 61]⟩ : ByteArray) (bt x0 x7)).bind fun t104 => (if t104 < 0 then (some false) else (safe_language.l0 k x0 x6 (wrap64 (x7 + 1))))) else (safe_language.l0 k x0 x6 (wrap64 (x7 + 1))))) else (safe_language.l0 k x0 x6 (wrap64 (x7 + 1))))) else (none)) else (none)) else (some true)
def safe_language.f (k : Nat) (a0 : ByteArray) : Option (Bool) := safe_language.l0 k a0 (a0.size : Int) 0
set_option maxHeartbeats 8000000 in
set_option maxRecDepth 100000 in
theorem safe_language.calls (k : Nat) (a0 : ByteArray) (r : Bool) (w : World) (hG_ : GW w) (h : safe_language.f k a0 = some r) :
  Calls Tryz.prog 61 #[.string a0] w fun e w' => e = .returned (.bool r) ∧ Drawn0 w w' := by
 have H : (safe_language.l0 k a0 (a0.size : Int) 0) = some r := h
 clear h
 have H' := Aside0.mk H
 clear H
 go_enter Tryz.func61, Tryz.ntmps61
 go_wp2
 go_loopg [7] k (fun kq v7 w' => ∃ (x7_1 : Int), v7 = .int .i64 x7_1 ∧ Aside0 (safe_language.l0 kq a0 (a0.size : Int) x7_1 = some r) ∧ Aside0 (kq ≤ k) ∧ Drawn0 w w')
 case atStart => exact ⟨(0), z51_, H', ⟨Nat.le_refl _⟩, z52_⟩
 case round =>
  clear H'
  obtain ⟨x7_1, rfl, HA, HK1, ⟨m1, rfl⟩⟩ := hrel
  cases gk with
  | zero => exact absurd HA.out (by simp [safe_language.l0])
  | succ k1 =>
   have H := HA.out
   clear HA
   simp only [safe_language.l0] at H
   by_cases c2 : x7_1 < (a0.size : Int)
   ·rw [if_pos c2] at H
    have c2b0 : decide (x7_1 < (a0.size : Int)) = true := decide_eq_true c2; clear c2
    by_cases c3 : 0 ≤ x7_1
    ·rw [if_pos c3] at H
     have c3b0 : decide (0 ≤ x7_1) = true := decide_eq_true c3; clear c3
     by_cases c4 : x7_1 < (a0.size : Int)
     ·rw [if_pos c4] at H
      have c4b0 : decide (x7_1 < (a0.size : Int)) = true := decide_eq_true c4; clear c4
      by_cases c7 : (bt a0 x7_1) < 48
      ·rw [if_pos c7] at H
       have c7b0 : decide ((bt a0 x7_1) < 48) = true := decide_eq_true c7; clear c7
       by_cases c8 : (Go.bits .or .u8 (bt a0 x7_1) 32) < 97
       ·rw [if_pos c8] at H
        have c8b0 : decide ((Go.bits .or .u8 (bt a0 x7_1) 32) < 97) = true := decide_eq_true c8; clear c8
        replace H := Option.bind_eq_some_iff.mp H
        obtain ⟨t101, A100, H⟩ := H
        replace H : (if t101 < 0 then (some false) else (safe_language.l0 k1 a0 (a0.size : Int) (wrap64 (x7_1 + 1)))) = some r := H
        have A10 := Aside0.mk A100; clear A100
        by_cases c11 : t101 < 0
        ·rw [if_pos c11] at H
         have c11b0 : decide (t101 < 0) = true := decide_eq_true c11; clear c11
         obtain rfl := Option.some.inj H
         have p5 : 0 ≤ (x7_1 : Int) := of_decide_eq_true z55_
         have q5 : x7_1 < (a0.size : Int) := of_decide_eq_true z55_
         have hx5 := bt_at a0 x7_1
         replace p5 := eq_true p5
         replace q5 := eq_true q5
         have p6 : 0 ≤ (x7_1 : Int) := of_decide_eq_true z55_
         have q6 : x7_1 < (a0.size : Int) := of_decide_eq_true z55_
         have hx6 := bt_at a0 x7_1
         replace p6 := eq_true p6
         replace q6 := eq_true q6
         have p9 : 0 ≤ (x7_1 : Int) := of_decide_eq_true z55_
         have q9 : x7_1 < (a0.size : Int) := of_decide_eq_true z55_
         have hx9 := bt_at a0 x7_1
         replace p9 := eq_true p9
         replace q9 := eq_true q9
         go_wp2_with (first | (go_at_call 74; (fail_if_success (have z_ := U_1)); have U_1 := trivial; (with_reducible refine (strings_IndexByte.calls (⟨#[32, 42, 44, 45, 46, 59, 61]⟩ : ByteArray) (bt a0 x7_1) t101 _ ?gw1_ A10.out).mono ?_); (case gw1_ => exact z4_); rintro e w' ⟨rfl, ⟨nd, rfl⟩⟩))
         go_ret
         exact ⟨z51_, z52_⟩
        ·rw [if_neg c11] at H
         have c11b0 : decide (t101 < 0) = false := decide_eq_false c11; clear c11
         have H' := Aside0.mk H
         clear H
         have p5 : 0 ≤ (x7_1 : Int) := of_decide_eq_true z55_
         have q5 : x7_1 < (a0.size : Int) := of_decide_eq_true z55_
         have hx5 := bt_at a0 x7_1
         replace p5 := eq_true p5
         replace q5 := eq_true q5
         have p6 : 0 ≤ (x7_1 : Int) := of_decide_eq_true z55_
         have q6 : x7_1 < (a0.size : Int) := of_decide_eq_true z55_
         have hx6 := bt_at a0 x7_1
         replace p6 := eq_true p6
         replace q6 := eq_true q6
         have p9 : 0 ≤ (x7_1 : Int) := of_decide_eq_true z55_
         have q9 : x7_1 < (a0.size : Int) := of_decide_eq_true z55_
         have hx9 := bt_at a0 x7_1
         replace p9 := eq_true p9
         replace q9 := eq_true q9
         go_wp2_with (first | (go_at_call 74; (fail_if_success (have z_ := U_2)); have U_2 := trivial; (with_reducible refine (strings_IndexByte.calls (⟨#[32, 42, 44, 45, 46, 59, 61]⟩ : ByteArray) (bt a0 x7_1) t101 _ ?gw2_ A10.out).mono ?_); (case gw2_ => exact z4_); rintro e w' ⟨rfl, ⟨nd, rfl⟩⟩))
         go_roundg k1
         case measure => have := HK1.out; omega
         case rel => exact ⟨(wrap64 (x7_1 + 1)), z51_, H', ⟨z58_⟩, z52_⟩
       ·rw [if_neg c8] at H
        have c8b0 : decide ((Go.bits .or .u8 (bt a0 x7_1) 32) < 97) = false := decide_eq_false c8; clear c8
        by_cases c12 : (Go.bits .or .u8 (bt a0 x7_1) 32) > 122
        ·rw [if_pos c12] at H
         have c12b0 : decide (122 < (Go.bits .or .u8 (bt a0 x7_1) 32)) = true := decide_eq_true c12; clear c12
         replace H := Option.bind_eq_some_iff.mp H
         obtain ⟨t102, A140, H⟩ := H
         replace H : (if t102 < 0 then (some false) else (safe_language.l0 k1 a0 (a0.size : Int) (wrap64 (x7_1 + 1)))) = some r := H
         have A14 := Aside0.mk A140; clear A140
         by_cases c15 : t102 < 0
         ·rw [if_pos c15] at H
          have c15b0 : decide (t102 < 0) = true := decide_eq_true c15; clear c15
          obtain rfl := Option.some.inj H
          have p5 : 0 ≤ (x7_1 : Int) := of_decide_eq_true z55_
          have q5 : x7_1 < (a0.size : Int) := of_decide_eq_true z55_
          have hx5 := bt_at a0 x7_1
          replace p5 := eq_true p5
          replace q5 := eq_true q5
          have p6 : 0 ≤ (x7_1 : Int) := of_decide_eq_true z55_
          have q6 : x7_1 < (a0.size : Int) := of_decide_eq_true z55_
          have hx6 := bt_at a0 x7_1
          replace p6 := eq_true p6
          replace q6 := eq_true q6
          have p13 : 0 ≤ (x7_1 : Int) := of_decide_eq_true z55_
          have q13 : x7_1 < (a0.size : Int) := of_decide_eq_true z55_
          have hx13 := bt_at a0 x7_1
          replace p13 := eq_true p13
          replace q13 := eq_true q13
          go_wp2_with (first | (go_at_call 74; (fail_if_success (have z_ := U_3)); have U_3 := trivial; (with_reducible refine (strings_IndexByte.calls (⟨#[32, 42, 44, 45, 46, 59, 61]⟩ : ByteArray) (bt a0 x7_1) t102 _ ?gw3_ A14.out).mono ?_); (case gw3_ => exact z4_); rintro e w' ⟨rfl, ⟨nd, rfl⟩⟩))
          go_ret
          exact ⟨z51_, z52_⟩
         ·rw [if_neg c15] at H
          have c15b0 : decide (t102 < 0) = false := decide_eq_false c15; clear c15
          have H' := Aside0.mk H
          clear H
          have p5 : 0 ≤ (x7_1 : Int) := of_decide_eq_true z55_
          have q5 : x7_1 < (a0.size : Int) := of_decide_eq_true z55_
          have hx5 := bt_at a0 x7_1
          replace p5 := eq_true p5
          replace q5 := eq_true q5
          have p6 : 0 ≤ (x7_1 : Int) := of_decide_eq_true z55_
          have q6 : x7_1 < (a0.size : Int) := of_decide_eq_true z55_
          have hx6 := bt_at a0 x7_1
          replace p6 := eq_true p6
          replace q6 := eq_true q6
          have p13 : 0 ≤ (x7_1 : Int) := of_decide_eq_true z55_
          have q13 : x7_1 < (a0.size : Int) := of_decide_eq_true z55_
          have hx13 := bt_at a0 x7_1
          replace p13 := eq_true p13
          replace q13 := eq_true q13
          go_wp2_with (first | (go_at_call 74; (fail_if_success (have z_ := U_4)); have U_4 := trivial; (with_reducible refine (strings_IndexByte.calls (⟨#[32, 42, 44, 45, 46, 59, 61]⟩ : ByteArray) (bt a0 x7_1) t102 _ ?gw4_ A14.out).mono ?_); (case gw4_ => exact z4_); rintro e w' ⟨rfl, ⟨nd, rfl⟩⟩))
          go_roundg k1
          case measure => have := HK1.out; omega
          case rel => exact ⟨(wrap64 (x7_1 + 1)), z51_, H', ⟨z58_⟩, z52_⟩
        ·rw [if_neg c12] at H
         have c12b0 : decide (122 < (Go.bits .or .u8 (bt a0 x7_1) 32)) = false := decide_eq_false c12; clear c12
         have H' := Aside0.mk H
         clear H
         have p5 : 0 ≤ (x7_1 : Int) := of_decide_eq_true z55_
         have q5 : x7_1 < (a0.size : Int) := of_decide_eq_true z55_
         have hx5 := bt_at a0 x7_1
         replace p5 := eq_true p5
         replace q5 := eq_true q5
         have p6 : 0 ≤ (x7_1 : Int) := of_decide_eq_true z55_
         have q6 : x7_1 < (a0.size : Int) := of_decide_eq_true z55_
         have hx6 := bt_at a0 x7_1
         replace p6 := eq_true p6
         replace q6 := eq_true q6
         go_wp2
         go_roundg k1
         case measure => have := HK1.out; omega
         case rel => exact ⟨(wrap64 (x7_1 + 1)), z51_, H', ⟨z58_⟩, z52_⟩
      ·rw [if_neg c7] at H
       have c7b0 : decide ((bt a0 x7_1) < 48) = false := decide_eq_false c7; clear c7
       by_cases c17 : (bt a0 x7_1) > 57
       ·rw [if_pos c17] at H
        have c17b0 : decide (57 < (bt a0 x7_1)) = true := decide_eq_true c17; clear c17
        by_cases c18 : (Go.bits .or .u8 (bt a0 x7_1) 32) < 97
        ·rw [if_pos c18] at H
         have c18b0 : decide ((Go.bits .or .u8 (bt a0 x7_1) 32) < 97) = true := decide_eq_true c18; clear c18
         replace H := Option.bind_eq_some_iff.mp H
         obtain ⟨t103, A200, H⟩ := H
         replace H : (if t103 < 0 then (some false) else (safe_language.l0 k1 a0 (a0.size : Int) (wrap64 (x7_1 + 1)))) = some r := H
         have A20 := Aside0.mk A200; clear A200
         by_cases c21 : t103 < 0
         ·rw [if_pos c21] at H
          have c21b0 : decide (t103 < 0) = true := decide_eq_true c21; clear c21
          obtain rfl := Option.some.inj H
          have p5 : 0 ≤ (x7_1 : Int) := of_decide_eq_true z55_
          have q5 : x7_1 < (a0.size : Int) := of_decide_eq_true z55_
          have hx5 := bt_at a0 x7_1
          replace p5 := eq_true p5
          replace q5 := eq_true q5
          have p6 : 0 ≤ (x7_1 : Int) := of_decide_eq_true z55_
          have q6 : x7_1 < (a0.size : Int) := of_decide_eq_true z55_
          have hx6 := bt_at a0 x7_1
          replace p6 := eq_true p6
          replace q6 := eq_true q6
          have p16 : 0 ≤ (x7_1 : Int) := of_decide_eq_true z55_
          have q16 : x7_1 < (a0.size : Int) := of_decide_eq_true z55_
          have hx16 := bt_at a0 x7_1
          replace p16 := eq_true p16
          replace q16 := eq_true q16
          have p19 : 0 ≤ (x7_1 : Int) := of_decide_eq_true z55_
          have q19 : x7_1 < (a0.size : Int) := of_decide_eq_true z55_
          have hx19 := bt_at a0 x7_1
          replace p19 := eq_true p19
          replace q19 := eq_true q19
          go_wp2_with (first | (go_at_call 74; (fail_if_success (have z_ := U_5)); have U_5 := trivial; (with_reducible refine (strings_IndexByte.calls (⟨#[32, 42, 44, 45, 46, 59, 61]⟩ : ByteArray) (bt a0 x7_1) t103 _ ?gw5_ A20.out).mono ?_); (case gw5_ => exact z4_); rintro e w' ⟨rfl, ⟨nd, rfl⟩⟩))
          go_ret
          exact ⟨z51_, z52_⟩
         ·rw [if_neg c21] at H
          have c21b0 : decide (t103 < 0) = false := decide_eq_false c21; clear c21
          have H' := Aside0.mk H
          clear H
          have p5 : 0 ≤ (x7_1 : Int) := of_decide_eq_true z55_
          have q5 : x7_1 < (a0.size : Int) := of_decide_eq_true z55_
          have hx5 := bt_at a0 x7_1
          replace p5 := eq_true p5
          replace q5 := eq_true q5
          have p6 : 0 ≤ (x7_1 : Int) := of_decide_eq_true z55_
          have q6 : x7_1 < (a0.size : Int) := of_decide_eq_true z55_
          have hx6 := bt_at a0 x7_1
          replace p6 := eq_true p6
          replace q6 := eq_true q6
          have p16 : 0 ≤ (x7_1 : Int) := of_decide_eq_true z55_
          have q16 : x7_1 < (a0.size : Int) := of_decide_eq_true z55_
          have hx16 := bt_at a0 x7_1
          replace p16 := eq_true p16
          replace q16 := eq_true q16
          have p19 : 0 ≤ (x7_1 : Int) := of_decide_eq_true z55_
          have q19 : x7_1 < (a0.size : Int) := of_decide_eq_true z55_
          have hx19 := bt_at a0 x7_1
          replace p19 := eq_true p19
          replace q19 := eq_true q19
          go_wp2_with (first | (go_at_call 74; (fail_if_success (have z_ := U_6)); have U_6 := trivial; (with_reducible refine (strings_IndexByte.calls (⟨#[32, 42, 44, 45, 46, 59, 61]⟩ : ByteArray) (bt a0 x7_1) t103 _ ?gw6_ A20.out).mono ?_); (case gw6_ => exact z4_); rintro e w' ⟨rfl, ⟨nd, rfl⟩⟩))
          go_roundg k1
          case measure => have := HK1.out; omega
          case rel => exact ⟨(wrap64 (x7_1 + 1)), z51_, H', ⟨z58_⟩, z52_⟩
        ·rw [if_neg c18] at H
         have c18b0 : decide ((Go.bits .or .u8 (bt a0 x7_1) 32) < 97) = false := decide_eq_false c18; clear c18
         by_cases c22 : (Go.bits .or .u8 (bt a0 x7_1) 32) > 122
         ·rw [if_pos c22] at H
          have c22b0 : decide (122 < (Go.bits .or .u8 (bt a0 x7_1) 32)) = true := decide_eq_true c22; clear c22
          replace H := Option.bind_eq_some_iff.mp H
          obtain ⟨t104, A240, H⟩ := H
          replace H : (if t104 < 0 then (some false) else (safe_language.l0 k1 a0 (a0.size : Int) (wrap64 (x7_1 + 1)))) = some r := H
          have A24 := Aside0.mk A240; clear A240
          by_cases c25 : t104 < 0
          ·rw [if_pos c25] at H
           have c25b0 : decide (t104 < 0) = true := decide_eq_true c25; clear c25
           obtain rfl := Option.some.inj H
           have p5 : 0 ≤ (x7_1 : Int) := of_decide_eq_true z55_
           have q5 : x7_1 < (a0.size : Int) := of_decide_eq_true z55_
           have hx5 := bt_at a0 x7_1
           replace p5 := eq_true p5
           replace q5 := eq_true q5
           have p6 : 0 ≤ (x7_1 : Int) := of_decide_eq_true z55_
           have q6 : x7_1 < (a0.size : Int) := of_decide_eq_true z55_
           have hx6 := bt_at a0 x7_1
           replace p6 := eq_true p6
           replace q6 := eq_true q6
           have p16 : 0 ≤ (x7_1 : Int) := of_decide_eq_true z55_
           have q16 : x7_1 < (a0.size : Int) := of_decide_eq_true z55_
           have hx16 := bt_at a0 x7_1
           replace p16 := eq_true p16
           replace q16 := eq_true q16
           have p23 : 0 ≤ (x7_1 : Int) := of_decide_eq_true z55_
           have q23 : x7_1 < (a0.size : Int) := of_decide_eq_true z55_
           have hx23 := bt_at a0 x7_1
           replace p23 := eq_true p23
           replace q23 := eq_true q23
           go_wp2_with (first | (go_at_call 74; (fail_if_success (have z_ := U_7)); have U_7 := trivial; (with_reducible refine (strings_IndexByte.calls (⟨#[32, 42, 44, 45, 46, 59, 61]⟩ : ByteArray) (bt a0 x7_1) t104 _ ?gw7_ A24.out).mono ?_); (case gw7_ => exact z4_); rintro e w' ⟨rfl, ⟨nd, rfl⟩⟩))
           go_ret
           exact ⟨z51_, z52_⟩
          ·rw [if_neg c25] at H
           have c25b0 : decide (t104 < 0) = false := decide_eq_false c25; clear c25
           have H' := Aside0.mk H
           clear H
           have p5 : 0 ≤ (x7_1 : Int) := of_decide_eq_true z55_
           have q5 : x7_1 < (a0.size : Int) := of_decide_eq_true z55_
           have hx5 := bt_at a0 x7_1
           replace p5 := eq_true p5
           replace q5 := eq_true q5
           have p6 : 0 ≤ (x7_1 : Int) := of_decide_eq_true z55_
           have q6 : x7_1 < (a0.size : Int) := of_decide_eq_true z55_
           have hx6 := bt_at a0 x7_1
           replace p6 := eq_true p6
           replace q6 := eq_true q6
           have p16 : 0 ≤ (x7_1 : Int) := of_decide_eq_true z55_
           have q16 : x7_1 < (a0.size : Int) := of_decide_eq_true z55_
           have hx16 := bt_at a0 x7_1
           replace p16 := eq_true p16
           replace q16 := eq_true q16
           have p23 : 0 ≤ (x7_1 : Int) := of_decide_eq_true z55_
           have q23 : x7_1 < (a0.size : Int) := of_decide_eq_true z55_
           have hx23 := bt_at a0 x7_1
           replace p23 := eq_true p23
           replace q23 := eq_true q23
           go_wp2_with (first | (go_at_call 74; (fail_if_success (have z_ := U_8)); have U_8 := trivial; (with_reducible refine (strings_IndexByte.calls (⟨#[32, 42, 44, 45, 46, 59, 61]⟩ : ByteArray) (bt a0 x7_1) t104 _ ?gw8_ A24.out).mono ?_); (case gw8_ => exact z4_); rintro e w' ⟨rfl, ⟨nd, rfl⟩⟩))
           go_roundg k1
           case measure => have := HK1.out; omega
           case rel => exact ⟨(wrap64 (x7_1 + 1)), z51_, H', ⟨z58_⟩, z52_⟩
         ·rw [if_neg c22] at H
          have c22b0 : decide (122 < (Go.bits .or .u8 (bt a0 x7_1) 32)) = false := decide_eq_false c22; clear c22
          have H' := Aside0.mk H
          clear H
          have p5 : 0 ≤ (x7_1 : Int) := of_decide_eq_true z55_
          have q5 : x7_1 < (a0.size : Int) := of_decide_eq_true z55_
          have hx5 := bt_at a0 x7_1
          replace p5 := eq_true p5
          replace q5 := eq_true q5
          have p6 : 0 ≤ (x7_1 : Int) := of_decide_eq_true z55_
          have q6 : x7_1 < (a0.size : Int) := of_decide_eq_true z55_
          have hx6 := bt_at a0 x7_1
          replace p6 := eq_true p6
          replace q6 := eq_true q6
          have p16 : 0 ≤ (x7_1 : Int) := of_decide_eq_true z55_
          have q16 : x7_1 < (a0.size : Int) := of_decide_eq_true z55_
          have hx16 := bt_at a0 x7_1
          replace p16 := eq_true p16
          replace q16 := eq_true q16
          go_wp2
          go_roundg k1
          case measure => have := HK1.out; omega
          case rel => exact ⟨(wrap64 (x7_1 + 1)), z51_, H', ⟨z58_⟩, z52_⟩
       ·rw [if_neg c17] at H
        have c17b0 : decide (57 < (bt a0 x7_1)) = false := decide_eq_false c17; clear c17
        have H' := Aside0.mk H
        clear H
        have p5 : 0 ≤ (x7_1 : Int) := of_decide_eq_true z55_
        have q5 : x7_1 < (a0.size : Int) := of_decide_eq_true z55_
        have hx5 := bt_at a0 x7_1
        replace p5 := eq_true p5
        replace q5 := eq_true q5
        have p6 : 0 ≤ (x7_1 : Int) := of_decide_eq_true z55_
        have q6 : x7_1 < (a0.size : Int) := of_decide_eq_true z55_
        have hx6 := bt_at a0 x7_1
        replace p6 := eq_true p6
        replace q6 := eq_true q6
        have p16 : 0 ≤ (x7_1 : Int) := of_decide_eq_true z55_
        have q16 : x7_1 < (a0.size : Int) := of_decide_eq_true z55_
        have hx16 := bt_at a0 x7_1
        replace p16 := eq_true p16
        replace q16 := eq_true q16
        go_wp2
        go_roundg k1
        case measure => have := HK1.out; omega
        case rel => exact ⟨(wrap64 (x7_1 + 1)), z51_, H', ⟨z58_⟩, z52_⟩
     ·rw [if_neg c4] at H
      exact absurd H (by simp)
    ·rw [if_neg c3] at H
     exact absurd H (by simp)
   ·rw [if_neg c2] at H
    have c2b0 : decide (x7_1 < (a0.size : Int)) = false := decide_eq_false c2; clear c2
    obtain rfl := Option.some.inj H
    go_wp2
    go_ret
    exact ⟨z51_, z52_⟩

def safe_sort.f (a0 : ByteArray) : Option (Bool) := (strings_Cut.f a0 (⟨#[59]⟩ : ByteArray)).bind fun bt105 => ((ascii_Trim.f bt105.1).bind fun t108 => ((ascii_Lower.f t108).bind fun t109 => (if t109.toList = ([97, 112, 112, 108, 105, 99, 97, 116, 105, 111, 110, 47, 120, 45, 119, 119, 119, 45, 102, 111, 114, 109, 45, 117, 114, 108, 101, 110, 99, 111, 100, 101, 100] : List UInt8) then (some true) else (if t109.toList = ([109, 117, 108, 116, 105, 112, 97, 114, 116, 47, 102, 111, 114, 109, 45, 100, 97, 116, 97] : List UInt8) then (some true) else (if t109.toList = ([116, 101, 120, 116, 47, 112, 108, 97, 105, 110] : List UInt8) then (some true) else (some false))))))
set_option maxHeartbeats 8000000 in
set_option maxRecDepth 100000 in
theorem safe_sort.calls (a0 : ByteArray) (r : Bool) (w : World) (hG_ : GW w) (h : safe_sort.f a0 = some r) :
  Calls Tryz.prog 62 #[.string a0] w fun e w' => e = .returned (.bool r) ∧ Below w.heap.size w w' := by
 have HB := Aside0.mk (Below.refl w.heap.size w)
 have H : ((strings_Cut.f a0 (⟨#[59]⟩ : ByteArray)).bind fun bt105 => ((ascii_Trim.f bt105.1).bind fun t108 => ((ascii_Lower.f t108).bind fun t109 => (if t109.toList = ([97, 112, 112, 108, 105, 99, 97, 116, 105, 111, 110, 47, 120, 45, 119, 119, 119, 45, 102, 111, 114, 109, 45, 117, 114, 108, 101, 110, 99, 111, 100, 101, 100] : List UInt8) then (some true) else (if t109.toList = ([109, 117, 108, 116, 105, 112, 97, 114, 116, 47, 102, 111, 114, 109, 45, 100, 97, 116, 97] : List UInt8) then (some true) else (if t109.toList = ([116, 101, 120, 116, 47, 112, 108, 97, 105, 110] : List UInt8) then (some true) else (some false))))))) = some r := h
 clear h
 replace H := Option.bind_eq_some_iff.mp H
 obtain ⟨⟨t105, t106, t107⟩, A20, H⟩ := H
 replace H : ((ascii_Trim.f t105).bind fun t108 => ((ascii_Lower.f t108).bind fun t109 => (if t109.toList = ([97, 112, 112, 108, 105, 99, 97, 116, 105, 111, 110, 47, 120, 45, 119, 119, 119, 45, 102, 111, 114, 109, 45, 117, 114, 108, 101, 110, 99, 111, 100, 101, 100] : List UInt8) then (some true) else (if t109.toList = ([109, 117, 108, 116, 105, 112, 97, 114, 116, 47, 102, 111, 114, 109, 45, 100, 97, 116, 97] : List UInt8) then (some true) else (if t109.toList = ([116, 101, 120, 116, 47, 112, 108, 97, 105, 110] : List UInt8) then (some true) else (some false)))))) = some r := H
 have A2 := Aside0.mk A20; clear A20
 replace H := Option.bind_eq_some_iff.mp H
 obtain ⟨t108, A30, H⟩ := H
 replace H : ((ascii_Lower.f t108).bind fun t109 => (if t109.toList = ([97, 112, 112, 108, 105, 99, 97, 116, 105, 111, 110, 47, 120, 45, 119, 119, 119, 45, 102, 111, 114, 109, 45, 117, 114, 108, 101, 110, 99, 111, 100, 101, 100] : List UInt8) then (some true) else (if t109.toList = ([109, 117, 108, 116, 105, 112, 97, 114, 116, 47, 102, 111, 114, 109, 45, 100, 97, 116, 97] : List UInt8) then (some true) else (if t109.toList = ([116, 101, 120, 116, 47, 112, 108, 97, 105, 110] : List UInt8) then (some true) else (some false))))) = some r := H
 have A3 := Aside0.mk A30; clear A30
 replace H := Option.bind_eq_some_iff.mp H
 obtain ⟨t109, A40, H⟩ := H
 replace H : (if t109.toList = ([97, 112, 112, 108, 105, 99, 97, 116, 105, 111, 110, 47, 120, 45, 119, 119, 119, 45, 102, 111, 114, 109, 45, 117, 114, 108, 101, 110, 99, 111, 100, 101, 100] : List UInt8) then (some true) else (if t109.toList = ([109, 117, 108, 116, 105, 112, 97, 114, 116, 47, 102, 111, 114, 109, 45, 100, 97, 116, 97] : List UInt8) then (some true) else (if t109.toList = ([116, 101, 120, 116, 47, 112, 108, 97, 105, 110] : List UInt8) then (some true) else (some false)))) = some r := H
 have A4 := Aside0.mk A40; clear A40
 by_cases c5 : t109.toList = ([97, 112, 112, 108, 105, 99, 97, 116, 105, 111, 110, 47, 120, 45, 119, 119, 119, 45, 102, 111, 114, 109, 45, 117, 114, 108, 101, 110, 99, 111, 100, 101, 100] : List UInt8)
 ·rw [if_pos c5] at H
  have c5b0 : (t109.toList == ([97, 112, 112, 108, 105, 99, 97, 116, 105, 111, 110, 47, 120, 45, 119, 119, 119, 45, 102, 111, 114, 109, 45, 117, 114, 108, 101, 110, 99, 111, 100, 101, 100] : List UInt8)) = true := beq_iff_eq.mpr c5
  have c5b1 : (t109.toList != ([97, 112, 112, 108, 105, 99, 97, 116, 105, 111, 110, 47, 120, 45, 119, 119, 119, 45, 102, 111, 114, 109, 45, 117, 114, 108, 101, 110, 99, 111, 100, 101, 100] : List UInt8)) = false := bne_eq_false_iff_eq.mpr c5
  clear c5
  obtain rfl := Option.some.inj H
  go_enter Tryz.func62, Tryz.ntmps62
  go_wp2_with (first | ((with_reducible refine gate_callee (f := 75) rfl ?_); refine goesL_ (some 5) rfl rfl Tryz.func75 (by kernel_rfl) rfl #[.string a0, .string (⟨#[59]⟩ : ByteArray)] rfl z24_ ?_; (with_reducible refine (strings_Cut.calls a0 (⟨#[59]⟩ : ByteArray) t105 t106 t107 _ ?gw9_ A2.out).mono ?_); (case gw9_ => exact z4_); rintro e w' ⟨rfl, ⟨nd, rfl⟩⟩; refine ⟨_, rfl, ?_⟩) | ((with_reducible refine gate_callee (f := 69) rfl ?_); refine goesL_ (some 10) rfl rfl Tryz.func69 (by kernel_rfl) rfl #[.string t105] rfl z24_ ?_; (with_reducible refine (ascii_Trim.calls t105 t108 _ ?gw10_ A3.out).mono ?_); (case gw10_ => exact z4_); rintro e w6 ⟨rfl, hb⟩; refine ⟨_, rfl, ?_⟩; have n0_ := Aside0.mk (below_step z25_ hb); clear HB; have HB := n0_; clear n0_; (try clear hb); (try clear hb2); (try clear hk); (try clear hi)) | ((with_reducible refine gate_callee (f := 27) rfl ?_); refine goesL_ (some 11) rfl rfl Tryz.func27 (by kernel_rfl) rfl #[.string t108] rfl z24_ ?_; (with_reducible refine (ascii_Lower.calls t108 t109 _ ?gw11_ A4.out).mono ?_); (case gw11_ => exact z4_); rintro e w7 ⟨rfl, hb⟩; refine ⟨_, rfl, ?_⟩; have n0_ := Aside0.mk (below_step z25_ hb); clear HB; have HB := n0_; clear n0_; (try clear hb); (try clear hb2); (try clear hk); (try clear hi)))
  go_ret
  exact ⟨z28_, z25_⟩
 ·rw [if_neg c5] at H
  have c5b0 : (t109.toList == ([97, 112, 112, 108, 105, 99, 97, 116, 105, 111, 110, 47, 120, 45, 119, 119, 119, 45, 102, 111, 114, 109, 45, 117, 114, 108, 101, 110, 99, 111, 100, 101, 100] : List UInt8)) = false := beq_eq_false_iff_ne.mpr c5
  have c5b1 : (t109.toList != ([97, 112, 112, 108, 105, 99, 97, 116, 105, 111, 110, 47, 120, 45, 119, 119, 119, 45, 102, 111, 114, 109, 45, 117, 114, 108, 101, 110, 99, 111, 100, 101, 100] : List UInt8)) = true := bne_iff_ne.mpr c5
  by_cases c8 : t109.toList = ([109, 117, 108, 116, 105, 112, 97, 114, 116, 47, 102, 111, 114, 109, 45, 100, 97, 116, 97] : List UInt8)
  ·rw [if_pos c8] at H
   have c8b0 : (t109.toList == ([109, 117, 108, 116, 105, 112, 97, 114, 116, 47, 102, 111, 114, 109, 45, 100, 97, 116, 97] : List UInt8)) = true := beq_iff_eq.mpr c8
   have c8b1 : (t109.toList != ([109, 117, 108, 116, 105, 112, 97, 114, 116, 47, 102, 111, 114, 109, 45, 100, 97, 116, 97] : List UInt8)) = false := bne_eq_false_iff_eq.mpr c8
   clear c8
   obtain rfl := Option.some.inj H
   go_enter Tryz.func62, Tryz.ntmps62
   go_wp2_with (first | ((with_reducible refine gate_callee (f := 75) rfl ?_); refine goesL_ (some 5) rfl rfl Tryz.func75 (by kernel_rfl) rfl #[.string a0, .string (⟨#[59]⟩ : ByteArray)] rfl z24_ ?_; (with_reducible refine (strings_Cut.calls a0 (⟨#[59]⟩ : ByteArray) t105 t106 t107 _ ?gw12_ A2.out).mono ?_); (case gw12_ => exact z4_); rintro e w' ⟨rfl, ⟨nd, rfl⟩⟩; refine ⟨_, rfl, ?_⟩) | ((with_reducible refine gate_callee (f := 69) rfl ?_); refine goesL_ (some 10) rfl rfl Tryz.func69 (by kernel_rfl) rfl #[.string t105] rfl z24_ ?_; (with_reducible refine (ascii_Trim.calls t105 t108 _ ?gw13_ A3.out).mono ?_); (case gw13_ => exact z4_); rintro e w9 ⟨rfl, hb⟩; refine ⟨_, rfl, ?_⟩; have n0_ := Aside0.mk (below_step z25_ hb); clear HB; have HB := n0_; clear n0_; (try clear hb); (try clear hb2); (try clear hk); (try clear hi)) | ((with_reducible refine gate_callee (f := 27) rfl ?_); refine goesL_ (some 11) rfl rfl Tryz.func27 (by kernel_rfl) rfl #[.string t108] rfl z24_ ?_; (with_reducible refine (ascii_Lower.calls t108 t109 _ ?gw14_ A4.out).mono ?_); (case gw14_ => exact z4_); rintro e w10 ⟨rfl, hb⟩; refine ⟨_, rfl, ?_⟩; have n0_ := Aside0.mk (below_step z25_ hb); clear HB; have HB := n0_; clear n0_; (try clear hb); (try clear hb2); (try clear hk); (try clear hi)))
   go_ret
   exact ⟨z28_, z25_⟩
  ·rw [if_neg c8] at H
   have c8b0 : (t109.toList == ([109, 117, 108, 116, 105, 112, 97, 114, 116, 47, 102, 111, 114, 109, 45, 100, 97, 116, 97] : List UInt8)) = false := beq_eq_false_iff_ne.mpr c8
   have c8b1 : (t109.toList != ([109, 117, 108, 116, 105, 112, 97, 114, 116, 47, 102, 111, 114, 109, 45, 100, 97, 116, 97] : List UInt8)) = true := bne_iff_ne.mpr c8
   by_cases c11 : t109.toList = ([116, 101, 120, 116, 47, 112, 108, 97, 105, 110] : List UInt8)
   ·rw [if_pos c11] at H
    have c11b0 : (t109.toList == ([116, 101, 120, 116, 47, 112, 108, 97, 105, 110] : List UInt8)) = true := beq_iff_eq.mpr c11
    have c11b1 : (t109.toList != ([116, 101, 120, 116, 47, 112, 108, 97, 105, 110] : List UInt8)) = false := bne_eq_false_iff_eq.mpr c11
    clear c11
    obtain rfl := Option.some.inj H
    go_enter Tryz.func62, Tryz.ntmps62
    go_wp2_with (first | ((with_reducible refine gate_callee (f := 75) rfl ?_); refine goesL_ (some 5) rfl rfl Tryz.func75 (by kernel_rfl) rfl #[.string a0, .string (⟨#[59]⟩ : ByteArray)] rfl z24_ ?_; (with_reducible refine (strings_Cut.calls a0 (⟨#[59]⟩ : ByteArray) t105 t106 t107 _ ?gw15_ A2.out).mono ?_); (case gw15_ => exact z4_); rintro e w' ⟨rfl, ⟨nd, rfl⟩⟩; refine ⟨_, rfl, ?_⟩) | ((with_reducible refine gate_callee (f := 69) rfl ?_); refine goesL_ (some 10) rfl rfl Tryz.func69 (by kernel_rfl) rfl #[.string t105] rfl z24_ ?_; (with_reducible refine (ascii_Trim.calls t105 t108 _ ?gw16_ A3.out).mono ?_); (case gw16_ => exact z4_); rintro e w12 ⟨rfl, hb⟩; refine ⟨_, rfl, ?_⟩; have n0_ := Aside0.mk (below_step z25_ hb); clear HB; have HB := n0_; clear n0_; (try clear hb); (try clear hb2); (try clear hk); (try clear hi)) | ((with_reducible refine gate_callee (f := 27) rfl ?_); refine goesL_ (some 11) rfl rfl Tryz.func27 (by kernel_rfl) rfl #[.string t108] rfl z24_ ?_; (with_reducible refine (ascii_Lower.calls t108 t109 _ ?gw17_ A4.out).mono ?_); (case gw17_ => exact z4_); rintro e w13 ⟨rfl, hb⟩; refine ⟨_, rfl, ?_⟩; have n0_ := Aside0.mk (below_step z25_ hb); clear HB; have HB := n0_; clear n0_; (try clear hb); (try clear hb2); (try clear hk); (try clear hi)))
    go_ret
    exact ⟨z28_, z25_⟩
   ·rw [if_neg c11] at H
    have c11b0 : (t109.toList == ([116, 101, 120, 116, 47, 112, 108, 97, 105, 110] : List UInt8)) = false := beq_eq_false_iff_ne.mpr c11
    have c11b1 : (t109.toList != ([116, 101, 120, 116, 47, 112, 108, 97, 105, 110] : List UInt8)) = true := bne_iff_ne.mpr c11
    obtain rfl := Option.some.inj H
    go_enter Tryz.func62, Tryz.ntmps62
    go_wp2_with (first | ((with_reducible refine gate_callee (f := 75) rfl ?_); refine goesL_ (some 5) rfl rfl Tryz.func75 (by kernel_rfl) rfl #[.string a0, .string (⟨#[59]⟩ : ByteArray)] rfl z24_ ?_; (with_reducible refine (strings_Cut.calls a0 (⟨#[59]⟩ : ByteArray) t105 t106 t107 _ ?gw18_ A2.out).mono ?_); (case gw18_ => exact z4_); rintro e w' ⟨rfl, ⟨nd, rfl⟩⟩; refine ⟨_, rfl, ?_⟩) | ((with_reducible refine gate_callee (f := 69) rfl ?_); refine goesL_ (some 10) rfl rfl Tryz.func69 (by kernel_rfl) rfl #[.string t105] rfl z24_ ?_; (with_reducible refine (ascii_Trim.calls t105 t108 _ ?gw19_ A3.out).mono ?_); (case gw19_ => exact z4_); rintro e w14 ⟨rfl, hb⟩; refine ⟨_, rfl, ?_⟩; have n0_ := Aside0.mk (below_step z25_ hb); clear HB; have HB := n0_; clear n0_; (try clear hb); (try clear hb2); (try clear hk); (try clear hi)) | ((with_reducible refine gate_callee (f := 27) rfl ?_); refine goesL_ (some 11) rfl rfl Tryz.func27 (by kernel_rfl) rfl #[.string t108] rfl z24_ ?_; (with_reducible refine (ascii_Lower.calls t108 t109 _ ?gw20_ A4.out).mono ?_); (case gw20_ => exact z4_); rintro e w15 ⟨rfl, hb⟩; refine ⟨_, rfl, ?_⟩; have n0_ := Aside0.mk (below_step z25_ hb); clear HB; have HB := n0_; clear n0_; (try clear hb); (try clear hb2); (try clear hk); (try clear hi)))
    go_ret
    exact ⟨z28_, z25_⟩

def safe_clean.l0 : Nat → ByteArray → Int → Int → Option (Bool)
 | 0, _, _, _ => none
 | k + 1, x0, x5, x6 => if x6 < x5 then (if 0 ≤ x6 then (if x6 < (x0.size : Int) then (if (bt x0 x6) < 32 then (if (bt x0 x6) = 9 then ((strings_IndexByte.f (⟨#[34, 40, 41, 58, 60, 62, 63, 64, 91, 92, 93, 123, 125, 127]⟩ : ByteArray) (bt x0 x6)).bind fun t110 => (if t110 ≥ 0 then (some false) else (safe_clean.l0 k x0 x5 (wrap64 (x6 + 1))))) else (some false)) else ((strings_IndexByte.f (⟨#[34, 40, 41, 58, 60, 62, 63, 64, 91, 92, 93, 123, 125, 127]⟩ : ByteArray) (bt x0 x6)).bind fun t111 => (if t111 ≥ 0 then (some false) else (safe_clean.l0 k x0 x5 (wrap64 (x6 + 1)))))) else (none)) else (none)) else (some true)
def safe_clean.f (k : Nat) (a0 : ByteArray) : Option (Bool) := safe_clean.l0 k a0 (a0.size : Int) 0
set_option maxHeartbeats 8000000 in
set_option maxRecDepth 100000 in
theorem safe_clean.calls (k : Nat) (a0 : ByteArray) (r : Bool) (w : World) (hG_ : GW w) (h : safe_clean.f k a0 = some r) :
  Calls Tryz.prog 63 #[.string a0] w fun e w' => e = .returned (.bool r) ∧ Drawn0 w w' := by
 have H : (safe_clean.l0 k a0 (a0.size : Int) 0) = some r := h
 clear h
 have H' := Aside0.mk H
 clear H
 go_enter Tryz.func63, Tryz.ntmps63
 go_wp2
 go_loopg [6] k (fun kq v6 w' => ∃ (x6_1 : Int), v6 = .int .i64 x6_1 ∧ Aside0 (safe_clean.l0 kq a0 (a0.size : Int) x6_1 = some r) ∧ Aside0 (kq ≤ k) ∧ Drawn0 w w')
 case atStart => exact ⟨(0), z51_, H', ⟨Nat.le_refl _⟩, z52_⟩
 case round =>
  clear H'
  obtain ⟨x6_1, rfl, HA, HK1, ⟨m1, rfl⟩⟩ := hrel
  cases gk with
  | zero => exact absurd HA.out (by simp [safe_clean.l0])
  | succ k1 =>
   have H := HA.out
   clear HA
   simp only [safe_clean.l0] at H
   by_cases c2 : x6_1 < (a0.size : Int)
   ·rw [if_pos c2] at H
    have c2b0 : decide (x6_1 < (a0.size : Int)) = true := decide_eq_true c2; clear c2
    by_cases c3 : 0 ≤ x6_1
    ·rw [if_pos c3] at H
     have c3b0 : decide (0 ≤ x6_1) = true := decide_eq_true c3; clear c3
     by_cases c4 : x6_1 < (a0.size : Int)
     ·rw [if_pos c4] at H
      have c4b0 : decide (x6_1 < (a0.size : Int)) = true := decide_eq_true c4; clear c4
      by_cases c6 : (bt a0 x6_1) < 32
      ·rw [if_pos c6] at H
       have c6b0 : decide ((bt a0 x6_1) < 32) = true := decide_eq_true c6; clear c6
       by_cases c8 : (bt a0 x6_1) = 9
       ·rw [if_pos c8] at H
        have c8b0 : ((bt a0 x6_1) == 9) = true := beq_iff_eq.mpr c8
        have c8b1 : ((bt a0 x6_1) != 9) = false := bne_eq_false_iff_eq.mpr c8
        clear c8
        replace H := Option.bind_eq_some_iff.mp H
        obtain ⟨t110, A100, H⟩ := H
        replace H : (if t110 ≥ 0 then (some false) else (safe_clean.l0 k1 a0 (a0.size : Int) (wrap64 (x6_1 + 1)))) = some r := H
        have A10 := Aside0.mk A100; clear A100
        by_cases c11 : t110 ≥ 0
        ·rw [if_pos c11] at H
         have c11b0 : decide (0 ≤ t110) = true := decide_eq_true c11; clear c11
         obtain rfl := Option.some.inj H
         have p5 : 0 ≤ (x6_1 : Int) := of_decide_eq_true z55_
         have q5 : x6_1 < (a0.size : Int) := of_decide_eq_true z55_
         have hx5 := bt_at a0 x6_1
         replace p5 := eq_true p5
         replace q5 := eq_true q5
         have p7 : 0 ≤ (x6_1 : Int) := of_decide_eq_true z55_
         have q7 : x6_1 < (a0.size : Int) := of_decide_eq_true z55_
         have hx7 := bt_at a0 x6_1
         replace p7 := eq_true p7
         replace q7 := eq_true q7
         have p9 : 0 ≤ (x6_1 : Int) := of_decide_eq_true z55_
         have q9 : x6_1 < (a0.size : Int) := of_decide_eq_true z55_
         have hx9 := bt_at a0 x6_1
         replace p9 := eq_true p9
         replace q9 := eq_true q9
         go_wp2_with (first | (go_at_call 74; (fail_if_success (have z_ := U_9)); have U_9 := trivial; (with_reducible refine (strings_IndexByte.calls (⟨#[34, 40, 41, 58, 60, 62, 63, 64, 91, 92, 93, 123, 125, 127]⟩ : ByteArray) (bt a0 x6_1) t110 _ ?gw21_ A10.out).mono ?_); (case gw21_ => exact z4_); rintro e w' ⟨rfl, ⟨nd, rfl⟩⟩))
         go_ret
         exact ⟨z51_, z52_⟩
        ·rw [if_neg c11] at H
         have c11b0 : decide (0 ≤ t110) = false := decide_eq_false c11; clear c11
         have H' := Aside0.mk H
         clear H
         have p5 : 0 ≤ (x6_1 : Int) := of_decide_eq_true z55_
         have q5 : x6_1 < (a0.size : Int) := of_decide_eq_true z55_
         have hx5 := bt_at a0 x6_1
         replace p5 := eq_true p5
         replace q5 := eq_true q5
         have p7 : 0 ≤ (x6_1 : Int) := of_decide_eq_true z55_
         have q7 : x6_1 < (a0.size : Int) := of_decide_eq_true z55_
         have hx7 := bt_at a0 x6_1
         replace p7 := eq_true p7
         replace q7 := eq_true q7
         have p9 : 0 ≤ (x6_1 : Int) := of_decide_eq_true z55_
         have q9 : x6_1 < (a0.size : Int) := of_decide_eq_true z55_
         have hx9 := bt_at a0 x6_1
         replace p9 := eq_true p9
         replace q9 := eq_true q9
         go_wp2_with (first | (go_at_call 74; (fail_if_success (have z_ := U_10)); have U_10 := trivial; (with_reducible refine (strings_IndexByte.calls (⟨#[34, 40, 41, 58, 60, 62, 63, 64, 91, 92, 93, 123, 125, 127]⟩ : ByteArray) (bt a0 x6_1) t110 _ ?gw22_ A10.out).mono ?_); (case gw22_ => exact z4_); rintro e w' ⟨rfl, ⟨nd, rfl⟩⟩))
         go_roundg k1
         case measure => have := HK1.out; omega
         case rel => exact ⟨(wrap64 (x6_1 + 1)), z51_, H', ⟨z58_⟩, z52_⟩
       ·rw [if_neg c8] at H
        have c8b0 : ((bt a0 x6_1) == 9) = false := beq_eq_false_iff_ne.mpr c8
        have c8b1 : ((bt a0 x6_1) != 9) = true := bne_iff_ne.mpr c8
        obtain rfl := Option.some.inj H
        have p5 : 0 ≤ (x6_1 : Int) := of_decide_eq_true z55_
        have q5 : x6_1 < (a0.size : Int) := of_decide_eq_true z55_
        have hx5 := bt_at a0 x6_1
        replace p5 := eq_true p5
        replace q5 := eq_true q5
        have p7 : 0 ≤ (x6_1 : Int) := of_decide_eq_true z55_
        have q7 : x6_1 < (a0.size : Int) := of_decide_eq_true z55_
        have hx7 := bt_at a0 x6_1
        replace p7 := eq_true p7
        replace q7 := eq_true q7
        go_wp2
        go_ret
        exact ⟨z51_, z52_⟩
      ·rw [if_neg c6] at H
       have c6b0 : decide ((bt a0 x6_1) < 32) = false := decide_eq_false c6; clear c6
       replace H := Option.bind_eq_some_iff.mp H
       obtain ⟨t111, A130, H⟩ := H
       replace H : (if t111 ≥ 0 then (some false) else (safe_clean.l0 k1 a0 (a0.size : Int) (wrap64 (x6_1 + 1)))) = some r := H
       have A13 := Aside0.mk A130; clear A130
       by_cases c14 : t111 ≥ 0
       ·rw [if_pos c14] at H
        have c14b0 : decide (0 ≤ t111) = true := decide_eq_true c14; clear c14
        obtain rfl := Option.some.inj H
        have p5 : 0 ≤ (x6_1 : Int) := of_decide_eq_true z55_
        have q5 : x6_1 < (a0.size : Int) := of_decide_eq_true z55_
        have hx5 := bt_at a0 x6_1
        replace p5 := eq_true p5
        replace q5 := eq_true q5
        have p12 : 0 ≤ (x6_1 : Int) := of_decide_eq_true z55_
        have q12 : x6_1 < (a0.size : Int) := of_decide_eq_true z55_
        have hx12 := bt_at a0 x6_1
        replace p12 := eq_true p12
        replace q12 := eq_true q12
        go_wp2_with (first | (go_at_call 74; (fail_if_success (have z_ := U_11)); have U_11 := trivial; (with_reducible refine (strings_IndexByte.calls (⟨#[34, 40, 41, 58, 60, 62, 63, 64, 91, 92, 93, 123, 125, 127]⟩ : ByteArray) (bt a0 x6_1) t111 _ ?gw23_ A13.out).mono ?_); (case gw23_ => exact z4_); rintro e w' ⟨rfl, ⟨nd, rfl⟩⟩))
        go_ret
        exact ⟨z51_, z52_⟩
       ·rw [if_neg c14] at H
        have c14b0 : decide (0 ≤ t111) = false := decide_eq_false c14; clear c14
        have H' := Aside0.mk H
        clear H
        have p5 : 0 ≤ (x6_1 : Int) := of_decide_eq_true z55_
        have q5 : x6_1 < (a0.size : Int) := of_decide_eq_true z55_
        have hx5 := bt_at a0 x6_1
        replace p5 := eq_true p5
        replace q5 := eq_true q5
        have p12 : 0 ≤ (x6_1 : Int) := of_decide_eq_true z55_
        have q12 : x6_1 < (a0.size : Int) := of_decide_eq_true z55_
        have hx12 := bt_at a0 x6_1
        replace p12 := eq_true p12
        replace q12 := eq_true q12
        go_wp2_with (first | (go_at_call 74; (fail_if_success (have z_ := U_12)); have U_12 := trivial; (with_reducible refine (strings_IndexByte.calls (⟨#[34, 40, 41, 58, 60, 62, 63, 64, 91, 92, 93, 123, 125, 127]⟩ : ByteArray) (bt a0 x6_1) t111 _ ?gw24_ A13.out).mono ?_); (case gw24_ => exact z4_); rintro e w' ⟨rfl, ⟨nd, rfl⟩⟩))
        go_roundg k1
        case measure => have := HK1.out; omega
        case rel => exact ⟨(wrap64 (x6_1 + 1)), z51_, H', ⟨z58_⟩, z52_⟩
     ·rw [if_neg c4] at H
      exact absurd H (by simp)
    ·rw [if_neg c3] at H
     exact absurd H (by simp)
   ·rw [if_neg c2] at H
    have c2b0 : decide (x6_1 < (a0.size : Int)) = false := decide_eq_false c2; clear c2
    obtain rfl := Option.some.inj H
    go_wp2
    go_ret
    exact ⟨z51_, z52_⟩

def safe_Header.j0 : Nat → ByteArray → Bool → ByteArray → ByteArray → Option (Bool)
 | 0, _, _, _, _ => none
 | k + 1, x9, x10, x113000, x113001 => if x10 = true then ((safe_language.f k x113001).bind fun t114 => (some t114)) else (if x9.toList = ([99, 111, 110, 116, 101, 110, 116, 45, 116, 121, 112, 101] : List UInt8) then ((safe_sort.f x113001).bind fun t116 => (if t116 = true then ((safe_clean.f k x113001).bind fun t117 => (some t117)) else (some false))) else (if x9.toList = ([97, 99, 99, 101, 112, 116] : List UInt8) then ((safe_clean.f k x113001).bind fun t115 => (some t115)) else (some false)))
def safe_Header.f (k : Nat) (a0_0 a0_1 : ByteArray) : Option (Bool) := if (a0_1.size : Int) > 128 then (some false) else ((ascii_Lower.f a0_0).bind fun t113 => (if t113.toList = ([97, 99, 99, 101, 112, 116, 45, 108, 97, 110, 103, 117, 97, 103, 101] : List UInt8) then (safe_Header.j0 k t113 (t113.toList == ([97, 99, 99, 101, 112, 116, 45, 108, 97, 110, 103, 117, 97, 103, 101] : List UInt8)) a0_0 a0_1) else (safe_Header.j0 k t113 (t113.toList == ([99, 111, 110, 116, 101, 110, 116, 45, 108, 97, 110, 103, 117, 97, 103, 101] : List UInt8)) a0_0 a0_1)))
set_option maxHeartbeats 8000000 in
set_option maxRecDepth 100000 in
theorem safe_Header.calls (k : Nat) (a0_0 a0_1 : ByteArray) (r : Bool) (w : World) (hG_ : GW w) (h : safe_Header.f k a0_0 a0_1 = some r) :
  Calls Tryz.prog 41 #[.agg #[.string a0_0, .string a0_1]] w fun e w' => e = .returned (.bool r) ∧ Below w.heap.size w w' := by
 have hu45 := Tryz.underlying45
 have HB := Aside0.mk (Below.refl w.heap.size w)
 have H : (if (a0_1.size : Int) > 128 then (some false) else ((ascii_Lower.f a0_0).bind fun t113 => (if t113.toList = ([97, 99, 99, 101, 112, 116, 45, 108, 97, 110, 103, 117, 97, 103, 101] : List UInt8) then (safe_Header.j0 k t113 (t113.toList == ([97, 99, 99, 101, 112, 116, 45, 108, 97, 110, 103, 117, 97, 103, 101] : List UInt8)) a0_0 a0_1) else (safe_Header.j0 k t113 (t113.toList == ([99, 111, 110, 116, 101, 110, 116, 45, 108, 97, 110, 103, 117, 97, 103, 101] : List UInt8)) a0_0 a0_1)))) = some r := h
 clear h
 by_cases c2 : (a0_1.size : Int) > 128
 ·rw [if_pos c2] at H
  have c2b0 : decide (128 < (a0_1.size : Int)) = true := decide_eq_true c2
  have c2b1 : decide (128 < a0_1.size) = true := decide_eq_true (by omega)
  clear c2
  obtain rfl := Option.some.inj H
  go_enter Tryz.func41, Tryz.ntmps41
  go_wp2_with (first | ((with_reducible refine gate_dst (N := 1) rfl ?_); refine box_event ?hg (N := 1) ?hd (cs := #[.string a0_0, .string a0_1]) (t := 45) ?hr ?_; (case hd => rfl); (case hg => rfl); (case hr => first | (go_simp; done) | (go_simp; rfl)); intro gb112 hg w3 hbox hb; have n0_ := Aside0.mk (below_step z25_ hb); have n1_ := Aside0.mk (hbox); have n2_ := Aside0.mk ((by rw [hg]; exact (below_size z25_) : w.heap.size ≤ gb112)); have n3_ := Aside0.mk ((by rw [hg]; exact (below_size z25_) : w.heap.size ≤ gb112)); clear HB; have HB := n0_; have BK112 := n1_; have GW112 := n2_; have GE112 := n3_; clear n0_ n1_ n2_ n3_; clear hb hbox hg; have hcz4_0 : w3.cell? ⟨gb112, 0, none⟩ = some (.string a0_0) := (blk_cell BK112.out 0).trans rfl; have hcz4_1 : w3.cell? ⟨gb112, 1, none⟩ = some (.string a0_1) := (blk_cell BK112.out 1).trans rfl; have hfz4_0 := blk_frozen BK112.out 0; have hfz4_1 := blk_frozen BK112.out 1))
  go_ret
  exact ⟨z28_, z15_⟩
 ·rw [if_neg c2] at H
  have c2b0 : decide (128 < (a0_1.size : Int)) = false := decide_eq_false c2
  have c2b1 : decide (128 < a0_1.size) = false := decide_eq_false (by omega)
  clear c2
  replace H := Option.bind_eq_some_iff.mp H
  obtain ⟨t113, A50, H⟩ := H
  replace H : (if t113.toList = ([97, 99, 99, 101, 112, 116, 45, 108, 97, 110, 103, 117, 97, 103, 101] : List UInt8) then (safe_Header.j0 k t113 (t113.toList == ([97, 99, 99, 101, 112, 116, 45, 108, 97, 110, 103, 117, 97, 103, 101] : List UInt8)) a0_0 a0_1) else (safe_Header.j0 k t113 (t113.toList == ([99, 111, 110, 116, 101, 110, 116, 45, 108, 97, 110, 103, 117, 97, 103, 101] : List UInt8)) a0_0 a0_1)) = some r := H
  have A5 := Aside0.mk A50; clear A50; have HC6 := Aside0.mk H; clear H
  go_enter Tryz.func41, Tryz.ntmps41
  go_upto_if 10 with (first | ((with_reducible refine gate_dst (N := 1) rfl ?_); refine box_event ?hg (N := 1) ?hd (cs := #[.string a0_0, .string a0_1]) (t := 45) ?hr ?_; (case hd => rfl); (case hg => rfl); (case hr => first | (go_simp; done) | (go_simp; rfl)); intro gb112 hg w7 hbox hb; have n0_ := Aside0.mk (below_step z25_ hb); have n1_ := Aside0.mk (hbox); have n2_ := Aside0.mk ((by rw [hg]; exact (below_size z25_) : w.heap.size ≤ gb112)); have n3_ := Aside0.mk ((by rw [hg]; exact (below_size z25_) : w.heap.size ≤ gb112)); clear HB; have HB := n0_; have BK112 := n1_; have GW112 := n2_; have GE112 := n3_; clear n0_ n1_ n2_ n3_; clear hb hbox hg; have hcz8_0 : w7.cell? ⟨gb112, 0, none⟩ = some (.string a0_0) := (blk_cell BK112.out 0).trans rfl; have hcz8_1 : w7.cell? ⟨gb112, 1, none⟩ = some (.string a0_1) := (blk_cell BK112.out 1).trans rfl; have hfz8_0 := blk_frozen BK112.out 0; have hfz8_1 := blk_frozen BK112.out 1) | ((with_reducible refine gate_callee (f := 27) rfl ?_); refine goesL_ (some 9) rfl rfl Tryz.func27 (by kernel_rfl) rfl #[.string a0_0] rfl z24_ ?_; (with_reducible refine (ascii_Lower.calls a0_0 t113 _ ?gw25_ A5.out).mono ?_); (case gw25_ => exact z2_); rintro e w9 ⟨rfl, hb⟩; refine ⟨_, rfl, ?_⟩; have n0_ := Aside0.mk (blk_below (g := gb112) (o := .cells #[.string a0_0, .string a0_1] 45 (0, 0)) z32_ hb); have n1_ := Aside0.mk (below_step z15_ hb); clear BK112; clear HB; have BK112 := n0_; have HB := n1_; clear n0_ n1_; (try clear hb); (try clear hb2); (try clear hk); (try clear hi)))
  (try simp only [Act.put, List.setIfInBounds_toArray, List.set_cons_zero, List.set_cons_succ])
  go_cut [10] (fun v10 wc => ∃ (kq : Nat) (x10_5 : Bool), v10 = .bool x10_5 ∧ Aside0 (safe_Header.j0 kq t113 x10_5 a0_0 a0_1 = some r) ∧ Aside0 (kq ≤ k) ∧ Aside0 (wc.heap[gb112]? = some (.cells #[.string a0_0, .string a0_1] 45 (0, 0))) ∧ Aside0 (Below w.heap.size w wc))
  case first =>
   have H := HC6.out
   clear HC6
   by_cases c10 : t113.toList = ([97, 99, 99, 101, 112, 116, 45, 108, 97, 110, 103, 117, 97, 103, 101] : List UInt8)
   ·rw [if_pos c10] at H
    have c10b0 : (t113.toList == ([97, 99, 99, 101, 112, 116, 45, 108, 97, 110, 103, 117, 97, 103, 101] : List UInt8)) = true := beq_iff_eq.mpr c10
    have c10b1 : (t113.toList != ([97, 99, 99, 101, 112, 116, 45, 108, 97, 110, 103, 117, 97, 103, 101] : List UInt8)) = false := bne_eq_false_iff_eq.mpr c10
    clear c10
    (first | rw [c10b0] | (simp only [i64_w, i32_w]; rw [c10b0]) | skip)
    have H' := Aside0.mk H
    clear H; go_wp2; go_meet
    case rel => exact ⟨_, ((t113.toList == ([97, 99, 99, 101, 112, 116, 45, 108, 97, 110, 103, 117, 97, 103, 101] : List UInt8))), z51_, H', ⟨z57_⟩, ⟨z32_⟩, ⟨z15_⟩⟩
   ·rw [if_neg c10] at H
    have c10b0 : (t113.toList == ([97, 99, 99, 101, 112, 116, 45, 108, 97, 110, 103, 117, 97, 103, 101] : List UInt8)) = false := beq_eq_false_iff_ne.mpr c10
    have c10b1 : (t113.toList != ([97, 99, 99, 101, 112, 116, 45, 108, 97, 110, 103, 117, 97, 103, 101] : List UInt8)) = true := bne_iff_ne.mpr c10
    (first | rw [c10b0] | (simp only [i64_w, i32_w]; rw [c10b0]) | skip)
    have H' := Aside0.mk H
    clear H; go_wp2; go_meet
    case rel => exact ⟨_, ((t113.toList == ([99, 111, 110, 116, 101, 110, 116, 45, 108, 97, 110, 103, 117, 97, 103, 101] : List UInt8))), z51_, H', ⟨z57_⟩, ⟨z32_⟩, ⟨z15_⟩⟩
  case rest =>
   clear HC6; (try clear c2); (try clear c2b0); (try clear c2b1); (try clear hcz8_0 hcz8_1); (try clear hfz8_0 hfz8_1)
   obtain ⟨kq, x10_5, rfl, HA, HJ5, BK112, HB⟩ := hcut
   cases kq with
   | zero => exact absurd HA.out (by simp [safe_Header.j0])
   | succ kj5 =>
    have H := HA.out
    clear HA
    simp only [safe_Header.j0] at H
    by_cases c11 : x10_5 = true
    ·subst c11
     have H1 : ((safe_language.f kj5 a0_1).bind fun t114 => (some t114)) = some r := by rw [if_pos rfl] at H; exact H
     clear H
     have H := H1
     clear H1
     replace H := Option.bind_eq_some_iff.mp H
     obtain ⟨t114, A120, H⟩ := H
     replace H : (some t114) = some r := H
     have A12 := Aside0.mk A120; clear A120
     obtain rfl := Option.some.inj H
     obtain ⟨hcz13_0, hcz13_1⟩ := blkc2_ BK112.out; obtain ⟨hfz13_0, hfz13_1⟩ := blkf2_ BK112.out
     go_wp2_with (first | ((with_reducible refine gate_callee (f := 61) rfl ?_); refine goesL_ (some 19) rfl rfl Tryz.func61 (by kernel_rfl) rfl #[.string a0_1] rfl z24_ ?_; (with_reducible refine (safe_language.calls kj5 a0_1 t114 _ ?gw26_ A12.out).mono ?_); (case gw26_ => exact z2_); rintro e w' ⟨rfl, ⟨nd, rfl⟩⟩; refine ⟨_, rfl, ?_⟩))
     go_ret
     exact ⟨z28_, z15_⟩
    ·replace c11 := Bool.eq_false_iff.mpr c11
     subst c11
     have H1 : (if t113.toList = ([99, 111, 110, 116, 101, 110, 116, 45, 116, 121, 112, 101] : List UInt8) then ((safe_sort.f a0_1).bind fun t116 => (if t116 = true then ((safe_clean.f kj5 a0_1).bind fun t117 => (some t117)) else (some false))) else (if t113.toList = ([97, 99, 99, 101, 112, 116] : List UInt8) then ((safe_clean.f kj5 a0_1).bind fun t115 => (some t115)) else (some false))) = some r := by rw [if_neg (show ¬ (false = true) by decide)] at H; exact H
     clear H
     have H := H1
     clear H1
     by_cases c14 : t113.toList = ([99, 111, 110, 116, 101, 110, 116, 45, 116, 121, 112, 101] : List UInt8)
     ·rw [if_pos c14] at H
      have c14b0 : (t113.toList == ([99, 111, 110, 116, 101, 110, 116, 45, 116, 121, 112, 101] : List UInt8)) = true := beq_iff_eq.mpr c14
      have c14b1 : (t113.toList != ([99, 111, 110, 116, 101, 110, 116, 45, 116, 121, 112, 101] : List UInt8)) = false := bne_eq_false_iff_eq.mpr c14
      clear c14
      replace H := Option.bind_eq_some_iff.mp H
      obtain ⟨t116, A150, H⟩ := H
      replace H : (if t116 = true then ((safe_clean.f kj5 a0_1).bind fun t117 => (some t117)) else (some false)) = some r := H
      have A15 := Aside0.mk A150; clear A150
      by_cases c16 : t116 = true
      ·subst c16
       have H1 : ((safe_clean.f kj5 a0_1).bind fun t117 => (some t117)) = some r := by rw [if_pos rfl] at H; exact H
       clear H
       have H := H1
       clear H1
       replace H := Option.bind_eq_some_iff.mp H
       obtain ⟨t117, A170, H⟩ := H
       replace H : (some t117) = some r := H
       have A17 := Aside0.mk A170; clear A170
       obtain rfl := Option.some.inj H
       obtain ⟨hcz18_0, hcz18_1⟩ := blkc2_ BK112.out; obtain ⟨hfz18_0, hfz18_1⟩ := blkf2_ BK112.out
       go_wp2_with (first | ((with_reducible refine gate_callee (f := 62) rfl ?_); refine goesL_ (some 22) rfl rfl Tryz.func62 (by kernel_rfl) rfl #[.string a0_1] rfl z24_ ?_; (with_reducible refine (safe_sort.calls a0_1 true _ ?gw27_ A15.out).mono ?_); (case gw27_ => exact z2_); rintro e w19 ⟨rfl, hb⟩; refine ⟨_, rfl, ?_⟩; have n0_ := Aside0.mk (blk_below (g := gb112) (o := .cells #[.string a0_0, .string a0_1] 45 (0, 0)) z32_ hb); have n1_ := Aside0.mk (below_step z15_ hb); clear BK112; clear HB; have BK112 := n0_; have HB := n1_; clear n0_ n1_; (try clear hb); (try clear hb2); (try clear hk); (try clear hi); have hcz20_0 : w19.cell? ⟨gb112, 0, none⟩ = some (.string a0_0) := (blk_cell BK112.out 0).trans rfl; have hcz20_1 : w19.cell? ⟨gb112, 1, none⟩ = some (.string a0_1) := (blk_cell BK112.out 1).trans rfl; have hfz20_0 := blk_frozen BK112.out 0; have hfz20_1 := blk_frozen BK112.out 1) | ((with_reducible refine gate_callee (f := 63) rfl ?_); refine goesL_ (some 26) rfl rfl Tryz.func63 (by kernel_rfl) rfl #[.string a0_1] rfl z24_ ?_; (with_reducible refine (safe_clean.calls kj5 a0_1 t117 _ ?gw28_ A17.out).mono ?_); (case gw28_ => exact z2_); rintro e w' ⟨rfl, ⟨nd, rfl⟩⟩; refine ⟨_, rfl, ?_⟩))
       go_ret
       exact ⟨z28_, z15_⟩
      ·replace c16 := Bool.eq_false_iff.mpr c16
       subst c16
       have H1 : (some false) = some r := by rw [if_neg (show ¬ (false = true) by decide)] at H; exact H
       clear H
       have H := H1
       clear H1
       obtain rfl := Option.some.inj H
       obtain ⟨hcz21_0, hcz21_1⟩ := blkc2_ BK112.out; obtain ⟨hfz21_0, hfz21_1⟩ := blkf2_ BK112.out
       go_wp2_with (first | ((with_reducible refine gate_callee (f := 62) rfl ?_); refine goesL_ (some 22) rfl rfl Tryz.func62 (by kernel_rfl) rfl #[.string a0_1] rfl z24_ ?_; (with_reducible refine (safe_sort.calls a0_1 false _ ?gw29_ A15.out).mono ?_); (case gw29_ => exact z2_); rintro e w22 ⟨rfl, hb⟩; refine ⟨_, rfl, ?_⟩; have n0_ := Aside0.mk (blk_below (g := gb112) (o := .cells #[.string a0_0, .string a0_1] 45 (0, 0)) z32_ hb); have n1_ := Aside0.mk (below_step z15_ hb); clear BK112; clear HB; have BK112 := n0_; have HB := n1_; clear n0_ n1_; (try clear hb); (try clear hb2); (try clear hk); (try clear hi)))
       go_ret
       exact ⟨z28_, z15_⟩
     ·rw [if_neg c14] at H
      have c14b0 : (t113.toList == ([99, 111, 110, 116, 101, 110, 116, 45, 116, 121, 112, 101] : List UInt8)) = false := beq_eq_false_iff_ne.mpr c14
      have c14b1 : (t113.toList != ([99, 111, 110, 116, 101, 110, 116, 45, 116, 121, 112, 101] : List UInt8)) = true := bne_iff_ne.mpr c14
      by_cases c23 : t113.toList = ([97, 99, 99, 101, 112, 116] : List UInt8)
      ·rw [if_pos c23] at H
       have c23b0 : (t113.toList == ([97, 99, 99, 101, 112, 116] : List UInt8)) = true := beq_iff_eq.mpr c23
       have c23b1 : (t113.toList != ([97, 99, 99, 101, 112, 116] : List UInt8)) = false := bne_eq_false_iff_eq.mpr c23
       clear c23
       replace H := Option.bind_eq_some_iff.mp H
       obtain ⟨t115, A240, H⟩ := H
       replace H : (some t115) = some r := H
       have A24 := Aside0.mk A240; clear A240
       obtain rfl := Option.some.inj H
       obtain ⟨hcz25_0, hcz25_1⟩ := blkc2_ BK112.out; obtain ⟨hfz25_0, hfz25_1⟩ := blkf2_ BK112.out
       go_wp2_with (first | ((with_reducible refine gate_callee (f := 63) rfl ?_); refine goesL_ (some 26) rfl rfl Tryz.func63 (by kernel_rfl) rfl #[.string a0_1] rfl z24_ ?_; (with_reducible refine (safe_clean.calls kj5 a0_1 t115 _ ?gw30_ A24.out).mono ?_); (case gw30_ => exact z2_); rintro e w' ⟨rfl, ⟨nd, rfl⟩⟩; refine ⟨_, rfl, ?_⟩))
       go_ret
       exact ⟨z28_, z15_⟩
      ·rw [if_neg c23] at H
       have c23b0 : (t113.toList == ([97, 99, 99, 101, 112, 116] : List UInt8)) = false := beq_eq_false_iff_ne.mpr c23
       have c23b1 : (t113.toList != ([97, 99, 99, 101, 112, 116] : List UInt8)) = true := bne_iff_ne.mpr c23
       obtain rfl := Option.some.inj H
       go_wp2
       go_ret
       exact ⟨z28_, z15_⟩

def pursuivantref10_among.l0 : Nat → ByteArray → List ByteArray → Int → Option (Bool)
 | 0, _, _, _ => none
 | k + 1, x0, x1, x5 => if x5 < (x1.length : Int) then (if 0 ≤ x5 then (if (rdOf ByteArray.empty x1 x5).toList = x0.toList then (some true) else (pursuivantref10_among.l0 k x0 x1 (wrap64 (x5 + 1)))) else (none)) else (some false)
def pursuivantref10_among.f (k : Nat) (a0 : ByteArray) (l1 : List ByteArray) : Option (Bool) := pursuivantref10_among.l0 k a0 l1 0
set_option maxHeartbeats 8000000 in
set_option maxRecDepth 100000 in
theorem pursuivantref10_among.calls (k : Nat) (a0 : ByteArray) (A1 : Option Addr) (c1 : Nat) (l1 : List ByteArray) (r : Bool) (w : World) (hG_ : GW w) (hr1 : Kd.C Kd.string w A1 l1.length l1) (hc1 : l1.length ≤ c1) (h : pursuivantref10_among.f k a0 l1 = some r) :
  Calls Tryz.prog 40 #[.string a0, .slice A1 l1.length c1] w fun e w' => e = .returned (.bool r) ∧ Drawn0 w w' := by
 have HR1 := Aside0.mk hr1; have HC1 := Aside0.mk hc1; clear hr1 hc1
 have H : (pursuivantref10_among.l0 k a0 l1 0) = some r := h
 clear h
 have H' := Aside0.mk H
 clear H
 go_enter Tryz.func40, Tryz.ntmps40
 go_wp2
 go_loopg [5] k (fun kq v5 w' => ∃ (x5_1 : Int), v5 = .int .i64 x5_1 ∧ Aside0 (pursuivantref10_among.l0 kq a0 l1 x5_1 = some r) ∧ Aside0 (kq ≤ k) ∧ Drawn0 w w')
 case atStart => exact ⟨(0), z51_, H', ⟨Nat.le_refl _⟩, z52_⟩
 case round =>
  clear H'; (try clear c1)
  obtain ⟨x5_1, rfl, HA, HK1, ⟨m1, rfl⟩⟩ := hrel
  cases gk with
  | zero => exact absurd HA.out (by simp [pursuivantref10_among.l0])
  | succ k1 =>
   have H := HA.out
   clear HA
   simp only [pursuivantref10_among.l0] at H
   by_cases c3 : x5_1 < (l1.length : Int)
   ·rw [if_pos c3] at H
    have c3b0 : decide (x5_1 < (l1.length : Int)) = true := decide_eq_true c3; clear c3
    by_cases c4 : 0 ≤ x5_1
    ·rw [if_pos c4] at H
     have c4b0 : decide (0 ≤ x5_1) = true := decide_eq_true c4; clear c4
     by_cases c5 : (rdOf ByteArray.empty l1 x5_1).toList = a0.toList
     ·rw [if_pos c5] at H
      have c5b0 : ((rdOf ByteArray.empty l1 x5_1).toList == a0.toList) = true := beq_iff_eq.mpr c5
      have c5b1 : ((rdOf ByteArray.empty l1 x5_1).toList != a0.toList) = false := bne_eq_false_iff_eq.mpr c5
      clear c5
      obtain rfl := Option.some.inj H
      have p118 : 0 ≤ (x5_1 : Int) := of_decide_eq_true z55_
      have q118 : x5_1 < (l1.length : Int) := of_decide_eq_true z55_
      obtain ⟨ad118, e118, hx118_0⟩ := Kd.at_string HR1.out x5_1 p118 q118
      cases e118
      replace p118 := eq_true p118
      replace q118 := eq_true q118
      go_wp2
      go_ret
      exact ⟨z51_, z52_⟩
     ·rw [if_neg c5] at H
      have c5b0 : ((rdOf ByteArray.empty l1 x5_1).toList == a0.toList) = false := beq_eq_false_iff_ne.mpr c5
      have c5b1 : ((rdOf ByteArray.empty l1 x5_1).toList != a0.toList) = true := bne_iff_ne.mpr c5
      have H' := Aside0.mk H
      clear H
      have p118 : 0 ≤ (x5_1 : Int) := of_decide_eq_true z55_
      have q118 : x5_1 < (l1.length : Int) := of_decide_eq_true z55_
      obtain ⟨ad118, e118, hx118_0⟩ := Kd.at_string HR1.out x5_1 p118 q118
      cases e118
      replace p118 := eq_true p118
      replace q118 := eq_true q118
      go_wp2
      go_roundg k1
      case measure => have := HK1.out; omega
      case rel => exact ⟨(wrap64 (x5_1 + 1)), z51_, H', ⟨z58_⟩, z52_⟩
    ·rw [if_neg c4] at H
     exact absurd H (by simp)
   ·rw [if_neg c3] at H
    have c3b0 : decide (x5_1 < (l1.length : Int)) = false := decide_eq_false c3; clear c3
    obtain rfl := Option.some.inj H
    go_wp2
    go_ret
    exact ⟨z51_, z52_⟩

def pursuivantref10_Simple.f (k : Nat) (a0 : ByteArray) : Option (Bool) := (pursuivantref10_among.f k a0 (([(⟨#[80, 79, 83, 84]⟩ : ByteArray), (⟨#[72, 69, 65, 68]⟩ : ByteArray), (⟨#[71, 69, 84]⟩ : ByteArray)] : List ByteArray))).bind fun t136 => (some t136)
set_option maxHeartbeats 8000000 in
set_option maxRecDepth 100000 in
theorem pursuivantref10_Simple.calls (k : Nat) (a0 : ByteArray) (r : Bool) (w : World) (hG_ : GW w) (h : pursuivantref10_Simple.f k a0 = some r) :
  Calls Tryz.prog 22 #[.string a0] w fun e w' => e = .returned (.bool r) ∧ Below w.heap.size w w' := by
 have HB := Aside0.mk (Below.refl w.heap.size w)
 have H : ((pursuivantref10_among.f k a0 (([(⟨#[80, 79, 83, 84]⟩ : ByteArray), (⟨#[72, 69, 65, 68]⟩ : ByteArray), (⟨#[71, 69, 84]⟩ : ByteArray)] : List ByteArray))).bind fun t136 => (some t136)) = some r := h
 clear h
 obtain ⟨y133, hy133⟩ : ∃ y_ : List ByteArray, y_ = (([(⟨#[80, 79, 83, 84]⟩ : ByteArray), (⟨#[72, 69, 65, 68]⟩ : ByteArray), (⟨#[71, 69, 84]⟩ : ByteArray)] : List ByteArray)) := ⟨_, rfl⟩
 replace H : ((pursuivantref10_among.f k a0 y133).bind fun t136 => (some t136)) = some r := by first | (rw [hy133]; with_reducible exact H) | (have H2_ := (Option.bind_some _ _).symm.trans H; rw [hy133]; with_reducible exact H2_) | (have H2_ := (Option.bind_some _ _).symm.trans H; with_reducible exact H2_) | with_reducible exact H | (rw [hy133]; exact H) | exact H
 have Ny133 := Aside0.mk hy133; clear hy133
 replace H := Option.bind_eq_some_iff.mp H
 obtain ⟨t136, A20, H⟩ := H
 replace H : (some t136) = some r := H
 have A2 := Aside0.mk A20; clear A20
 obtain rfl := Option.some.inj H
 go_enter Tryz.func22, Tryz.ntmps22
 go_wp2_with (first | ((with_reducible refine gate_dst (N := 4) rfl ?_); refine Kd.R_lit Kd.string _ 9 ?hg (N := 4) ?hd (xs := ([(⟨#[80, 79, 83, 84]⟩ : ByteArray), (⟨#[72, 69, 65, 68]⟩ : ByteArray), (⟨#[71, 69, 84]⟩ : ByteArray)] : List ByteArray)) (inner := [.string (⟨#[80, 79, 83, 84]⟩ : ByteArray), .string (⟨#[72, 69, 65, 68]⟩ : ByteArray), .string (⟨#[71, 69, 84]⟩ : ByteArray)]) (ok := fun _ => True) (okp := fun _ => True) ?hr ?hp (fun _ hk => hk) trivial (Below.refl _ _) (Nat.le_refl _) (by simp) ?_; (case hd => rfl); (case hg => rfl); (case hr => first | (go_simp; done) | (go_simp; rfl)); (case hp => exact (Reps.one (show Kd.M Kd.string _ _ _ (⟨#[80, 79, 83, 84]⟩ : ByteArray) [.string (⟨#[80, 79, 83, 84]⟩ : ByteArray)] from rfl) (Reps.one (show Kd.M Kd.string _ _ _ (⟨#[72, 69, 65, 68]⟩ : ByteArray) [.string (⟨#[72, 69, 65, 68]⟩ : ByteArray)] from rfl) (Reps.one (show Kd.M Kd.string _ _ _ (⟨#[71, 69, 84]⟩ : ByteArray) [.string (⟨#[71, 69, 84]⟩ : ByteArray)] from rfl) (Reps.none _ _))))); intro v134 w3 ho4 hb hg_ hnew_; clear hg_ hnew_; (first | rw [← Ny133.out] at ho4 | (simp only [Int.reduceToNat] at ho4; rw [← Ny133.out] at ho4)); have n0_ := Aside0.mk (Kd.R_lower ho4 (below_size z25_)); have n1_ := Aside0.mk (below_step z25_ hb); clear HB; have HO135 := n0_; have HB := n1_; clear n0_ n1_; clear hb ho4; obtain ⟨Ao5, co5, eo5⟩ := Kd.R_slice HO135.out; subst eo5) | ((with_reducible refine gate_callee (f := 40) rfl ?_); refine goesL_ (some 5) rfl rfl Tryz.func40 (by kernel_rfl) rfl #[.string a0, .slice Ao5 y133.length co5] rfl z24_ ?_; (with_reducible refine (pursuivantref10_among.calls k a0 _ _ y133 t136 _ ?gw39_ ?side1 ?side2 A2.out).mono ?_); (case gw39_ => exact z4_); (case side1 => repeat (first | exact (Kd.R_reads' HO135.out).2.2 | (with_reducible refine Kd.C_alloc ?_ _) | (with_reducible refine Kd.C_drewN ?_ _) | (with_reducible refine Kd.C_drew ?_))); (case side2 => exact (Kd.R_reads' HO135.out).2.1); rintro e w' ⟨rfl, ⟨nd, rfl⟩⟩; refine ⟨_, rfl, ?_⟩))
 go_ret
 exact ⟨z28_, z25_⟩

end Go.Proofs.YtfibkgmbgdaeoaaGreatDoor.Hand
