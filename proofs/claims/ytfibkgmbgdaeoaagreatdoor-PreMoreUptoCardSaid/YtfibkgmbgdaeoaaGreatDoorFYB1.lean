/- What each Go function here computes, and that its call computes it, over contracts proved by hand (written by this project's xprint.py, which drives the kit's print). -/
import Derived.Test.YtfibkgmbgdaeoaaGreatDoorZ
import Derived.Test.YtfibkgmbgdaeoaaGreatDoorK
import Derived.Test.YtfibkgmbgdaeoaaGreatDoorGet
import Derived.Test.YtfibkgmbgdaeoaaGreatDoorFA1
import Derived.Test.YtfibkgmbgdaeoaaGreatDoorFP1
import Derived.Test.YtfibkgmbgdaeoaaGreatDoorFPB1
import Derived.Test.YtfibkgmbgdaeoaaGreatDoorFYA1
namespace Go.Proofs.YtfibkgmbgdaeoaaGreatDoor.Hand
open Go.RowKit Go.Proofs.YtfibkgmbgdaeoaaGreatDoorW.PrintWords Go.Proofs.YtfibkgmbgdaeoaaGreatDoorW.PrintLast Go.Proofs.YtfibkgmbgdaeoaaGreatDoorW.PrintMore
attribute [local go_sem] Instr.field asAgg max2_int min2_int max_two min_two max_three min_three max_four min_four   -- for this text's walks alone
set_option linter.unusedVariables false
set_option linter.unusedSimpArgs false

def safe_language.l0 : Nat → ByteArray → Int → Int → Option (Bool)
 | 0, _, _, _ => none
 | k + 1, x0, x6, x7 => if x7 < x6 then (if 0 ≤ x7 then (if x7 < (x0.size : Int) then (if (bt x0 x7) < 48 then (if (Go.bits .or .u8 (bt x0 x7) 32) < 97 then ((strings_IndexByte.f (⟨#[32, 42, 44, 45, 46, 59, 61]⟩ : ByteArray) (bt x0 x7)).bind fun t101 => (if t101 < 0 then (some false) else (safe_language.l0 k x0 x6 (wrap64 (x7 + 1))))) else (if (Go.bits .or .u8 (bt x0 x7) 32) > 122 then ((strings_IndexByte.f (⟨#[32, 42, 44, 45, 46, 59, 61]⟩ : ByteArray) (bt x0 x7)).bind fun t102 => (if t102 < 0 then (some false) else (safe_language.l0 k x0 x6 (wrap64 (x7 + 1))))) else (safe_language.l0 k x0 x6 (wrap64 (x7 + 1))))) else (if (bt x0 x7) > 57 then (if (Go.bits .or .u8 (bt x0 x7) 32) < 97 then ((strings_IndexByte.f (⟨#[32, 42, 44, 45, 46, 59, 61]⟩ : ByteArray) (bt x0 x7)).bind fun t103 => (if t103 < 0 then (some false) else (safe_language.l0 k x0 x6 (wrap64 (x7 + 1))))) else (if (Go.bits .or .u8 (bt x0 x7) 32) > 122 then ((strings_IndexByte.f (⟨#[32, 42, 44, 45, 46, 59, 61]⟩ : ByteArray) (bt x0 x7)).bind fun t104 => (if t104 < 0 then (some false) else (safe_language.l0 k x0 x6 (wrap64 (x7 + 1))))) else (safe_language.l0 k x0 x6 (wrap64 (x7 + 1))))) else (safe_language.l0 k x0 x6 (wrap64 (x7 + 1))))) else (none)) else (none)) else (some true)
def safe_language.f (k : Nat) (a0 : ByteArray) : Option (Bool) := safe_language.l0 k a0 (a0.size : Int) 0
set_option maxHeartbeats 8000000 in
set_option maxRecDepth 100000 in
theorem safe_language.calls (k : Nat) (a0 : ByteArray) (r : Bool) (w : World) (hG_ : GW w) (h : safe_language.f k a0 = some r) :
  Calls Tryz.prog 61 #[.string a0] w fun e w' => e = .returned (.bool r) ∧ Drawn0 w w' := by
 have H : (safe_language.l0 k a0 (a0.size : Int) 0) = some r := h
 clear h
 have H' := Aside0.mk H
 clear H
 go_enter Tryz.func61, Tryz.ntmps61
 go_wp2
 go_loopg [7] k (fun kq v7 w' => ∃ (x7_1 : Int), v7 = .int .i64 x7_1 ∧ Aside0 (safe_language.l0 kq a0 (a0.size : Int) x7_1 = some r) ∧ Aside0 (kq ≤ k) ∧ Drawn0 w w')
 case atStart => exact ⟨(0), z29_, H', ⟨Nat.le_refl _⟩, z30_⟩
 case round =>
  clear H'
  obtain ⟨x7_1, rfl, HA, HK1, ⟨m1, rfl⟩⟩ := hrel
  cases gk with
  | zero => exact absurd HA.out (by simp [safe_language.l0])
  | succ k1 =>
   have H := HA.out
   clear HA
   simp only [safe_language.l0] at H
   by_cases c2 : x7_1 < (a0.size : Int)
   ·rw [if_pos c2] at H
    have c2b0 : decide (x7_1 < (a0.size : Int)) = true := decide_eq_true c2; clear c2
    by_cases c3 : 0 ≤ x7_1
    ·rw [if_pos c3] at H
     have c3b0 : decide (0 ≤ x7_1) = true := decide_eq_true c3; clear c3
     by_cases c4 : x7_1 < (a0.size : Int)
     ·rw [if_pos c4] at H
      have c4b0 : decide (x7_1 < (a0.size : Int)) = true := decide_eq_true c4; clear c4
      by_cases c7 : (bt a0 x7_1) < 48
      ·rw [if_pos c7] at H
       have c7b0 : decide ((bt a0 x7_1) < 48) = true := decide_eq_true c7; clear c7
       by_cases c8 : (Go.bits .or .u8 (bt a0 x7_1) 32) < 97
       ·rw [if_pos c8] at H
        have c8b0 : decide ((Go.bits .or .u8 (bt a0 x7_1) 32) < 97) = true := decide_eq_true c8; clear c8
        replace H := Option.bind_eq_some_iff.mp H
        obtain ⟨t101, A100, H⟩ := H
        replace H : (if t101 < 0 then (some false) else (safe_language.l0 k1 a0 (a0.size : Int) (wrap64 (x7_1 + 1)))) = some r := H
        have A10 := Aside0.mk A100; clear A100
        by_cases c11 : t101 < 0
        ·rw [if_pos c11] at H
         have c11b0 : decide (t101 < 0) = true := decide_eq_true c11; clear c11
         obtain rfl := Option.some.inj H
         have p5 : 0 ≤ (x7_1 : Int) := of_decide_eq_true z32_
         have q5 : x7_1 < (a0.size : Int) := of_decide_eq_true z32_
         have hx5 := bt_at a0 x7_1
         replace p5 := eq_true p5
         replace q5 := eq_true q5
         have p6 : 0 ≤ (x7_1 : Int) := of_decide_eq_true z32_
         have q6 : x7_1 < (a0.size : Int) := of_decide_eq_true z32_
         have hx6 := bt_at a0 x7_1
         replace p6 := eq_true p6
         replace q6 := eq_true q6
         have p9 : 0 ≤ (x7_1 : Int) := of_decide_eq_true z32_
         have q9 : x7_1 < (a0.size : Int) := of_decide_eq_true z32_
         have hx9 := bt_at a0 x7_1
         replace p9 := eq_true p9
         replace q9 := eq_true q9
         go_wp2_with (first | (go_at_call 74; (fail_if_success (have z_ := U_1)); have U_1 := trivial; (with_reducible refine (strings_IndexByte.calls (⟨#[32, 42, 44, 45, 46, 59, 61]⟩ : ByteArray) (bt a0 x7_1) t101 _ ?gw1_ A10.out).mono ?_); (case gw1_ => exact z3_); rintro e w' ⟨rfl, ⟨nd, rfl⟩⟩))
         go_ret
         exact ⟨z29_, z30_⟩
        ·rw [if_neg c11] at H
         have c11b0 : decide (t101 < 0) = false := decide_eq_false c11; clear c11
         have H' := Aside0.mk H
         clear H
         have p5 : 0 ≤ (x7_1 : Int) := of_decide_eq_true z32_
         have q5 : x7_1 < (a0.size : Int) := of_decide_eq_true z32_
         have hx5 := bt_at a0 x7_1
         replace p5 := eq_true p5
         replace q5 := eq_true q5
         have p6 : 0 ≤ (x7_1 : Int) := of_decide_eq_true z32_
         have q6 : x7_1 < (a0.size : Int) := of_decide_eq_true z32_
         have hx6 := bt_at a0 x7_1
         replace p6 := eq_true p6
         replace q6 := eq_true q6
         have p9 : 0 ≤ (x7_1 : Int) := of_decide_eq_true z32_
         have q9 : x7_1 < (a0.size : Int) := of_decide_eq_true z32_
         have hx9 := bt_at a0 x7_1
         replace p9 := eq_true p9
         replace q9 := eq_true q9
         go_wp2_with (first | (go_at_call 74; (fail_if_success (have z_ := U_2)); have U_2 := trivial; (with_reducible refine (strings_IndexByte.calls (⟨#[32, 42, 44, 45, 46, 59, 61]⟩ : ByteArray) (bt a0 x7_1) t101 _ ?gw2_ A10.out).mono ?_); (case gw2_ => exact z3_); rintro e w' ⟨rfl, ⟨nd, rfl⟩⟩))
         go_roundg k1
         case measure => have := HK1.out; omega
         case rel => exact ⟨(wrap64 (x7_1 + 1)), z29_, H', ⟨z35_⟩, z30_⟩
       ·rw [if_neg c8] at H
        have c8b0 : decide ((Go.bits .or .u8 (bt a0 x7_1) 32) < 97) = false := decide_eq_false c8; clear c8
        by_cases c12 : (Go.bits .or .u8 (bt a0 x7_1) 32) > 122
        ·rw [if_pos c12] at H
         have c12b0 : decide (122 < (Go.bits .or .u8 (bt a0 x7_1) 32)) = true := decide_eq_true c12; clear c12
         replace H := Option.bind_eq_some_iff.mp H
         obtain ⟨t102, A140, H⟩ := H
         replace H : (if t102 < 0 then (some false) else (safe_language.l0 k1 a0 (a0.size : Int) (wrap64 (x7_1 + 1)))) = some r := H
         have A14 := Aside0.mk A140; clear A140
         by_cases c15 : t102 < 0
         ·rw [if_pos c15] at H
          have c15b0 : decide (t102 < 0) = true := decide_eq_true c15; clear c15
          obtain rfl := Option.some.inj H
          have p5 : 0 ≤ (x7_1 : Int) := of_decide_eq_true z32_
          have q5 : x7_1 < (a0.size : Int) := of_decide_eq_true z32_
          have hx5 := bt_at a0 x7_1
          replace p5 := eq_true p5
          replace q5 := eq_true q5
          have p6 : 0 ≤ (x7_1 : Int) := of_decide_eq_true z32_
          have q6 : x7_1 < (a0.size : Int) := of_decide_eq_true z32_
          have hx6 := bt_at a0 x7_1
          replace p6 := eq_true p6
          replace q6 := eq_true q6
          have p13 : 0 ≤ (x7_1 : Int) := of_decide_eq_true z32_
          have q13 : x7_1 < (a0.size : Int) := of_decide_eq_true z32_
          have hx13 := bt_at a0 x7_1
          replace p13 := eq_true p13
          replace q13 := eq_true q13
          go_wp2_with (first | (go_at_call 74; (fail_if_success (have z_ := U_3)); have U_3 := trivial; (with_reducible refine (strings_IndexByte.calls (⟨#[32, 42, 44, 45, 46, 59, 61]⟩ : ByteArray) (bt a0 x7_1) t102 _ ?gw3_ A14.out).mono ?_); (case gw3_ => exact z3_); rintro e w' ⟨rfl, ⟨nd, rfl⟩⟩))
          go_ret
          exact ⟨z29_, z30_⟩
         ·rw [if_neg c15] at H
          have c15b0 : decide (t102 < 0) = false := decide_eq_false c15; clear c15
          have H' := Aside0.mk H
          clear H
          have p5 : 0 ≤ (x7_1 : Int) := of_decide_eq_true z32_
          have q5 : x7_1 < (a0.size : Int) := of_decide_eq_true z32_
          have hx5 := bt_at a0 x7_1
          replace p5 := eq_true p5
          replace q5 := eq_true q5
          have p6 : 0 ≤ (x7_1 : Int) := of_decide_eq_true z32_
          have q6 : x7_1 < (a0.size : Int) := of_decide_eq_true z32_
          have hx6 := bt_at a0 x7_1
          replace p6 := eq_true p6
          replace q6 := eq_true q6
          have p13 : 0 ≤ (x7_1 : Int) := of_decide_eq_true z32_
          have q13 : x7_1 < (a0.size : Int) := of_decide_eq_true z32_
          have hx13 := bt_at a0 x7_1
          replace p13 := eq_true p13
          replace q13 := eq_true q13
          go_wp2_with (first | (go_at_call 74; (fail_if_success (have z_ := U_4)); have U_4 := trivial; (with_reducible refine (strings_IndexByte.calls (⟨#[32, 42, 44, 45, 46, 59, 61]⟩ : ByteArray) (bt a0 x7_1) t102 _ ?gw4_ A14.out).mono ?_); (case gw4_ => exact z3_); rintro e w' ⟨rfl, ⟨nd, rfl⟩⟩))
          go_roundg k1
          case measure => have := HK1.out; omega
          case rel => exact ⟨(wrap64 (x7_1 + 1)), z29_, H', ⟨z35_⟩, z30_⟩
        ·rw [if_neg c12] at H
         have c12b0 : decide (122 < (Go.bits .or .u8 (bt a0 x7_1) 32)) = false := decide_eq_false c12; clear c12
         have H' := Aside0.mk H
         clear H
         have p5 : 0 ≤ (x7_1 : Int) := of_decide_eq_true z32_
         have q5 : x7_1 < (a0.size : Int) := of_decide_eq_true z32_
         have hx5 := bt_at a0 x7_1
         replace p5 := eq_true p5
         replace q5 := eq_true q5
         have p6 : 0 ≤ (x7_1 : Int) := of_decide_eq_true z32_
         have q6 : x7_1 < (a0.size : Int) := of_decide_eq_true z32_
         have hx6 := bt_at a0 x7_1
         replace p6 := eq_true p6
         replace q6 := eq_true q6
         go_wp2
         go_roundg k1
         case measure => have := HK1.out; omega
         case rel => exact ⟨(wrap64 (x7_1 + 1)), z29_, H', ⟨z35_⟩, z30_⟩
      ·rw [if_neg c7] at H
       have c7b0 : decide ((bt a0 x7_1) < 48) = false := decide_eq_false c7; clear c7
       by_cases c17 : (bt a0 x7_1) > 57
       ·rw [if_pos c17] at H
        have c17b0 : decide (57 < (bt a0 x7_1)) = true := decide_eq_true c17; clear c17
        by_cases c18 : (Go.bits .or .u8 (bt a0 x7_1) 32) < 97
        ·rw [if_pos c18] at H
         have c18b0 : decide ((Go.bits .or .u8 (bt a0 x7_1) 32) < 97) = true := decide_eq_true c18; clear c18
         replace H := Option.bind_eq_some_iff.mp H
         obtain ⟨t103, A200, H⟩ := H
         replace H : (if t103 < 0 then (some false) else (safe_language.l0 k1 a0 (a0.size : Int) (wrap64 (x7_1 + 1)))) = some r := H
         have A20 := Aside0.mk A200; clear A200
         by_cases c21 : t103 < 0
         ·rw [if_pos c21] at H
          have c21b0 : decide (t103 < 0) = true := decide_eq_true c21; clear c21
          obtain rfl := Option.some.inj H
          have p5 : 0 ≤ (x7_1 : Int) := of_decide_eq_true z32_
          have q5 : x7_1 < (a0.size : Int) := of_decide_eq_true z32_
          have hx5 := bt_at a0 x7_1
          replace p5 := eq_true p5
          replace q5 := eq_true q5
          have p6 : 0 ≤ (x7_1 : Int) := of_decide_eq_true z32_
          have q6 : x7_1 < (a0.size : Int) := of_decide_eq_true z32_
          have hx6 := bt_at a0 x7_1
          replace p6 := eq_true p6
          replace q6 := eq_true q6
          have p16 : 0 ≤ (x7_1 : Int) := of_decide_eq_true z32_
          have q16 : x7_1 < (a0.size : Int) := of_decide_eq_true z32_
          have hx16 := bt_at a0 x7_1
          replace p16 := eq_true p16
          replace q16 := eq_true q16
          have p19 : 0 ≤ (x7_1 : Int) := of_decide_eq_true z32_
          have q19 : x7_1 < (a0.size : Int) := of_decide_eq_true z32_
          have hx19 := bt_at a0 x7_1
          replace p19 := eq_true p19
          replace q19 := eq_true q19
          go_wp2_with (first | (go_at_call 74; (fail_if_success (have z_ := U_5)); have U_5 := trivial; (with_reducible refine (strings_IndexByte.calls (⟨#[32, 42, 44, 45, 46, 59, 61]⟩ : ByteArray) (bt a0 x7_1) t103 _ ?gw5_ A20.out).mono ?_); (case gw5_ => exact z3_); rintro e w' ⟨rfl, ⟨nd, rfl⟩⟩))
          go_ret
          exact ⟨z29_, z30_⟩
         ·rw [if_neg c21] at H
          have c21b0 : decide (t103 < 0) = false := decide_eq_false c21; clear c21
          have H' := Aside0.mk H
          clear H
          have p5 : 0 ≤ (x7_1 : Int) := of_decide_eq_true z32_
          have q5 : x7_1 < (a0.size : Int) := of_decide_eq_true z32_
          have hx5 := bt_at a0 x7_1
          replace p5 := eq_true p5
          replace q5 := eq_true q5
          have p6 : 0 ≤ (x7_1 : Int) := of_decide_eq_true z32_
          have q6 : x7_1 < (a0.size : Int) := of_decide_eq_true z32_
          have hx6 := bt_at a0 x7_1
          replace p6 := eq_true p6
          replace q6 := eq_true q6
          have p16 : 0 ≤ (x7_1 : Int) := of_decide_eq_true z32_
          have q16 : x7_1 < (a0.size : Int) := of_decide_eq_true z32_
          have hx16 := bt_at a0 x7_1
          replace p16 := eq_true p16
          replace q16 := eq_true q16
          have p19 : 0 ≤ (x7_1 : Int) := of_decide_eq_true z32_
          have q19 : x7_1 < (a0.size : Int) := of_decide_eq_true z32_
          have hx19 := bt_at a0 x7_1
          replace p19 := eq_true p19
          replace q19 := eq_true q19
          go_wp2_with (first | (go_at_call 74; (fail_if_success (have z_ := U_6)); have U_6 := trivial; (with_reducible refine (strings_IndexByte.calls (⟨#[32, 42, 44, 45, 46, 59, 61]⟩ : ByteArray) (bt a0 x7_1) t103 _ ?gw6_ A20.out).mono ?_); (case gw6_ => exact z3_); rintro e w' ⟨rfl, ⟨nd, rfl⟩⟩))
          go_roundg k1
          case measure => have := HK1.out; omega
          case rel => exact ⟨(wrap64 (x7_1 + 1)), z29_, H', ⟨z35_⟩, z30_⟩
        ·rw [if_neg c18] at H
         have c18b0 : decide ((Go.bits .or .u8 (bt a0 x7_1) 32) < 97) = false := decide_eq_false c18; clear c18
         by_cases c22 : (Go.bits .or .u8 (bt a0 x7_1) 32) > 122
         ·rw [if_pos c22] at H
          have c22b0 : decide (122 < (Go.bits .or .u8 (bt a0 x7_1) 32)) = true := decide_eq_true c22; clear c22
          replace H := Option.bind_eq_some_iff.mp H
          obtain ⟨t104, A240, H⟩ := H
          replace H : (if t104 < 0 then (some false) else (safe_language.l0 k1 a0 (a0.size : Int) (wrap64 (x7_1 + 1)))) = some r := H
          have A24 := Aside0.mk A240; clear A240
          by_cases c25 : t104 < 0
          ·rw [if_pos c25] at H
           have c25b0 : decide (t104 < 0) = true := decide_eq_true c25; clear c25
           obtain rfl := Option.some.inj H
           have p5 : 0 ≤ (x7_1 : Int) := of_decide_eq_true z32_
           have q5 : x7_1 < (a0.size : Int) := of_decide_eq_true z32_
           have hx5 := bt_at a0 x7_1
           replace p5 := eq_true p5
           replace q5 := eq_true q5
           have p6 : 0 ≤ (x7_1 : Int) := of_decide_eq_true z32_
           have q6 : x7_1 < (a0.size : Int) := of_decide_eq_true z32_
           have hx6 := bt_at a0 x7_1
           replace p6 := eq_true p6
           replace q6 := eq_true q6
           have p16 : 0 ≤ (x7_1 : Int) := of_decide_eq_true z32_
           have q16 : x7_1 < (a0.size : Int) := of_decide_eq_true z32_
           have hx16 := bt_at a0 x7_1
           replace p16 := eq_true p16
           replace q16 := eq_true q16
           have p23 : 0 ≤ (x7_1 : Int) := of_decide_eq_true z32_
           have q23 : x7_1 < (a0.size : Int) := of_decide_eq_true z32_
           have hx23 := bt_at a0 x7_1
           replace p23 := eq_true p23
           replace q23 := eq_true q23
           go_wp2_with (first | (go_at_call 74; (fail_if_success (have z_ := U_7)); have U_7 := trivial; (with_reducible refine (strings_IndexByte.calls (⟨#[32, 42, 44, 45, 46, 59, 61]⟩ : ByteArray) (bt a0 x7_1) t104 _ ?gw7_ A24.out).mono ?_); (case gw7_ => exact z3_); rintro e w' ⟨rfl, ⟨nd, rfl⟩⟩))
           go_ret
           exact ⟨z29_, z30_⟩
          ·rw [if_neg c25] at H
           have c25b0 : decide (t104 < 0) = false := decide_eq_false c25; clear c25
           have H' := Aside0.mk H
           clear H
           have p5 : 0 ≤ (x7_1 : Int) := of_decide_eq_true z32_
           have q5 : x7_1 < (a0.size : Int) := of_decide_eq_true z32_
           have hx5 := bt_at a0 x7_1
           replace p5 := eq_true p5
           replace q5 := eq_true q5
           have p6 : 0 ≤ (x7_1 : Int) := of_decide_eq_true z32_
           have q6 : x7_1 < (a0.size : Int) := of_decide_eq_true z32_
           have hx6 := bt_at a0 x7_1
           replace p6 := eq_true p6
           replace q6 := eq_true q6
           have p16 : 0 ≤ (x7_1 : Int) := of_decide_eq_true z32_
           have q16 : x7_1 < (a0.size : Int) := of_decide_eq_true z32_
           have hx16 := bt_at a0 x7_1
           replace p16 := eq_true p16
           replace q16 := eq_true q16
           have p23 : 0 ≤ (x7_1 : Int) := of_decide_eq_true z32_
           have q23 : x7_1 < (a0.size : Int) := of_decide_eq_true z32_
           have hx23 := bt_at a0 x7_1
           replace p23 := eq_true p23
           replace q23 := eq_true q23
           go_wp2_with (first | (go_at_call 74; (fail_if_success (have z_ := U_8)); have U_8 := trivial; (with_reducible refine (strings_IndexByte.calls (⟨#[32, 42, 44, 45, 46, 59, 61]⟩ : ByteArray) (bt a0 x7_1) t104 _ ?gw8_ A24.out).mono ?_); (case gw8_ => exact z3_); rintro e w' ⟨rfl, ⟨nd, rfl⟩⟩))
           go_roundg k1
           case measure => have := HK1.out; omega
           case rel => exact ⟨(wrap64 (x7_1 + 1)), z29_, H', ⟨z35_⟩, z30_⟩
         ·rw [if_neg c22] at H
          have c22b0 : decide (122 < (Go.bits .or .u8 (bt a0 x7_1) 32)) = false := decide_eq_false c22; clear c22
          have H' := Aside0.mk H
          clear H
          have p5 : 0 ≤ (x7_1 : Int) := of_decide_eq_true z32_
          have q5 : x7_1 < (a0.size : Int) := of_decide_eq_true z32_
          have hx5 := bt_at a0 x7_1
          replace p5 := eq_true p5
          replace q5 := eq_true q5
          have p6 : 0 ≤ (x7_1 : Int) := of_decide_eq_true z32_
          have q6 : x7_1 < (a0.size : Int) := of_decide_eq_true z32_
          have hx6 := bt_at a0 x7_1
          replace p6 := eq_true p6
          replace q6 := eq_true q6
          have p16 : 0 ≤ (x7_1 : Int) := of_decide_eq_true z32_
          have q16 : x7_1 < (a0.size : Int) := of_decide_eq_true z32_
          have hx16 := bt_at a0 x7_1
          replace p16 := eq_true p16
          replace q16 := eq_true q16
          go_wp2
          go_roundg k1
          case measure => have := HK1.out; omega
          case rel => exact ⟨(wrap64 (x7_1 + 1)), z29_, H', ⟨z35_⟩, z30_⟩
       ·rw [if_neg c17] at H
        have c17b0 : decide (57 < (bt a0 x7_1)) = false := decide_eq_false c17; clear c17
        have H' := Aside0.mk H
        clear H
        have p5 : 0 ≤ (x7_1 : Int) := of_decide_eq_true z32_
        have q5 : x7_1 < (a0.size : Int) := of_decide_eq_true z32_
        have hx5 := bt_at a0 x7_1
        replace p5 := eq_true p5
        replace q5 := eq_true q5
        have p6 : 0 ≤ (x7_1 : Int) := of_decide_eq_true z32_
        have q6 : x7_1 < (a0.size : Int) := of_decide_eq_true z32_
        have hx6 := bt_at a0 x7_1
        replace p6 := eq_true p6
        replace q6 := eq_true q6
        have p16 : 0 ≤ (x7_1 : Int) := of_decide_eq_true z32_
        have q16 : x7_1 < (a0.size : Int) := of_decide_eq_true z32_
        have hx16 := bt_at a0 x7_1
        replace p16 := eq_true p16
        replace q16 := eq_true q16
        go_wp2
        go_roundg k1
        case measure => have := HK1.out; omega
        case rel => exact ⟨(wrap64 (x7_1 + 1)), z29_, H', ⟨z35_⟩, z30_⟩
     ·rw [if_neg c4] at H
      exact absurd H (by simp)
    ·rw [if_neg c3] at H
     exact absurd H (by simp)
   ·rw [if_neg c2] at H
    have c2b0 : decide (x7_1 < (a0.size : Int)) = false := decide_eq_false c2; clear c2
    obtain rfl := Option.some.inj H
    go_wp2
    go_ret
    exact ⟨z29_, z30_⟩

def safe_sort.f (a0 : ByteArray) : Option (Bool) := (strings_Cut.f a0 (⟨#[59]⟩ : ByteArray)).bind fun bt105 => ((ascii_Trim.f bt105.1).bind fun t108 => ((ascii_Lower.f t108).bind fun t109 => (if t109.toList = ([97, 112, 112, 108, 105, 99, 97, 116, 105, 111, 110, 47, 120, 45, 119, 119, 119, 45, 102, 111, 114, 109, 45, 117, 114, 108, 101, 110, 99, 111, 100, 101, 100] : List UInt8) then (some true) else (if t109.toList = ([109, 117, 108, 116, 105, 112, 97, 114, 116, 47, 102, 111, 114, 109, 45, 100, 97, 116, 97] : List UInt8) then (some true) else (if t109.toList = ([116, 101, 120, 116, 47, 112, 108, 97, 105, 110] : List UInt8) then (some true) else (some false))))))
set_option maxHeartbeats 8000000 in
set_option maxRecDepth 100000 in
theorem safe_sort.calls (a0 : ByteArray) (r : Bool) (w : World) (hG_ : GW w) (h : safe_sort.f a0 = some r) :
  Calls Tryz.prog 62 #[.string a0] w fun e w' => e = .returned (.bool r) ∧ Below w.heap.size w w' := by
 have HB := Aside0.mk (Below.refl w.heap.size w)
 have H : ((strings_Cut.f a0 (⟨#[59]⟩ : ByteArray)).bind fun bt105 => ((ascii_Trim.f bt105.1).bind fun t108 => ((ascii_Lower.f t108).bind fun t109 => (if t109.toList = ([97, 112, 112, 108, 105, 99, 97, 116, 105, 111, 110, 47, 120, 45, 119, 119, 119, 45, 102, 111, 114, 109, 45, 117, 114, 108, 101, 110, 99, 111, 100, 101, 100] : List UInt8) then (some true) else (if t109.toList = ([109, 117, 108, 116, 105, 112, 97, 114, 116, 47, 102, 111, 114, 109, 45, 100, 97, 116, 97] : List UInt8) then (some true) else (if t109.toList = ([116, 101, 120, 116, 47, 112, 108, 97, 105, 110] : List UInt8) then (some true) else (some false))))))) = some r := h
 clear h
 replace H := Option.bind_eq_some_iff.mp H
 obtain ⟨⟨t105, t106, t107⟩, A20, H⟩ := H
 replace H : ((ascii_Trim.f t105).bind fun t108 => ((ascii_Lower.f t108).bind fun t109 => (if t109.toList = ([97, 112, 112, 108, 105, 99, 97, 116, 105, 111, 110, 47, 120, 45, 119, 119, 119, 45, 102, 111, 114, 109, 45, 117, 114, 108, 101, 110, 99, 111, 100, 101, 100] : List UInt8) then (some true) else (if t109.toList = ([109, 117, 108, 116, 105, 112, 97, 114, 116, 47, 102, 111, 114, 109, 45, 100, 97, 116, 97] : List UInt8) then (some true) else (if t109.toList = ([116, 101, 120, 116, 47, 112, 108, 97, 105, 110] : List UInt8) then (some true) else (some false)))))) = some r := H
 have A2 := Aside0.mk A20; clear A20
 replace H := Option.bind_eq_some_iff.mp H
 obtain ⟨t108, A30, H⟩ := H
 replace H : ((ascii_Lower.f t108).bind fun t109 => (if t109.toList = ([97, 112, 112, 108, 105, 99, 97, 116, 105, 111, 110, 47, 120, 45, 119, 119, 119, 45, 102, 111, 114, 109, 45, 117, 114, 108, 101, 110, 99, 111, 100, 101, 100] : List UInt8) then (some true) else (if t109.toList = ([109, 117, 108, 116, 105, 112, 97, 114, 116, 47, 102, 111, 114, 109, 45, 100, 97, 116, 97] : List UInt8) then (some true) else (if t109.toList = ([116, 101, 120, 116, 47, 112, 108, 97, 105, 110] : List UInt8) then (some true) else (some false))))) = some r := H
 have A3 := Aside0.mk A30; clear A30
 replace H := Option.bind_eq_some_iff.mp H
 obtain ⟨t109, A40, H⟩ := H
 replace H : (if t109.toList = ([97, 112, 112, 108, 105, 99, 97, 116, 105, 111, 110, 47, 120, 45, 119, 119, 119, 45, 102, 111, 114, 109, 45, 117, 114, 108, 101, 110, 99, 111, 100, 101, 100] : List UInt8) then (some true) else (if t109.toList = ([109, 117, 108, 116, 105, 112, 97, 114, 116, 47, 102, 111, 114, 109, 45, 100, 97, 116, 97] : List UInt8) then (some true) else (if t109.toList = ([116, 101, 120, 116, 47, 112, 108, 97, 105, 110] : List UInt8) then (some true) else (some false)))) = some r := H
 have A4 := Aside0.mk A40; clear A40
 by_cases c5 : t109.toList = ([97, 112, 112, 108, 105, 99, 97, 116, 105, 111, 110, 47, 120, 45, 119, 119, 119, 45, 102, 111, 114, 109, 45, 117, 114, 108, 101, 110, 99, 111, 100, 101, 100] : List UInt8)
 ·rw [if_pos c5] at H
  have c5b0 : (t109.toList == ([97, 112, 112, 108, 105, 99, 97, 116, 105, 111, 110, 47, 120, 45, 119, 119, 119, 45, 102, 111, 114, 109, 45, 117, 114, 108, 101, 110, 99, 111, 100, 101, 100] : List UInt8)) = true := beq_iff_eq.mpr c5
  have c5b1 : (t109.toList != ([97, 112, 112, 108, 105, 99, 97, 116, 105, 111, 110, 47, 120, 45, 119, 119, 119, 45, 102, 111, 114, 109, 45, 117, 114, 108, 101, 110, 99, 111, 100, 101, 100] : List UInt8)) = false := bne_eq_false_iff_eq.mpr c5
  clear c5
  obtain rfl := Option.some.inj H
  go_enter Tryz.func62, Tryz.ntmps62
  go_wp2_with (first | ((with_reducible refine gate_callee (f := 75) rfl ?_); refine goesL_ (some 5) rfl rfl Tryz.func75 (by kernel_rfl) rfl #[.string a0, .string (⟨#[59]⟩ : ByteArray)] rfl z9_ ?_; (with_reducible refine (strings_Cut.calls a0 (⟨#[59]⟩ : ByteArray) t105 t106 t107 _ ?gw9_ A2.out).mono ?_); (case gw9_ => exact z3_); rintro e w' ⟨rfl, ⟨nd, rfl⟩⟩; refine ⟨_, rfl, ?_⟩) | ((with_reducible refine gate_callee (f := 69) rfl ?_); refine goesL_ (some 10) rfl rfl Tryz.func69 (by kernel_rfl) rfl #[.string t105] rfl z9_ ?_; (with_reducible refine (ascii_Trim.calls t105 t108 _ ?gw10_ A3.out).mono ?_); (case gw10_ => exact z3_); rintro e w6 ⟨rfl, hb⟩; refine ⟨_, rfl, ?_⟩; have n0_ := Aside0.mk (below_step z10_ hb); clear HB; have HB := n0_; clear n0_; (try clear hb); (try clear hb2); (try clear hk); (try clear hi)) | ((with_reducible refine gate_callee (f := 27) rfl ?_); refine goesL_ (some 11) rfl rfl Tryz.func27 (by kernel_rfl) rfl #[.string t108] rfl z9_ ?_; (with_reducible refine (ascii_Lower.calls t108 t109 _ ?gw11_ A4.out).mono ?_); (case gw11_ => exact z3_); rintro e w7 ⟨rfl, hb⟩; refine ⟨_, rfl, ?_⟩; have n0_ := Aside0.mk (below_step z10_ hb); clear HB; have HB := n0_; clear n0_; (try clear hb); (try clear hb2); (try clear hk); (try clear hi)))
  go_ret
  exact ⟨z11_, z10_⟩
 ·rw [if_neg c5] at H
  have c5b0 : (t109.toList == ([97, 112, 112, 108, 105, 99, 97, 116, 105, 111, 110, 47, 120, 45, 119, 119, 119, 45, 102, 111, 114, 109, 45, 117, 114, 108, 101, 110, 99, 111, 100, 101, 100] : List UInt8)) = false := beq_eq_false_iff_ne.mpr c5
  have c5b1 : (t109.toList != ([97, 112, 112, 108, 105, 99, 97, 116, 105, 111, 110, 47, 120, 45, 119, 119, 119, 45, 102, 111, 114, 109, 45, 117, 114, 108, 101, 110, 99, 111, 100, 101, 100] : List UInt8)) = true := bne_iff_ne.mpr c5
  by_cases c8 : t109.toList = ([109, 117, 108, 116, 105, 112, 97, 114, 116, 47, 102, 111, 114, 109, 45, 100, 97, 116, 97] : List UInt8)
  ·rw [if_pos c8] at H
   have c8b0 : (t109.toList == ([109, 117, 108, 116, 105, 112, 97, 114, 116, 47, 102, 111, 114, 109, 45, 100, 97, 116, 97] : List UInt8)) = true := beq_iff_eq.mpr c8
   have c8b1 : (t109.toList != ([109, 117, 108, 116, 105, 112, 97, 114, 116, 47, 102, 111, 114, 109, 45, 100, 97, 116, 97] : List UInt8)) = false := bne_eq_false_iff_eq.mpr c8
   clear c8
   obtain rfl := Option.some.inj H
   go_enter Tryz.func62, Tryz.ntmps62
   go_wp2_with (first | ((with_reducible refine gate_callee (f := 75) rfl ?_); refine goesL_ (some 5) rfl rfl Tryz.func75 (by kernel_rfl) rfl #[.string a0, .string (⟨#[59]⟩ : ByteArray)] rfl z9_ ?_; (with_reducible refine (strings_Cut.calls a0 (⟨#[59]⟩ : ByteArray) t105 t106 t107 _ ?gw12_ A2.out).mono ?_); (case gw12_ => exact z3_); rintro e w' ⟨rfl, ⟨nd, rfl⟩⟩; refine ⟨_, rfl, ?_⟩) | ((with_reducible refine gate_callee (f := 69) rfl ?_); refine goesL_ (some 10) rfl rfl Tryz.func69 (by kernel_rfl) rfl #[.string t105] rfl z9_ ?_; (with_reducible refine (ascii_Trim.calls t105 t108 _ ?gw13_ A3.out).mono ?_); (case gw13_ => exact z3_); rintro e w9 ⟨rfl, hb⟩; refine ⟨_, rfl, ?_⟩; have n0_ := Aside0.mk (below_step z10_ hb); clear HB; have HB := n0_; clear n0_; (try clear hb); (try clear hb2); (try clear hk); (try clear hi)) | ((with_reducible refine gate_callee (f := 27) rfl ?_); refine goesL_ (some 11) rfl rfl Tryz.func27 (by kernel_rfl) rfl #[.string t108] rfl z9_ ?_; (with_reducible refine (ascii_Lower.calls t108 t109 _ ?gw14_ A4.out).mono ?_); (case gw14_ => exact z3_); rintro e w10 ⟨rfl, hb⟩; refine ⟨_, rfl, ?_⟩; have n0_ := Aside0.mk (below_step z10_ hb); clear HB; have HB := n0_; clear n0_; (try clear hb); (try clear hb2); (try clear hk); (try clear hi)))
   go_ret
   exact ⟨z11_, z10_⟩
  ·rw [if_neg c8] at H
   have c8b0 : (t109.toList == ([109, 117, 108, 116, 105, 112, 97, 114, 116, 47, 102, 111, 114, 109, 45, 100, 97, 116, 97] : List UInt8)) = false := beq_eq_false_iff_ne.mpr c8
   have c8b1 : (t109.toList != ([109, 117, 108, 116, 105, 112, 97, 114, 116, 47, 102, 111, 114, 109, 45, 100, 97, 116, 97] : List UInt8)) = true := bne_iff_ne.mpr c8
   by_cases c11 : t109.toList = ([116, 101, 120, 116, 47, 112, 108, 97, 105, 110] : List UInt8)
   ·rw [if_pos c11] at H
    have c11b0 : (t109.toList == ([116, 101, 120, 116, 47, 112, 108, 97, 105, 110] : List UInt8)) = true := beq_iff_eq.mpr c11
    have c11b1 : (t109.toList != ([116, 101, 120, 116, 47, 112, 108, 97, 105, 110] : List UInt8)) = false := bne_eq_false_iff_eq.mpr c11
    clear c11
    obtain rfl := Option.some.inj H
    go_enter Tryz.func62, Tryz.ntmps62
    go_wp2_with (first | ((with_reducible refine gate_callee (f := 75) rfl ?_); refine goesL_ (some 5) rfl rfl Tryz.func75 (by kernel_rfl) rfl #[.string a0, .string (⟨#[59]⟩ : ByteArray)] rfl z9_ ?_; (with_reducible refine (strings_Cut.calls a0 (⟨#[59]⟩ : ByteArray) t105 t106 t107 _ ?gw15_ A2.out).mono ?_); (case gw15_ => exact z3_); rintro e w' ⟨rfl, ⟨nd, rfl⟩⟩; refine ⟨_, rfl, ?_⟩) | ((with_reducible refine gate_callee (f := 69) rfl ?_); refine goesL_ (some 10) rfl rfl Tryz.func69 (by kernel_rfl) rfl #[.string t105] rfl z9_ ?_; (with_reducible refine (ascii_Trim.calls t105 t108 _ ?gw16_ A3.out).mono ?_); (case gw16_ => exact z3_); rintro e w12 ⟨rfl, hb⟩; refine ⟨_, rfl, ?_⟩; have n0_ := Aside0.mk (below_step z10_ hb); clear HB; have HB := n0_; clear n0_; (try clear hb); (try clear hb2); (try clear hk); (try clear hi)) | ((with_reducible refine gate_callee (f := 27) rfl ?_); refine goesL_ (some 11) rfl rfl Tryz.func27 (by kernel_rfl) rfl #[.string t108] rfl z9_ ?_; (with_reducible refine (ascii_Lower.calls t108 t109 _ ?gw17_ A4.out).mono ?_); (case gw17_ => exact z3_); rintro e w13 ⟨rfl, hb⟩; refine ⟨_, rfl, ?_⟩; have n0_ := Aside0.mk (below_step z10_ hb); clear HB; have HB := n0_; clear n0_; (try clear hb); (try clear hb2); (try clear hk); (try clear hi)))
    go_ret
    exact ⟨z11_, z10_⟩
   ·rw [if_neg c11] at H
    have c11b0 : (t109.toList == ([116, 101, 120, 116, 47, 112, 108, 97, 105, 110] : List UInt8)) = false := beq_eq_false_iff_ne.mpr c11
    have c11b1 : (t109.toList != ([116, 101, 120, 116, 47, 112, 108, 97, 105, 110] : List UInt8)) = true := bne_iff_ne.mpr c11
    obtain rfl := Option.some.inj H
    go_enter Tryz.func62, Tryz.ntmps62
    go_wp2_with (first | ((with_reducible refine gate_callee (f := 75) rfl ?_); refine goesL_ (some 5) rfl rfl Tryz.func75 (by kernel_rfl) rfl #[.string a0, .string (⟨#[59]⟩ : ByteArray)] rfl z9_ ?_; (with_reducible refine (strings_Cut.calls a0 (⟨#[59]⟩ : ByteArray) t105 t106 t107 _ ?gw18_ A2.out).mono ?_); (case gw18_ => exact z3_); rintro e w' ⟨rfl, ⟨nd, rfl⟩⟩; refine ⟨_, rfl, ?_⟩) | ((with_reducible refine gate_callee (f := 69) rfl ?_); refine goesL_ (some 10) rfl rfl Tryz.func69 (by kernel_rfl) rfl #[.string t105] rfl z9_ ?_; (with_reducible refine (ascii_Trim.calls t105 t108 _ ?gw19_ A3.out).mono ?_); (case gw19_ => exact z3_); rintro e w14 ⟨rfl, hb⟩; refine ⟨_, rfl, ?_⟩; have n0_ := Aside0.mk (below_step z10_ hb); clear HB; have HB := n0_; clear n0_; (try clear hb); (try clear hb2); (try clear hk); (try clear hi)) | ((with_reducible refine gate_callee (f := 27) rfl ?_); refine goesL_ (some 11) rfl rfl Tryz.func27 (by kernel_rfl) rfl #[.string t108] rfl z9_ ?_; (with_reducible refine (ascii_Lower.calls t108 t109 _ ?gw20_ A4.out).mono ?_); (case gw20_ => exact z3_); rintro e w15 ⟨rfl, hb⟩; refine ⟨_, rfl, ?_⟩; have n0_ := Aside0.mk (below_step z10_ hb); clear HB; have HB := n0_; clear n0_; (try clear hb); (try clear hb2); (try clear hk); (try clear hi)))
    go_ret
    exact ⟨z11_, z10_⟩

def safe_clean.l0 : Nat → ByteArray → Int → Int → Option (Bool)
 | 0, _, _, _ => none
 | k + 1, x0, x5, x6 => if x6 < x5 then (if 0 ≤ x6 then (if x6 < (x0.size : Int) then (if (bt x0 x6) < 32 then (if (bt x0 x6) = 9 then ((strings_IndexByte.f (⟨#[34, 40, 41, 58, 60, 62, 63, 64, 91, 92, 93, 123, 125, 127]⟩ : ByteArray) (bt x0 x6)).bind fun t110 => (if t110 ≥ 0 then (some false) else (safe_clean.l0 k x0 x5 (wrap64 (x6 + 1))))) else (some false)) else ((strings_IndexByte.f (⟨#[34, 40, 41, 58, 60, 62, 63, 64, 91, 92, 93, 123, 125, 127]⟩ : ByteArray) (bt x0 x6)).bind fun t111 => (if t111 ≥ 0 then (some false) else (safe_clean.l0 k x0 x5 (wrap64 (x6 + 1)))))) else (none)) else (none)) else (some true)
def safe_clean.f (k : Nat) (a0 : ByteArray) : Option (Bool) := safe_clean.l0 k a0 (a0.size : Int) 0
set_option maxHeartbeats 8000000 in
set_option maxRecDepth 100000 in
theorem safe_clean.calls (k : Nat) (a0 : ByteArray) (r : Bool) (w : World) (hG_ : GW w) (h : safe_clean.f k a0 = some r) :
  Calls Tryz.prog 63 #[.string a0] w fun e w' => e = .returned (.bool r) ∧ Drawn0 w w' := by
 have H : (safe_clean.l0 k a0 (a0.size : Int) 0) = some r := h
 clear h
 have H' := Aside0.mk H
 clear H
 go_enter Tryz.func63, Tryz.ntmps63
 go_wp2
 go_loopg [6] k (fun kq v6 w' => ∃ (x6_1 : Int), v6 = .int .i64 x6_1 ∧ Aside0 (safe_clean.l0 kq a0 (a0.size : Int) x6_1 = some r) ∧ Aside0 (kq ≤ k) ∧ Drawn0 w w')
 case atStart => exact ⟨(0), z29_, H', ⟨Nat.le_refl _⟩, z30_⟩
 case round =>
  clear H'
  obtain ⟨x6_1, rfl, HA, HK1, ⟨m1, rfl⟩⟩ := hrel
  cases gk with
  | zero => exact absurd HA.out (by simp [safe_clean.l0])
  | succ k1 =>
   have H := HA.out
   clear HA
   simp only [safe_clean.l0] at H
   by_cases c2 : x6_1 < (a0.size : Int)
   ·rw [if_pos c2] at H
    have c2b0 : decide (x6_1 < (a0.size : Int)) = true := decide_eq_true c2; clear c2
    by_cases c3 : 0 ≤ x6_1
    ·rw [if_pos c3] at H
     have c3b0 : decide (0 ≤ x6_1) = true := decide_eq_true c3; clear c3
     by_cases c4 : x6_1 < (a0.size : Int)
     ·rw [if_pos c4] at H
      have c4b0 : decide (x6_1 < (a0.size : Int)) = true := decide_eq_true c4; clear c4
      by_cases c6 : (bt a0 x6_1) < 32
      ·rw [if_pos c6] at H
       have c6b0 : decide ((bt a0 x6_1) < 32) = true := decide_eq_true c6; clear c6
       by_cases c8 : (bt a0 x6_1) = 9
       ·rw [if_pos c8] at H
        have c8b0 : ((bt a0 x6_1) == 9) = true := beq_iff_eq.mpr c8
        have c8b1 : ((bt a0 x6_1) != 9) = false := bne_eq_false_iff_eq.mpr c8
        clear c8
        replace H := Option.bind_eq_some_iff.mp H
        obtain ⟨t110, A100, H⟩ := H
        replace H : (if t110 ≥ 0 then (some false) else (safe_clean.l0 k1 a0 (a0.size : Int) (wrap64 (x6_1 + 1)))) = some r := H
        have A10 := Aside0.mk A100; clear A100
        by_cases c11 : t110 ≥ 0
        ·rw [if_pos c11] at H
         have c11b0 : decide (0 ≤ t110) = true := decide_eq_true c11; clear c11
         obtain rfl := Option.some.inj H
         have p5 : 0 ≤ (x6_1 : Int) := of_decide_eq_true z32_
         have q5 : x6_1 < (a0.size : Int) := of_decide_eq_true z32_
         have hx5 := bt_at a0 x6_1
         replace p5 := eq_true p5
         replace q5 := eq_true q5
         have p7 : 0 ≤ (x6_1 : Int) := of_decide_eq_true z32_
         have q7 : x6_1 < (a0.size : Int) := of_decide_eq_true z32_
         have hx7 := bt_at a0 x6_1
         replace p7 := eq_true p7
         replace q7 := eq_true q7
         have p9 : 0 ≤ (x6_1 : Int) := of_decide_eq_true z32_
         have q9 : x6_1 < (a0.size : Int) := of_decide_eq_true z32_
         have hx9 := bt_at a0 x6_1
         replace p9 := eq_true p9
         replace q9 := eq_true q9
         go_wp2_with (first | (go_at_call 74; (fail_if_success (have z_ := U_9)); have U_9 := trivial; (with_reducible refine (strings_IndexByte.calls (⟨#[34, 40, 41, 58, 60, 62, 63, 64, 91, 92, 93, 123, 125, 127]⟩ : ByteArray) (bt a0 x6_1) t110 _ ?gw21_ A10.out).mono ?_); (case gw21_ => exact z3_); rintro e w' ⟨rfl, ⟨nd, rfl⟩⟩))
         go_ret
         exact ⟨z29_, z30_⟩
        ·rw [if_neg c11] at H
         have c11b0 : decide (0 ≤ t110) = false := decide_eq_false c11; clear c11
         have H' := Aside0.mk H
         clear H
         have p5 : 0 ≤ (x6_1 : Int) := of_decide_eq_true z32_
         have q5 : x6_1 < (a0.size : Int) := of_decide_eq_true z32_
         have hx5 := bt_at a0 x6_1
         replace p5 := eq_true p5
         replace q5 := eq_true q5
         have p7 : 0 ≤ (x6_1 : Int) := of_decide_eq_true z32_
         have q7 : x6_1 < (a0.size : Int) := of_decide_eq_true z32_
         have hx7 := bt_at a0 x6_1
         replace p7 := eq_true p7
         replace q7 := eq_true q7
         have p9 : 0 ≤ (x6_1 : Int) := of_decide_eq_true z32_
         have q9 : x6_1 < (a0.size : Int) := of_decide_eq_true z32_
         have hx9 := bt_at a0 x6_1
         replace p9 := eq_true p9
         replace q9 := eq_true q9
         go_wp2_with (first | (go_at_call 74; (fail_if_success (have z_ := U_10)); have U_10 := trivial; (with_reducible refine (strings_IndexByte.calls (⟨#[34, 40, 41, 58, 60, 62, 63, 64, 91, 92, 93, 123, 125, 127]⟩ : ByteArray) (bt a0 x6_1) t110 _ ?gw22_ A10.out).mono ?_); (case gw22_ => exact z3_); rintro e w' ⟨rfl, ⟨nd, rfl⟩⟩))
         go_roundg k1
         case measure => have := HK1.out; omega
         case rel => exact ⟨(wrap64 (x6_1 + 1)), z29_, H', ⟨z35_⟩, z30_⟩
       ·rw [if_neg c8] at H
        have c8b0 : ((bt a0 x6_1) == 9) = false := beq_eq_false_iff_ne.mpr c8
        have c8b1 : ((bt a0 x6_1) != 9) = true := bne_iff_ne.mpr c8
        obtain rfl := Option.some.inj H
        have p5 : 0 ≤ (x6_1 : Int) := of_decide_eq_true z32_
        have q5 : x6_1 < (a0.size : Int) := of_decide_eq_true z32_
        have hx5 := bt_at a0 x6_1
        replace p5 := eq_true p5
        replace q5 := eq_true q5
        have p7 : 0 ≤ (x6_1 : Int) := of_decide_eq_true z32_
        have q7 : x6_1 < (a0.size : Int) := of_decide_eq_true z32_
        have hx7 := bt_at a0 x6_1
        replace p7 := eq_true p7
        replace q7 := eq_true q7
        go_wp2
        go_ret
        exact ⟨z29_, z30_⟩
      ·rw [if_neg c6] at H
       have c6b0 : decide ((bt a0 x6_1) < 32) = false := decide_eq_false c6; clear c6
       replace H := Option.bind_eq_some_iff.mp H
       obtain ⟨t111, A130, H⟩ := H
       replace H : (if t111 ≥ 0 then (some false) else (safe_clean.l0 k1 a0 (a0.size : Int) (wrap64 (x6_1 + 1)))) = some r := H
       have A13 := Aside0.mk A130; clear A130
       by_cases c14 : t111 ≥ 0
       ·rw [if_pos c14] at H
        have c14b0 : decide (0 ≤ t111) = true := decide_eq_true c14; clear c14
        obtain rfl := Option.some.inj H
        have p5 : 0 ≤ (x6_1 : Int) := of_decide_eq_true z32_
        have q5 : x6_1 < (a0.size : Int) := of_decide_eq_true z32_
        have hx5 := bt_at a0 x6_1
        replace p5 := eq_true p5
        replace q5 := eq_true q5
        have p12 : 0 ≤ (x6_1 : Int) := of_decide_eq_true z32_
        have q12 : x6_1 < (a0.size : Int) := of_decide_eq_true z32_
        have hx12 := bt_at a0 x6_1
        replace p12 := eq_true p12
        replace q12 := eq_true q12
        go_wp2_with (first | (go_at_call 74; (fail_if_success (have z_ := U_11)); have U_11 := trivial; (with_reducible refine (strings_IndexByte.calls (⟨#[34, 40, 41, 58, 60, 62, 63, 64, 91, 92, 93, 123, 125, 127]⟩ : ByteArray) (bt a0 x6_1) t111 _ ?gw23_ A13.out).mono ?_); (case gw23_ => exact z3_); rintro e w' ⟨rfl, ⟨nd, rfl⟩⟩))
        go_ret
        exact ⟨z29_, z30_⟩
       ·rw [if_neg c14] at H
        have c14b0 : decide (0 ≤ t111) = false := decide_eq_false c14; clear c14
        have H' := Aside0.mk H
        clear H
        have p5 : 0 ≤ (x6_1 : Int) := of_decide_eq_true z32_
        have q5 : x6_1 < (a0.size : Int) := of_decide_eq_true z32_
        have hx5 := bt_at a0 x6_1
        replace p5 := eq_true p5
        replace q5 := eq_true q5
        have p12 : 0 ≤ (x6_1 : Int) := of_decide_eq_true z32_
        have q12 : x6_1 < (a0.size : Int) := of_decide_eq_true z32_
        have hx12 := bt_at a0 x6_1
        replace p12 := eq_true p12
        replace q12 := eq_true q12
        go_wp2_with (first | (go_at_call 74; (fail_if_success (have z_ := U_12)); have U_12 := trivial; (with_reducible refine (strings_IndexByte.calls (⟨#[34, 40, 41, 58, 60, 62, 63, 64, 91, 92, 93, 123, 125, 127]⟩ : ByteArray) (bt a0 x6_1) t111 _ ?gw24_ A13.out).mono ?_); (case gw24_ => exact z3_); rintro e w' ⟨rfl, ⟨nd, rfl⟩⟩))
        go_roundg k1
        case measure => have := HK1.out; omega
        case rel => exact ⟨(wrap64 (x6_1 + 1)), z29_, H', ⟨z35_⟩, z30_⟩
     ·rw [if_neg c4] at H
      exact absurd H (by simp)
    ·rw [if_neg c3] at H
     exact absurd H (by simp)
   ·rw [if_neg c2] at H
    have c2b0 : decide (x6_1 < (a0.size : Int)) = false := decide_eq_false c2; clear c2
    obtain rfl := Option.some.inj H
    go_wp2
    go_ret
    exact ⟨z29_, z30_⟩

def safe_Header.j0 : Nat → ByteArray → Bool → ByteArray → ByteArray → Option (Bool)
 | 0, _, _, _, _ => none
 | k + 1, x9, x10, x113000, x113001 => if x10 = true then ((safe_language.f k x113001).bind fun t114 => (some t114)) else (if x9.toList = ([99, 111, 110, 116, 101, 110, 116, 45, 116, 121, 112, 101] : List UInt8) then ((safe_sort.f x113001).bind fun t116 => (if t116 = true then ((safe_clean.f k x113001).bind fun t117 => (some t117)) else (some false))) else (if x9.toList = ([97, 99, 99, 101, 112, 116] : List UInt8) then ((safe_clean.f k x113001).bind fun t115 => (some t115)) else (some false)))
def safe_Header.f (k : Nat) (a0_0 a0_1 : ByteArray) : Option (Bool) := if (a0_1.size : Int) > 128 then (some false) else ((ascii_Lower.f a0_0).bind fun t113 => (if t113.toList = ([97, 99, 99, 101, 112, 116, 45, 108, 97, 110, 103, 117, 97, 103, 101] : List UInt8) then (safe_Header.j0 k t113 (t113.toList == ([97, 99, 99, 101, 112, 116, 45, 108, 97, 110, 103, 117, 97, 103, 101] : List UInt8)) a0_0 a0_1) else (safe_Header.j0 k t113 (t113.toList == ([99, 111, 110, 116, 101, 110, 116, 45, 108, 97, 110, 103, 117, 97, 103, 101] : List UInt8)) a0_0 a0_1)))
set_option maxHeartbeats 8000000 in
set_option maxRecDepth 100000 in
theorem safe_Header.calls (k : Nat) (a0_0 a0_1 : ByteArray) (r : Bool) (w : World) (hG_ : GW w) (h : safe_Header.f k a0_0 a0_1 = some r) :
  Calls Tryz.prog 41 #[.agg #[.string a0_0, .string a0_1]] w fun e w' => e = .returned (.bool r) ∧ Below w.heap.size w w' := by
 have hu45 := Tryz.underlying45
 have HB := Aside0.mk (Below.refl w.heap.size w)
 have H : (if (a0_1.size : Int) > 128 then (some false) else ((ascii_Lower.f a0_0).bind fun t113 => (if t113.toList = ([97, 99, 99, 101, 112, 116, 45, 108, 97, 110, 103, 117, 97, 103, 101] : List UInt8) then (safe_Header.j0 k t113 (t113.toList == ([97, 99, 99, 101, 112, 116, 45, 108, 97, 110, 103, 117, 97, 103, 101] : List UInt8)) a0_0 a0_1) else (safe_Header.j0 k t113 (t113.toList == ([99, 111, 110, 116, 101, 110, 116, 45, 108, 97, 110, 103, 117, 97, 103, 101] : List UInt8)) a0_0 a0_1)))) = some r := h
 clear h
 by_cases c2 : (a0_1.size : Int) > 128
 ·rw [if_pos c2] at H
  have c2b0 : decide (128 < (a0_1.size : Int)) = true := decide_eq_true c2
  have c2b1 : decide (128 < a0_1.size) = true := decide_eq_true (by omega)
  clear c2
  obtain rfl := Option.some.inj H
  go_enter Tryz.func41, Tryz.ntmps41
  go_wp2_with (first | ((with_reducible refine gate_dst (N := 1) rfl ?_); refine box_event ?hg (N := 1) ?hd (cs := #[.string a0_0, .string a0_1]) (t := 45) ?hr ?_; (case hd => rfl); (case hg => rfl); (case hr => first | (go_simp; done) | (go_simp; rfl)); intro gb112 hg w3 hbox hb; have n0_ := Aside0.mk (below_step z10_ hb); have n1_ := Aside0.mk (hbox); have n2_ := Aside0.mk ((by rw [hg]; exact (below_size z10_) : w.heap.size ≤ gb112)); have n3_ := Aside0.mk ((by rw [hg]; exact (below_size z10_) : w.heap.size ≤ gb112)); clear HB; have HB := n0_; have BK112 := n1_; have GW112 := n2_; have GE112 := n3_; clear n0_ n1_ n2_ n3_; clear hb hbox hg; have hcz4_0 : w3.cell? ⟨gb112, 0, none⟩ = some (.string a0_0) := (blk_cell BK112.out 0).trans rfl; have hcz4_1 : w3.cell? ⟨gb112, 1, none⟩ = some (.string a0_1) := (blk_cell BK112.out 1).trans rfl; have hfz4_0 := blk_frozen BK112.out 0; have hfz4_1 := blk_frozen BK112.out 1))
  go_ret
  exact ⟨z11_, z6_⟩
 ·rw [if_neg c2] at H
  have c2b0 : decide (128 < (a0_1.size : Int)) = false := decide_eq_false c2
  have c2b1 : decide (128 < a0_1.size) = false := decide_eq_false (by omega)
  clear c2
  replace H := Option.bind_eq_some_iff.mp H
  obtain ⟨t113, A50, H⟩ := H
  replace H : (if t113.toList = ([97, 99, 99, 101, 112, 116, 45, 108, 97, 110, 103, 117, 97, 103, 101] : List UInt8) then (safe_Header.j0 k t113 (t113.toList == ([97, 99, 99, 101, 112, 116, 45, 108, 97, 110, 103, 117, 97, 103, 101] : List UInt8)) a0_0 a0_1) else (safe_Header.j0 k t113 (t113.toList == ([99, 111, 110, 116, 101, 110, 116, 45, 108, 97, 110, 103, 117, 97, 103, 101] : List UInt8)) a0_0 a0_1)) = some r := H
  have A5 := Aside0.mk A50; clear A50; have HC6 := Aside0.mk H; clear H
  go_enter Tryz.func41, Tryz.ntmps41
  go_upto_if 10 with (first | ((with_reducible refine gate_dst (N := 1) rfl ?_); refine box_event ?hg (N := 1) ?hd (cs := #[.string a0_0, .string a0_1]) (t := 45) ?hr ?_; (case hd => rfl); (case hg => rfl); (case hr => first | (go_simp; done) | (go_simp; rfl)); intro gb112 hg w7 hbox hb; have n0_ := Aside0.mk (below_step z10_ hb); have n1_ := Aside0.mk (hbox); have n2_ := Aside0.mk ((by rw [hg]; exact (below_size z10_) : w.heap.size ≤ gb112)); have n3_ := Aside0.mk ((by rw [hg]; exact (below_size z10_) : w.heap.size ≤ gb112)); clear HB; have HB := n0_; have BK112 := n1_; have GW112 := n2_; have GE112 := n3_; clear n0_ n1_ n2_ n3_; clear hb hbox hg; have hcz8_0 : w7.cell? ⟨gb112, 0, none⟩ = some (.string a0_0) := (blk_cell BK112.out 0).trans rfl; have hcz8_1 : w7.cell? ⟨gb112, 1, none⟩ = some (.string a0_1) := (blk_cell BK112.out 1).trans rfl; have hfz8_0 := blk_frozen BK112.out 0; have hfz8_1 := blk_frozen BK112.out 1) | ((with_reducible refine gate_callee (f := 27) rfl ?_); refine goesL_ (some 9) rfl rfl Tryz.func27 (by kernel_rfl) rfl #[.string a0_0] rfl z9_ ?_; (with_reducible refine (ascii_Lower.calls a0_0 t113 _ ?gw25_ A5.out).mono ?_); (case gw25_ => exact z1_); rintro e w9 ⟨rfl, hb⟩; refine ⟨_, rfl, ?_⟩; have n0_ := Aside0.mk (blk_below (g := gb112) (o := .cells #[.string a0_0, .string a0_1] 45 (0, 0)) z13_ hb); have n1_ := Aside0.mk (below_step z6_ hb); clear BK112; clear HB; have BK112 := n0_; have HB := n1_; clear n0_ n1_; (try clear hb); (try clear hb2); (try clear hk); (try clear hi)))
  (try simp only [Act.put, List.setIfInBounds_toArray, List.set_cons_zero, List.set_cons_succ])
  go_cut [10] (fun v10 wc => ∃ (kq : Nat) (x10_5 : Bool), v10 = .bool x10_5 ∧ Aside0 (safe_Header.j0 kq t113 x10_5 a0_0 a0_1 = some r) ∧ Aside0 (kq ≤ k) ∧ Aside0 (wc.heap[gb112]? = some (.cells #[.string a0_0, .string a0_1] 45 (0, 0))) ∧ Aside0 (Below w.heap.size w wc))
  case first =>
   have H := HC6.out
   clear HC6
   by_cases c10 : t113.toList = ([97, 99, 99, 101, 112, 116, 45, 108, 97, 110, 103, 117, 97, 103, 101] : List UInt8)
   ·rw [if_pos c10] at H
    have c10b0 : (t113.toList == ([97, 99, 99, 101, 112, 116, 45, 108, 97, 110, 103, 117, 97, 103, 101] : List UInt8)) = true := beq_iff_eq.mpr c10
    have c10b1 : (t113.toList != ([97, 99, 99, 101, 112, 116, 45, 108, 97, 110, 103, 117, 97, 103, 101] : List UInt8)) = false := bne_eq_false_iff_eq.mpr c10
    clear c10
    (first | rw [c10b0] | (simp only [i64_w, i32_w]; rw [c10b0]) | skip)
    have H' := Aside0.mk H
    clear H; go_wp2; go_meet
    case rel => exact ⟨_, ((t113.toList == ([97, 99, 99, 101, 112, 116, 45, 108, 97, 110, 103, 117, 97, 103, 101] : List UInt8))), z29_, H', ⟨z33_⟩, ⟨z13_⟩, ⟨z6_⟩⟩
   ·rw [if_neg c10] at H
    have c10b0 : (t113.toList == ([97, 99, 99, 101, 112, 116, 45, 108, 97, 110, 103, 117, 97, 103, 101] : List UInt8)) = false := beq_eq_false_iff_ne.mpr c10
    have c10b1 : (t113.toList != ([97, 99, 99, 101, 112, 116, 45, 108, 97, 110, 103, 117, 97, 103, 101] : List UInt8)) = true := bne_iff_ne.mpr c10
    (first | rw [c10b0] | (simp only [i64_w, i32_w]; rw [c10b0]) | skip)
    have H' := Aside0.mk H
    clear H; go_wp2; go_meet
    case rel => exact ⟨_, ((t113.toList == ([99, 111, 110, 116, 101, 110, 116, 45, 108, 97, 110, 103, 117, 97, 103, 101] : List UInt8))), z29_, H', ⟨z33_⟩, ⟨z13_⟩, ⟨z6_⟩⟩
  case rest =>
   clear HC6; (try clear c2); (try clear c2b0); (try clear c2b1); (try clear hcz8_0 hcz8_1); (try clear hfz8_0 hfz8_1)
   obtain ⟨kq, x10_5, rfl, HA, HJ5, BK112, HB⟩ := hcut
   cases kq with
   | zero => exact absurd HA.out (by simp [safe_Header.j0])
   | succ kj5 =>
    have H := HA.out
    clear HA
    simp only [safe_Header.j0] at H
    by_cases c11 : x10_5 = true
    ·subst c11
     have H1 : ((safe_language.f kj5 a0_1).bind fun t114 => (some t114)) = some r := by rw [if_pos rfl] at H; exact H
     clear H
     have H := H1
     clear H1
     replace H := Option.bind_eq_some_iff.mp H
     obtain ⟨t114, A120, H⟩ := H
     replace H : (some t114) = some r := H
     have A12 := Aside0.mk A120; clear A120
     obtain rfl := Option.some.inj H
     obtain ⟨hcz13_0, hcz13_1⟩ := blkc2_ BK112.out; obtain ⟨hfz13_0, hfz13_1⟩ := blkf2_ BK112.out
     go_wp2_with (first | ((with_reducible refine gate_callee (f := 61) rfl ?_); refine goesL_ (some 19) rfl rfl Tryz.func61 (by kernel_rfl) rfl #[.string a0_1] rfl z9_ ?_; (with_reducible refine (safe_language.calls kj5 a0_1 t114 _ ?gw26_ A12.out).mono ?_); (case gw26_ => exact z1_); rintro e w' ⟨rfl, ⟨nd, rfl⟩⟩; refine ⟨_, rfl, ?_⟩))
     go_ret
     exact ⟨z11_, z6_⟩
    ·replace c11 := Bool.eq_false_iff.mpr c11
     subst c11
     have H1 : (if t113.toList = ([99, 111, 110, 116, 101, 110, 116, 45, 116, 121, 112, 101] : List UInt8) then ((safe_sort.f a0_1).bind fun t116 => (if t116 = true then ((safe_clean.f kj5 a0_1).bind fun t117 => (some t117)) else (some false))) else (if t113.toList = ([97, 99, 99, 101, 112, 116] : List UInt8) then ((safe_clean.f kj5 a0_1).bind fun t115 => (some t115)) else (some false))) = some r := by rw [if_neg (show ¬ (false = true) by decide)] at H; exact H
     clear H
     have H := H1
     clear H1
     by_cases c14 : t113.toList = ([99, 111, 110, 116, 101, 110, 116, 45, 116, 121, 112, 101] : List UInt8)
     ·rw [if_pos c14] at H
      have c14b0 : (t113.toList == ([99, 111, 110, 116, 101, 110, 116, 45, 116, 121, 112, 101] : List UInt8)) = true := beq_iff_eq.mpr c14
      have c14b1 : (t113.toList != ([99, 111, 110, 116, 101, 110, 116, 45, 116, 121, 112, 101] : List UInt8)) = false := bne_eq_false_iff_eq.mpr c14
      clear c14
      replace H := Option.bind_eq_some_iff.mp H
      obtain ⟨t116, A150, H⟩ := H
      replace H : (if t116 = true then ((safe_clean.f kj5 a0_1).bind fun t117 => (some t117)) else (some false)) = some r := H
      have A15 := Aside0.mk A150; clear A150
      by_cases c16 : t116 = true
      ·subst c16
       have H1 : ((safe_clean.f kj5 a0_1).bind fun t117 => (some t117)) = some r := by rw [if_pos rfl] at H; exact H
       clear H
       have H := H1
       clear H1
       replace H := Option.bind_eq_some_iff.mp H
       obtain ⟨t117, A170, H⟩ := H
       replace H : (some t117) = some r := H
       have A17 := Aside0.mk A170; clear A170
       obtain rfl := Option.some.inj H
       obtain ⟨hcz18_0, hcz18_1⟩ := blkc2_ BK112.out; obtain ⟨hfz18_0, hfz18_1⟩ := blkf2_ BK112.out
       go_wp2_with (first | ((with_reducible refine gate_callee (f := 62) rfl ?_); refine goesL_ (some 22) rfl rfl Tryz.func62 (by kernel_rfl) rfl #[.string a0_1] rfl z9_ ?_; (with_reducible refine (safe_sort.calls a0_1 true _ ?gw27_ A15.out).mono ?_); (case gw27_ => exact z1_); rintro e w19 ⟨rfl, hb⟩; refine ⟨_, rfl, ?_⟩; have n0_ := Aside0.mk (blk_below (g := gb112) (o := .cells #[.string a0_0, .string a0_1] 45 (0, 0)) z13_ hb); have n1_ := Aside0.mk (below_step z6_ hb); clear BK112; clear HB; have BK112 := n0_; have HB := n1_; clear n0_ n1_; (try clear hb); (try clear hb2); (try clear hk); (try clear hi); have hcz20_0 : w19.cell? ⟨gb112, 0, none⟩ = some (.string a0_0) := (blk_cell BK112.out 0).trans rfl; have hcz20_1 : w19.cell? ⟨gb112, 1, none⟩ = some (.string a0_1) := (blk_cell BK112.out 1).trans rfl; have hfz20_0 := blk_frozen BK112.out 0; have hfz20_1 := blk_frozen BK112.out 1) | ((with_reducible refine gate_callee (f := 63) rfl ?_); refine goesL_ (some 26) rfl rfl Tryz.func63 (by kernel_rfl) rfl #[.string a0_1] rfl z9_ ?_; (with_reducible refine (safe_clean.calls kj5 a0_1 t117 _ ?gw28_ A17.out).mono ?_); (case gw28_ => exact z1_); rintro e w' ⟨rfl, ⟨nd, rfl⟩⟩; refine ⟨_, rfl, ?_⟩))
       go_ret
       exact ⟨z11_, z6_⟩
      ·replace c16 := Bool.eq_false_iff.mpr c16
       subst c16
       have H1 : (some false) = some r := by rw [if_neg (show ¬ (false = true) by decide)] at H; exact H
       clear H
       have H := H1
       clear H1
       obtain rfl := Option.some.inj H
       obtain ⟨hcz21_0, hcz21_1⟩ := blkc2_ BK112.out; obtain ⟨hfz21_0, hfz21_1⟩ := blkf2_ BK112.out
       go_wp2_with (first | ((with_reducible refine gate_callee (f := 62) rfl ?_); refine goesL_ (some 22) rfl rfl Tryz.func62 (by kernel_rfl) rfl #[.string a0_1] rfl z9_ ?_; (with_reducible refine (safe_sort.calls a0_1 false _ ?gw29_ A15.out).mono ?_); (case gw29_ => exact z1_); rintro e w22 ⟨rfl, hb⟩; refine ⟨_, rfl, ?_⟩; have n0_ := Aside0.mk (blk_below (g := gb112) (o := .cells #[.string a0_0, .string a0_1] 45 (0, 0)) z13_ hb); have n1_ := Aside0.mk (below_step z6_ hb); clear BK112; clear HB; have BK112 := n0_; have HB := n1_; clear n0_ n1_; (try clear hb); (try clear hb2); (try clear hk); (try clear hi)))
       go_ret
       exact ⟨z11_, z6_⟩
     ·rw [if_neg c14] at H
      have c14b0 : (t113.toList == ([99, 111, 110, 116, 101, 110, 116, 45, 116, 121, 112, 101] : List UInt8)) = false := beq_eq_false_iff_ne.mpr c14
      have c14b1 : (t113.toList != ([99, 111, 110, 116, 101, 110, 116, 45, 116, 121, 112, 101] : List UInt8)) = true := bne_iff_ne.mpr c14
      by_cases c23 : t113.toList = ([97, 99, 99, 101, 112, 116] : List UInt8)
      ·rw [if_pos c23] at H
       have c23b0 : (t113.toList == ([97, 99, 99, 101, 112, 116] : List UInt8)) = true := beq_iff_eq.mpr c23
       have c23b1 : (t113.toList != ([97, 99, 99, 101, 112, 116] : List UInt8)) = false := bne_eq_false_iff_eq.mpr c23
       clear c23
       replace H := Option.bind_eq_some_iff.mp H
       obtain ⟨t115, A240, H⟩ := H
       replace H : (some t115) = some r := H
       have A24 := Aside0.mk A240; clear A240
       obtain rfl := Option.some.inj H
       obtain ⟨hcz25_0, hcz25_1⟩ := blkc2_ BK112.out; obtain ⟨hfz25_0, hfz25_1⟩ := blkf2_ BK112.out
       go_wp2_with (first | ((with_reducible refine gate_callee (f := 63) rfl ?_); refine goesL_ (some 26) rfl rfl Tryz.func63 (by kernel_rfl) rfl #[.string a0_1] rfl z9_ ?_; (with_reducible refine (safe_clean.calls kj5 a0_1 t115 _ ?gw30_ A24.out).mono ?_); (case gw30_ => exact z1_); rintro e w' ⟨rfl, ⟨nd, rfl⟩⟩; refine ⟨_, rfl, ?_⟩))
       go_ret
       exact ⟨z11_, z6_⟩
      ·rw [if_neg c23] at H
       have c23b0 : (t113.toList == ([97, 99, 99, 101, 112, 116] : List UInt8)) = false := beq_eq_false_iff_ne.mpr c23
       have c23b1 : (t113.toList != ([97, 99, 99, 101, 112, 116] : List UInt8)) = true := bne_iff_ne.mpr c23
       obtain rfl := Option.some.inj H
       go_wp2
       go_ret
       exact ⟨z11_, z6_⟩

def pursuivantref10_among.l0 : Nat → ByteArray → List ByteArray → Int → Option (Bool)
 | 0, _, _, _ => none
 | k + 1, x0, x1, x5 => if x5 < (x1.length : Int) then (if 0 ≤ x5 then (if (rdOf ByteArray.empty x1 x5).toList = x0.toList then (some true) else (pursuivantref10_among.l0 k x0 x1 (wrap64 (x5 + 1)))) else (none)) else (some false)
def pursuivantref10_among.f (k : Nat) (a0 : ByteArray) (l1 : List ByteArray) : Option (Bool) := pursuivantref10_among.l0 k a0 l1 0
set_option maxHeartbeats 8000000 in
set_option maxRecDepth 100000 in
theorem pursuivantref10_among.calls (k : Nat) (a0 : ByteArray) (A1 : Option Addr) (c1 : Nat) (l1 : List ByteArray) (r : Bool) (w : World) (hG_ : GW w) (hr1 : Kd.C Kd.string w A1 l1.length l1) (hc1 : l1.length ≤ c1) (h : pursuivantref10_among.f k a0 l1 = some r) :
  Calls Tryz.prog 40 #[.string a0, .slice A1 l1.length c1] w fun e w' => e = .returned (.bool r) ∧ Drawn0 w w' := by
 have HR1 := Aside0.mk hr1; have HC1 := Aside0.mk hc1; clear hr1 hc1
 have H : (pursuivantref10_among.l0 k a0 l1 0) = some r := h
 clear h
 have H' := Aside0.mk H
 clear H
 go_enter Tryz.func40, Tryz.ntmps40
 go_wp2
 go_loopg [5] k (fun kq v5 w' => ∃ (x5_1 : Int), v5 = .int .i64 x5_1 ∧ Aside0 (pursuivantref10_among.l0 kq a0 l1 x5_1 = some r) ∧ Aside0 (kq ≤ k) ∧ Drawn0 w w')
 case atStart => exact ⟨(0), z29_, H', ⟨Nat.le_refl _⟩, z30_⟩
 case round =>
  clear H'; (try clear c1)
  obtain ⟨x5_1, rfl, HA, HK1, ⟨m1, rfl⟩⟩ := hrel
  cases gk with
  | zero => exact absurd HA.out (by simp [pursuivantref10_among.l0])
  | succ k1 =>
   have H := HA.out
   clear HA
   simp only [pursuivantref10_among.l0] at H
   by_cases c3 : x5_1 < (l1.length : Int)
   ·rw [if_pos c3] at H
    have c3b0 : decide (x5_1 < (l1.length : Int)) = true := decide_eq_true c3; clear c3
    by_cases c4 : 0 ≤ x5_1
    ·rw [if_pos c4] at H
     have c4b0 : decide (0 ≤ x5_1) = true := decide_eq_true c4; clear c4
     by_cases c5 : (rdOf ByteArray.empty l1 x5_1).toList = a0.toList
     ·rw [if_pos c5] at H
      have c5b0 : ((rdOf ByteArray.empty l1 x5_1).toList == a0.toList) = true := beq_iff_eq.mpr c5
      have c5b1 : ((rdOf ByteArray.empty l1 x5_1).toList != a0.toList) = false := bne_eq_false_iff_eq.mpr c5
      clear c5
      obtain rfl := Option.some.inj H
      have p118 : 0 ≤ (x5_1 : Int) := of_decide_eq_true z32_
      have q118 : x5_1 < (l1.length : Int) := of_decide_eq_true z32_
      obtain ⟨ad118, e118, hx118_0⟩ := Kd.at_string HR1.out x5_1 p118 q118
      cases e118
      replace p118 := eq_true p118
      replace q118 := eq_true q118
      go_wp2
      go_ret
      exact ⟨z29_, z30_⟩
     ·rw [if_neg c5] at H
      have c5b0 : ((rdOf ByteArray.empty l1 x5_1).toList == a0.toList) = false := beq_eq_false_iff_ne.mpr c5
      have c5b1 : ((rdOf ByteArray.empty l1 x5_1).toList != a0.toList) = true := bne_iff_ne.mpr c5
      have H' := Aside0.mk H
      clear H
      have p118 : 0 ≤ (x5_1 : Int) := of_decide_eq_true z32_
      have q118 : x5_1 < (l1.length : Int) := of_decide_eq_true z32_
      obtain ⟨ad118, e118, hx118_0⟩ := Kd.at_string HR1.out x5_1 p118 q118
      cases e118
      replace p118 := eq_true p118
      replace q118 := eq_true q118
      go_wp2
      go_roundg k1
      case measure => have := HK1.out; omega
      case rel => exact ⟨(wrap64 (x5_1 + 1)), z29_, H', ⟨z35_⟩, z30_⟩
    ·rw [if_neg c4] at H
     exact absurd H (by simp)
   ·rw [if_neg c3] at H
    have c3b0 : decide (x5_1 < (l1.length : Int)) = false := decide_eq_false c3; clear c3
    obtain rfl := Option.some.inj H
    go_wp2
    go_ret
    exact ⟨z29_, z30_⟩

def pursuivantref10_language.f (a0 : Int) : Option (Bool) := if a0 ≥ 48 then (if a0 ≤ 57 then (some true) else (if a0 ≥ 65 then (if a0 ≤ 90 then (some true) else (if a0 ≥ 97 then (if a0 ≤ 122 then (some true) else (if a0 = 32 then (some true) else (if a0 = 42 then (some true) else (if a0 = 44 then (some true) else (if a0 = 45 then (some true) else (if a0 = 46 then (some true) else (if a0 = 59 then (some true) else (some (a0 == 61))))))))) else (if a0 = 32 then (some true) else (if a0 = 42 then (some true) else (if a0 = 44 then (some true) else (if a0 = 45 then (some true) else (if a0 = 46 then (some true) else (if a0 = 59 then (some true) else (some (a0 == 61)))))))))) else (if a0 ≥ 97 then (if a0 ≤ 122 then (some true) else (if a0 = 32 then (some true) else (if a0 = 42 then (some true) else (if a0 = 44 then (some true) else (if a0 = 45 then (some true) else (if a0 = 46 then (some true) else (if a0 = 59 then (some true) else (some (a0 == 61))))))))) else (if a0 = 32 then (some true) else (if a0 = 42 then (some true) else (if a0 = 44 then (some true) else (if a0 = 45 then (some true) else (if a0 = 46 then (some true) else (if a0 = 59 then (some true) else (some (a0 == 61))))))))))) else (if a0 ≥ 65 then (if a0 ≤ 90 then (some true) else (if a0 ≥ 97 then (if a0 ≤ 122 then (some true) else (if a0 = 32 then (some true) else (if a0 = 42 then (some true) else (if a0 = 44 then (some true) else (if a0 = 45 then (some true) else (if a0 = 46 then (some true) else (if a0 = 59 then (some true) else (some (a0 == 61))))))))) else (if a0 = 32 then (some true) else (if a0 = 42 then (some true) else (if a0 = 44 then (some true) else (if a0 = 45 then (some true) else (if a0 = 46 then (some true) else (if a0 = 59 then (some true) else (some (a0 == 61)))))))))) else (if a0 ≥ 97 then (if a0 ≤ 122 then (some true) else (if a0 = 32 then (some true) else (if a0 = 42 then (some true) else (if a0 = 44 then (some true) else (if a0 = 45 then (some true) else (if a0 = 46 then (some true) else (if a0 = 59 then (some true) else (some (a0 == 61))))))))) else (if a0 = 32 then (some true) else (if a0 = 42 then (some true) else (if a0 = 44 then (some true) else (if a0 = 45 then (some true) else (if a0 = 46 then (some true) else (if a0 = 59 then (some true) else (some (a0 == 61))))))))))
set_option maxHeartbeats 8000000 in
set_option maxRecDepth 100000 in
theorem pursuivantref10_language.calls (a0 : Int) (r : Bool) (w : World) (hG_ : GW w) (h : pursuivantref10_language.f a0 = some r) :
  Calls Tryz.prog 45 #[.int .u8 a0] w fun e w' => e = .returned (.bool r) ∧ Drawn0 w w' := by
 have H : (if a0 ≥ 48 then (if a0 ≤ 57 then (some true) else (if a0 ≥ 65 then (if a0 ≤ 90 then (some true) else (if a0 ≥ 97 then (if a0 ≤ 122 then (some true) else (if a0 = 32 then (some true) else (if a0 = 42 then (some true) else (if a0 = 44 then (some true) else (if a0 = 45 then (some true) else (if a0 = 46 then (some true) else (if a0 = 59 then (some true) else (some (a0 == 61))))))))) else (if a0 = 32 then (some true) else (if a0 = 42 then (some true) else (if a0 = 44 then (some true) else (if a0 = 45 then (some true) else (if a0 = 46 then (some true) else (if a0 = 59 then (some true) else (some (a0 == 61)))))))))) else (if a0 ≥ 97 then (if a0 ≤ 122 then (some true) else (if a0 = 32 then (some true) else (if a0 = 42 then (some true) else (if a0 = 44 then (some true) else (if a0 = 45 then (some true) else (if a0 = 46 then (some true) else (if a0 = 59 then (some true) else (some (a0 == 61))))))))) else (if a0 = 32 then (some true) else (if a0 = 42 then (some true) else (if a0 = 44 then (some true) else (if a0 = 45 then (some true) else (if a0 = 46 then (some true) else (if a0 = 59 then (some true) else (some (a0 == 61))))))))))) else (if a0 ≥ 65 then (if a0 ≤ 90 then (some true) else (if a0 ≥ 97 then (if a0 ≤ 122 then (some true) else (if a0 = 32 then (some true) else (if a0 = 42 then (some true) else (if a0 = 44 then (some true) else (if a0 = 45 then (some true) else (if a0 = 46 then (some true) else (if a0 = 59 then (some true) else (some (a0 == 61))))))))) else (if a0 = 32 then (some true) else (if a0 = 42 then (some true) else (if a0 = 44 then (some true) else (if a0 = 45 then (some true) else (if a0 = 46 then (some true) else (if a0 = 59 then (some true) else (some (a0 == 61)))))))))) else (if a0 ≥ 97 then (if a0 ≤ 122 then (some true) else (if a0 = 32 then (some true) else (if a0 = 42 then (some true) else (if a0 = 44 then (some true) else (if a0 = 45 then (some true) else (if a0 = 46 then (some true) else (if a0 = 59 then (some true) else (some (a0 == 61))))))))) else (if a0 = 32 then (some true) else (if a0 = 42 then (some true) else (if a0 = 44 then (some true) else (if a0 = 45 then (some true) else (if a0 = 46 then (some true) else (if a0 = 59 then (some true) else (some (a0 == 61))))))))))) = some r := h
 clear h
 by_cases c2 : a0 ≥ 48
 ·rw [if_pos c2] at H
  have c2b0 : decide (48 ≤ a0) = true := decide_eq_true c2; clear c2
  by_cases c3 : a0 ≤ 57
  ·rw [if_pos c3] at H
   have c3b0 : decide (a0 ≤ 57) = true := decide_eq_true c3; clear c3
   obtain rfl := Option.some.inj H
   go_enter Tryz.func45, Tryz.ntmps45
   go_wp2
   go_ret
   exact ⟨z29_, z30_⟩
  ·rw [if_neg c3] at H
   have c3b0 : decide (a0 ≤ 57) = false := decide_eq_false c3; clear c3
   by_cases c4 : a0 ≥ 65
   ·rw [if_pos c4] at H
    have c4b0 : decide (65 ≤ a0) = true := decide_eq_true c4; clear c4
    by_cases c5 : a0 ≤ 90
    ·rw [if_pos c5] at H
     have c5b0 : decide (a0 ≤ 90) = true := decide_eq_true c5; clear c5
     obtain rfl := Option.some.inj H
     go_enter Tryz.func45, Tryz.ntmps45
     go_wp2
     go_ret
     exact ⟨z29_, z30_⟩
    ·rw [if_neg c5] at H
     have c5b0 : decide (a0 ≤ 90) = false := decide_eq_false c5; clear c5
     by_cases c6 : a0 ≥ 97
     ·rw [if_pos c6] at H
      have c6b0 : decide (97 ≤ a0) = true := decide_eq_true c6; clear c6
      by_cases c7 : a0 ≤ 122
      ·rw [if_pos c7] at H
       have c7b0 : decide (a0 ≤ 122) = true := decide_eq_true c7; clear c7
       obtain rfl := Option.some.inj H
       go_enter Tryz.func45, Tryz.ntmps45
       go_wp2
       go_ret
       exact ⟨z29_, z30_⟩
      ·rw [if_neg c7] at H
       have c7b0 : decide (a0 ≤ 122) = false := decide_eq_false c7; clear c7
       by_cases c8 : a0 = 32
       ·rw [if_pos c8] at H
        have c8b0 : (a0 == 32) = true := beq_iff_eq.mpr c8
        have c8b1 : (a0 != 32) = false := bne_eq_false_iff_eq.mpr c8
        clear c8
        obtain rfl := Option.some.inj H
        go_enter Tryz.func45, Tryz.ntmps45
        go_wp2
        go_ret
        exact ⟨z29_, z30_⟩
       ·rw [if_neg c8] at H
        have c8b0 : (a0 == 32) = false := beq_eq_false_iff_ne.mpr c8
        have c8b1 : (a0 != 32) = true := bne_iff_ne.mpr c8
        by_cases c9 : a0 = 42
        ·rw [if_pos c9] at H
         have c9b0 : (a0 == 42) = true := beq_iff_eq.mpr c9
         have c9b1 : (a0 != 42) = false := bne_eq_false_iff_eq.mpr c9
         clear c9
         obtain rfl := Option.some.inj H
         go_enter Tryz.func45, Tryz.ntmps45
         go_wp2
         go_ret
         exact ⟨z29_, z30_⟩
        ·rw [if_neg c9] at H
         have c9b0 : (a0 == 42) = false := beq_eq_false_iff_ne.mpr c9
         have c9b1 : (a0 != 42) = true := bne_iff_ne.mpr c9
         by_cases c10 : a0 = 44
         ·rw [if_pos c10] at H
          have c10b0 : (a0 == 44) = true := beq_iff_eq.mpr c10
          have c10b1 : (a0 != 44) = false := bne_eq_false_iff_eq.mpr c10
          clear c10
          obtain rfl := Option.some.inj H
          go_enter Tryz.func45, Tryz.ntmps45
          go_wp2
          go_ret
          exact ⟨z29_, z30_⟩
         ·rw [if_neg c10] at H
          have c10b0 : (a0 == 44) = false := beq_eq_false_iff_ne.mpr c10
          have c10b1 : (a0 != 44) = true := bne_iff_ne.mpr c10
          by_cases c11 : a0 = 45
          ·rw [if_pos c11] at H
           have c11b0 : (a0 == 45) = true := beq_iff_eq.mpr c11
           have c11b1 : (a0 != 45) = false := bne_eq_false_iff_eq.mpr c11
           clear c11
           obtain rfl := Option.some.inj H
           go_enter Tryz.func45, Tryz.ntmps45
           go_wp2
           go_ret
           exact ⟨z29_, z30_⟩
          ·rw [if_neg c11] at H
           have c11b0 : (a0 == 45) = false := beq_eq_false_iff_ne.mpr c11
           have c11b1 : (a0 != 45) = true := bne_iff_ne.mpr c11
           by_cases c12 : a0 = 46
           ·rw [if_pos c12] at H
            have c12b0 : (a0 == 46) = true := beq_iff_eq.mpr c12
            have c12b1 : (a0 != 46) = false := bne_eq_false_iff_eq.mpr c12
            clear c12
            obtain rfl := Option.some.inj H
            go_enter Tryz.func45, Tryz.ntmps45
            go_wp2
            go_ret
            exact ⟨z29_, z30_⟩
           ·rw [if_neg c12] at H
            have c12b0 : (a0 == 46) = false := beq_eq_false_iff_ne.mpr c12
            have c12b1 : (a0 != 46) = true := bne_iff_ne.mpr c12
            by_cases c13 : a0 = 59
            ·rw [if_pos c13] at H
             have c13b0 : (a0 == 59) = true := beq_iff_eq.mpr c13
             have c13b1 : (a0 != 59) = false := bne_eq_false_iff_eq.mpr c13
             clear c13
             obtain rfl := Option.some.inj H
             go_enter Tryz.func45, Tryz.ntmps45
             go_wp2
             go_ret
             exact ⟨z29_, z30_⟩
            ·rw [if_neg c13] at H
             have c13b0 : (a0 == 59) = false := beq_eq_false_iff_ne.mpr c13
             have c13b1 : (a0 != 59) = true := bne_iff_ne.mpr c13
             obtain rfl := Option.some.inj H
             go_enter Tryz.func45, Tryz.ntmps45
             go_wp2
             go_ret
             exact ⟨z29_, z30_⟩
     ·rw [if_neg c6] at H
      have c6b0 : decide (97 ≤ a0) = false := decide_eq_false c6; clear c6
      by_cases c14 : a0 = 32
      ·rw [if_pos c14] at H
       have c14b0 : (a0 == 32) = true := beq_iff_eq.mpr c14
       have c14b1 : (a0 != 32) = false := bne_eq_false_iff_eq.mpr c14
       clear c14
       obtain rfl := Option.some.inj H
       go_enter Tryz.func45, Tryz.ntmps45
       go_wp2
       go_ret
       exact ⟨z29_, z30_⟩
      ·rw [if_neg c14] at H
       have c14b0 : (a0 == 32) = false := beq_eq_false_iff_ne.mpr c14
       have c14b1 : (a0 != 32) = true := bne_iff_ne.mpr c14
       by_cases c15 : a0 = 42
       ·rw [if_pos c15] at H
        have c15b0 : (a0 == 42) = true := beq_iff_eq.mpr c15
        have c15b1 : (a0 != 42) = false := bne_eq_false_iff_eq.mpr c15
        clear c15
        obtain rfl := Option.some.inj H
        go_enter Tryz.func45, Tryz.ntmps45
        go_wp2
        go_ret
        exact ⟨z29_, z30_⟩
       ·rw [if_neg c15] at H
        have c15b0 : (a0 == 42) = false := beq_eq_false_iff_ne.mpr c15
        have c15b1 : (a0 != 42) = true := bne_iff_ne.mpr c15
        by_cases c16 : a0 = 44
        ·rw [if_pos c16] at H
         have c16b0 : (a0 == 44) = true := beq_iff_eq.mpr c16
         have c16b1 : (a0 != 44) = false := bne_eq_false_iff_eq.mpr c16
         clear c16
         obtain rfl := Option.some.inj H
         go_enter Tryz.func45, Tryz.ntmps45
         go_wp2
         go_ret
         exact ⟨z29_, z30_⟩
        ·rw [if_neg c16] at H
         have c16b0 : (a0 == 44) = false := beq_eq_false_iff_ne.mpr c16
         have c16b1 : (a0 != 44) = true := bne_iff_ne.mpr c16
         by_cases c17 : a0 = 45
         ·rw [if_pos c17] at H
          have c17b0 : (a0 == 45) = true := beq_iff_eq.mpr c17
          have c17b1 : (a0 != 45) = false := bne_eq_false_iff_eq.mpr c17
          clear c17
          obtain rfl := Option.some.inj H
          go_enter Tryz.func45, Tryz.ntmps45
          go_wp2
          go_ret
          exact ⟨z29_, z30_⟩
         ·rw [if_neg c17] at H
          have c17b0 : (a0 == 45) = false := beq_eq_false_iff_ne.mpr c17
          have c17b1 : (a0 != 45) = true := bne_iff_ne.mpr c17
          by_cases c18 : a0 = 46
          ·rw [if_pos c18] at H
           have c18b0 : (a0 == 46) = true := beq_iff_eq.mpr c18
           have c18b1 : (a0 != 46) = false := bne_eq_false_iff_eq.mpr c18
           clear c18
           obtain rfl := Option.some.inj H
           go_enter Tryz.func45, Tryz.ntmps45
           go_wp2
           go_ret
           exact ⟨z29_, z30_⟩
          ·rw [if_neg c18] at H
           have c18b0 : (a0 == 46) = false := beq_eq_false_iff_ne.mpr c18
           have c18b1 : (a0 != 46) = true := bne_iff_ne.mpr c18
           by_cases c19 : a0 = 59
           ·rw [if_pos c19] at H
            have c19b0 : (a0 == 59) = true := beq_iff_eq.mpr c19
            have c19b1 : (a0 != 59) = false := bne_eq_false_iff_eq.mpr c19
            clear c19
            obtain rfl := Option.some.inj H
            go_enter Tryz.func45, Tryz.ntmps45
            go_wp2
            go_ret
            exact ⟨z29_, z30_⟩
           ·rw [if_neg c19] at H
            have c19b0 : (a0 == 59) = false := beq_eq_false_iff_ne.mpr c19
            have c19b1 : (a0 != 59) = true := bne_iff_ne.mpr c19
            obtain rfl := Option.some.inj H
            go_enter Tryz.func45, Tryz.ntmps45
            go_wp2
            go_ret
            exact ⟨z29_, z30_⟩
   ·rw [if_neg c4] at H
    have c4b0 : decide (65 ≤ a0) = false := decide_eq_false c4; clear c4
    by_cases c20 : a0 ≥ 97
    ·rw [if_pos c20] at H
     have c20b0 : decide (97 ≤ a0) = true := decide_eq_true c20; clear c20
     by_cases c21 : a0 ≤ 122
     ·rw [if_pos c21] at H
      have c21b0 : decide (a0 ≤ 122) = true := decide_eq_true c21; clear c21
      obtain rfl := Option.some.inj H
      go_enter Tryz.func45, Tryz.ntmps45
      go_wp2
      go_ret
      exact ⟨z29_, z30_⟩
     ·rw [if_neg c21] at H
      have c21b0 : decide (a0 ≤ 122) = false := decide_eq_false c21; clear c21
      by_cases c22 : a0 = 32
      ·rw [if_pos c22] at H
       have c22b0 : (a0 == 32) = true := beq_iff_eq.mpr c22
       have c22b1 : (a0 != 32) = false := bne_eq_false_iff_eq.mpr c22
       clear c22
       obtain rfl := Option.some.inj H
       go_enter Tryz.func45, Tryz.ntmps45
       go_wp2
       go_ret
       exact ⟨z29_, z30_⟩
      ·rw [if_neg c22] at H
       have c22b0 : (a0 == 32) = false := beq_eq_false_iff_ne.mpr c22
       have c22b1 : (a0 != 32) = true := bne_iff_ne.mpr c22
       by_cases c23 : a0 = 42
       ·rw [if_pos c23] at H
        have c23b0 : (a0 == 42) = true := beq_iff_eq.mpr c23
        have c23b1 : (a0 != 42) = false := bne_eq_false_iff_eq.mpr c23
        clear c23
        obtain rfl := Option.some.inj H
        go_enter Tryz.func45, Tryz.ntmps45
        go_wp2
        go_ret
        exact ⟨z29_, z30_⟩
       ·rw [if_neg c23] at H
        have c23b0 : (a0 == 42) = false := beq_eq_false_iff_ne.mpr c23
        have c23b1 : (a0 != 42) = true := bne_iff_ne.mpr c23
        by_cases c24 : a0 = 44
        ·rw [if_pos c24] at H
         have c24b0 : (a0 == 44) = true := beq_iff_eq.mpr c24
         have c24b1 : (a0 != 44) = false := bne_eq_false_iff_eq.mpr c24
         clear c24
         obtain rfl := Option.some.inj H
         go_enter Tryz.func45, Tryz.ntmps45
         go_wp2
         go_ret
         exact ⟨z29_, z30_⟩
        ·rw [if_neg c24] at H
         have c24b0 : (a0 == 44) = false := beq_eq_false_iff_ne.mpr c24
         have c24b1 : (a0 != 44) = true := bne_iff_ne.mpr c24
         by_cases c25 : a0 = 45
         ·rw [if_pos c25] at H
          have c25b0 : (a0 == 45) = true := beq_iff_eq.mpr c25
          have c25b1 : (a0 != 45) = false := bne_eq_false_iff_eq.mpr c25
          clear c25
          obtain rfl := Option.some.inj H
          go_enter Tryz.func45, Tryz.ntmps45
          go_wp2
          go_ret
          exact ⟨z29_, z30_⟩
         ·rw [if_neg c25] at H
          have c25b0 : (a0 == 45) = false := beq_eq_false_iff_ne.mpr c25
          have c25b1 : (a0 != 45) = true := bne_iff_ne.mpr c25
          by_cases c26 : a0 = 46
          ·rw [if_pos c26] at H
           have c26b0 : (a0 == 46) = true := beq_iff_eq.mpr c26
           have c26b1 : (a0 != 46) = false := bne_eq_false_iff_eq.mpr c26
           clear c26
           obtain rfl := Option.some.inj H
           go_enter Tryz.func45, Tryz.ntmps45
           go_wp2
           go_ret
           exact ⟨z29_, z30_⟩
          ·rw [if_neg c26] at H
           have c26b0 : (a0 == 46) = false := beq_eq_false_iff_ne.mpr c26
           have c26b1 : (a0 != 46) = true := bne_iff_ne.mpr c26
           by_cases c27 : a0 = 59
           ·rw [if_pos c27] at H
            have c27b0 : (a0 == 59) = true := beq_iff_eq.mpr c27
            have c27b1 : (a0 != 59) = false := bne_eq_false_iff_eq.mpr c27
            clear c27
            obtain rfl := Option.some.inj H
            go_enter Tryz.func45, Tryz.ntmps45
            go_wp2
            go_ret
            exact ⟨z29_, z30_⟩
           ·rw [if_neg c27] at H
            have c27b0 : (a0 == 59) = false := beq_eq_false_iff_ne.mpr c27
            have c27b1 : (a0 != 59) = true := bne_iff_ne.mpr c27
            obtain rfl := Option.some.inj H
            go_enter Tryz.func45, Tryz.ntmps45
            go_wp2
            go_ret
            exact ⟨z29_, z30_⟩
    ·rw [if_neg c20] at H
     have c20b0 : decide (97 ≤ a0) = false := decide_eq_false c20; clear c20
     by_cases c28 : a0 = 32
     ·rw [if_pos c28] at H
      have c28b0 : (a0 == 32) = true := beq_iff_eq.mpr c28
      have c28b1 : (a0 != 32) = false := bne_eq_false_iff_eq.mpr c28
      clear c28
      obtain rfl := Option.some.inj H
      go_enter Tryz.func45, Tryz.ntmps45
      go_wp2
      go_ret
      exact ⟨z29_, z30_⟩
     ·rw [if_neg c28] at H
      have c28b0 : (a0 == 32) = false := beq_eq_false_iff_ne.mpr c28
      have c28b1 : (a0 != 32) = true := bne_iff_ne.mpr c28
      by_cases c29 : a0 = 42
      ·rw [if_pos c29] at H
       have c29b0 : (a0 == 42) = true := beq_iff_eq.mpr c29
       have c29b1 : (a0 != 42) = false := bne_eq_false_iff_eq.mpr c29
       clear c29
       obtain rfl := Option.some.inj H
       go_enter Tryz.func45, Tryz.ntmps45
       go_wp2
       go_ret
       exact ⟨z29_, z30_⟩
      ·rw [if_neg c29] at H
       have c29b0 : (a0 == 42) = false := beq_eq_false_iff_ne.mpr c29
       have c29b1 : (a0 != 42) = true := bne_iff_ne.mpr c29
       by_cases c30 : a0 = 44
       ·rw [if_pos c30] at H
        have c30b0 : (a0 == 44) = true := beq_iff_eq.mpr c30
        have c30b1 : (a0 != 44) = false := bne_eq_false_iff_eq.mpr c30
        clear c30
        obtain rfl := Option.some.inj H
        go_enter Tryz.func45, Tryz.ntmps45
        go_wp2
        go_ret
        exact ⟨z29_, z30_⟩
       ·rw [if_neg c30] at H
        have c30b0 : (a0 == 44) = false := beq_eq_false_iff_ne.mpr c30
        have c30b1 : (a0 != 44) = true := bne_iff_ne.mpr c30
        by_cases c31 : a0 = 45
        ·rw [if_pos c31] at H
         have c31b0 : (a0 == 45) = true := beq_iff_eq.mpr c31
         have c31b1 : (a0 != 45) = false := bne_eq_false_iff_eq.mpr c31
         clear c31
         obtain rfl := Option.some.inj H
         go_enter Tryz.func45, Tryz.ntmps45
         go_wp2
         go_ret
         exact ⟨z29_, z30_⟩
        ·rw [if_neg c31] at H
         have c31b0 : (a0 == 45) = false := beq_eq_false_iff_ne.mpr c31
         have c31b1 : (a0 != 45) = true := bne_iff_ne.mpr c31
         by_cases c32 : a0 = 46
         ·rw [if_pos c32] at H
          have c32b0 : (a0 == 46) = true := beq_iff_eq.mpr c32
          have c32b1 : (a0 != 46) = false := bne_eq_false_iff_eq.mpr c32
          clear c32
          obtain rfl := Option.some.inj H
          go_enter Tryz.func45, Tryz.ntmps45
          go_wp2
          go_ret
          exact ⟨z29_, z30_⟩
         ·rw [if_neg c32] at H
          have c32b0 : (a0 == 46) = false := beq_eq_false_iff_ne.mpr c32
          have c32b1 : (a0 != 46) = true := bne_iff_ne.mpr c32
          by_cases c33 : a0 = 59
          ·rw [if_pos c33] at H
           have c33b0 : (a0 == 59) = true := beq_iff_eq.mpr c33
           have c33b1 : (a0 != 59) = false := bne_eq_false_iff_eq.mpr c33
           clear c33
           obtain rfl := Option.some.inj H
           go_enter Tryz.func45, Tryz.ntmps45
           go_wp2
           go_ret
           exact ⟨z29_, z30_⟩
          ·rw [if_neg c33] at H
           have c33b0 : (a0 == 59) = false := beq_eq_false_iff_ne.mpr c33
           have c33b1 : (a0 != 59) = true := bne_iff_ne.mpr c33
           obtain rfl := Option.some.inj H
           go_enter Tryz.func45, Tryz.ntmps45
           go_wp2
           go_ret
           exact ⟨z29_, z30_⟩
 ·rw [if_neg c2] at H
  have c2b0 : decide (48 ≤ a0) = false := decide_eq_false c2; clear c2
  by_cases c34 : a0 ≥ 65
  ·rw [if_pos c34] at H
   have c34b0 : decide (65 ≤ a0) = true := decide_eq_true c34; clear c34
   by_cases c35 : a0 ≤ 90
   ·rw [if_pos c35] at H
    have c35b0 : decide (a0 ≤ 90) = true := decide_eq_true c35; clear c35
    obtain rfl := Option.some.inj H
    go_enter Tryz.func45, Tryz.ntmps45
    go_wp2
    go_ret
    exact ⟨z29_, z30_⟩
   ·rw [if_neg c35] at H
    have c35b0 : decide (a0 ≤ 90) = false := decide_eq_false c35; clear c35
    by_cases c36 : a0 ≥ 97
    ·rw [if_pos c36] at H
     have c36b0 : decide (97 ≤ a0) = true := decide_eq_true c36; clear c36
     by_cases c37 : a0 ≤ 122
     ·rw [if_pos c37] at H
      have c37b0 : decide (a0 ≤ 122) = true := decide_eq_true c37; clear c37
      obtain rfl := Option.some.inj H
      go_enter Tryz.func45, Tryz.ntmps45
      go_wp2
      go_ret
      exact ⟨z29_, z30_⟩
     ·rw [if_neg c37] at H
      have c37b0 : decide (a0 ≤ 122) = false := decide_eq_false c37; clear c37
      by_cases c38 : a0 = 32
      ·rw [if_pos c38] at H
       have c38b0 : (a0 == 32) = true := beq_iff_eq.mpr c38
       have c38b1 : (a0 != 32) = false := bne_eq_false_iff_eq.mpr c38
       clear c38
       obtain rfl := Option.some.inj H
       go_enter Tryz.func45, Tryz.ntmps45
       go_wp2
       go_ret
       exact ⟨z29_, z30_⟩
      ·rw [if_neg c38] at H
       have c38b0 : (a0 == 32) = false := beq_eq_false_iff_ne.mpr c38
       have c38b1 : (a0 != 32) = true := bne_iff_ne.mpr c38
       by_cases c39 : a0 = 42
       ·rw [if_pos c39] at H
        have c39b0 : (a0 == 42) = true := beq_iff_eq.mpr c39
        have c39b1 : (a0 != 42) = false := bne_eq_false_iff_eq.mpr c39
        clear c39
        obtain rfl := Option.some.inj H
        go_enter Tryz.func45, Tryz.ntmps45
        go_wp2
        go_ret
        exact ⟨z29_, z30_⟩
       ·rw [if_neg c39] at H
        have c39b0 : (a0 == 42) = false := beq_eq_false_iff_ne.mpr c39
        have c39b1 : (a0 != 42) = true := bne_iff_ne.mpr c39
        by_cases c40 : a0 = 44
        ·rw [if_pos c40] at H
         have c40b0 : (a0 == 44) = true := beq_iff_eq.mpr c40
         have c40b1 : (a0 != 44) = false := bne_eq_false_iff_eq.mpr c40
         clear c40
         obtain rfl := Option.some.inj H
         go_enter Tryz.func45, Tryz.ntmps45
         go_wp2
         go_ret
         exact ⟨z29_, z30_⟩
        ·rw [if_neg c40] at H
         have c40b0 : (a0 == 44) = false := beq_eq_false_iff_ne.mpr c40
         have c40b1 : (a0 != 44) = true := bne_iff_ne.mpr c40
         by_cases c41 : a0 = 45
         ·rw [if_pos c41] at H
          have c41b0 : (a0 == 45) = true := beq_iff_eq.mpr c41
          have c41b1 : (a0 != 45) = false := bne_eq_false_iff_eq.mpr c41
          clear c41
          obtain rfl := Option.some.inj H
          go_enter Tryz.func45, Tryz.ntmps45
          go_wp2
          go_ret
          exact ⟨z29_, z30_⟩
         ·rw [if_neg c41] at H
          have c41b0 : (a0 == 45) = false := beq_eq_false_iff_ne.mpr c41
          have c41b1 : (a0 != 45) = true := bne_iff_ne.mpr c41
          by_cases c42 : a0 = 46
          ·rw [if_pos c42] at H
           have c42b0 : (a0 == 46) = true := beq_iff_eq.mpr c42
           have c42b1 : (a0 != 46) = false := bne_eq_false_iff_eq.mpr c42
           clear c42
           obtain rfl := Option.some.inj H
           go_enter Tryz.func45, Tryz.ntmps45
           go_wp2
           go_ret
           exact ⟨z29_, z30_⟩
          ·rw [if_neg c42] at H
           have c42b0 : (a0 == 46) = false := beq_eq_false_iff_ne.mpr c42
           have c42b1 : (a0 != 46) = true := bne_iff_ne.mpr c42
           by_cases c43 : a0 = 59
           ·rw [if_pos c43] at H
            have c43b0 : (a0 == 59) = true := beq_iff_eq.mpr c43
            have c43b1 : (a0 != 59) = false := bne_eq_false_iff_eq.mpr c43
            clear c43
            obtain rfl := Option.some.inj H
            go_enter Tryz.func45, Tryz.ntmps45
            go_wp2
            go_ret
            exact ⟨z29_, z30_⟩
           ·rw [if_neg c43] at H
            have c43b0 : (a0 == 59) = false := beq_eq_false_iff_ne.mpr c43
            have c43b1 : (a0 != 59) = true := bne_iff_ne.mpr c43
            obtain rfl := Option.some.inj H
            go_enter Tryz.func45, Tryz.ntmps45
            go_wp2
            go_ret
            exact ⟨z29_, z30_⟩
    ·rw [if_neg c36] at H
     have c36b0 : decide (97 ≤ a0) = false := decide_eq_false c36; clear c36
     by_cases c44 : a0 = 32
     ·rw [if_pos c44] at H
      have c44b0 : (a0 == 32) = true := beq_iff_eq.mpr c44
      have c44b1 : (a0 != 32) = false := bne_eq_false_iff_eq.mpr c44
      clear c44
      obtain rfl := Option.some.inj H
      go_enter Tryz.func45, Tryz.ntmps45
      go_wp2
      go_ret
      exact ⟨z29_, z30_⟩
     ·rw [if_neg c44] at H
      have c44b0 : (a0 == 32) = false := beq_eq_false_iff_ne.mpr c44
      have c44b1 : (a0 != 32) = true := bne_iff_ne.mpr c44
      by_cases c45 : a0 = 42
      ·rw [if_pos c45] at H
       have c45b0 : (a0 == 42) = true := beq_iff_eq.mpr c45
       have c45b1 : (a0 != 42) = false := bne_eq_false_iff_eq.mpr c45
       clear c45
       obtain rfl := Option.some.inj H
       go_enter Tryz.func45, Tryz.ntmps45
       go_wp2
       go_ret
       exact ⟨z29_, z30_⟩
      ·rw [if_neg c45] at H
       have c45b0 : (a0 == 42) = false := beq_eq_false_iff_ne.mpr c45
       have c45b1 : (a0 != 42) = true := bne_iff_ne.mpr c45
       by_cases c46 : a0 = 44
       ·rw [if_pos c46] at H
        have c46b0 : (a0 == 44) = true := beq_iff_eq.mpr c46
        have c46b1 : (a0 != 44) = false := bne_eq_false_iff_eq.mpr c46
        clear c46
        obtain rfl := Option.some.inj H
        go_enter Tryz.func45, Tryz.ntmps45
        go_wp2
        go_ret
        exact ⟨z29_, z30_⟩
       ·rw [if_neg c46] at H
        have c46b0 : (a0 == 44) = false := beq_eq_false_iff_ne.mpr c46
        have c46b1 : (a0 != 44) = true := bne_iff_ne.mpr c46
        by_cases c47 : a0 = 45
        ·rw [if_pos c47] at H
         have c47b0 : (a0 == 45) = true := beq_iff_eq.mpr c47
         have c47b1 : (a0 != 45) = false := bne_eq_false_iff_eq.mpr c47
         clear c47
         obtain rfl := Option.some.inj H
         go_enter Tryz.func45, Tryz.ntmps45
         go_wp2
         go_ret
         exact ⟨z29_, z30_⟩
        ·rw [if_neg c47] at H
         have c47b0 : (a0 == 45) = false := beq_eq_false_iff_ne.mpr c47
         have c47b1 : (a0 != 45) = true := bne_iff_ne.mpr c47
         by_cases c48 : a0 = 46
         ·rw [if_pos c48] at H
          have c48b0 : (a0 == 46) = true := beq_iff_eq.mpr c48
          have c48b1 : (a0 != 46) = false := bne_eq_false_iff_eq.mpr c48
          clear c48
          obtain rfl := Option.some.inj H
          go_enter Tryz.func45, Tryz.ntmps45
          go_wp2
          go_ret
          exact ⟨z29_, z30_⟩
         ·rw [if_neg c48] at H
          have c48b0 : (a0 == 46) = false := beq_eq_false_iff_ne.mpr c48
          have c48b1 : (a0 != 46) = true := bne_iff_ne.mpr c48
          by_cases c49 : a0 = 59
          ·rw [if_pos c49] at H
           have c49b0 : (a0 == 59) = true := beq_iff_eq.mpr c49
           have c49b1 : (a0 != 59) = false := bne_eq_false_iff_eq.mpr c49
           clear c49
           obtain rfl := Option.some.inj H
           go_enter Tryz.func45, Tryz.ntmps45
           go_wp2
           go_ret
           exact ⟨z29_, z30_⟩
          ·rw [if_neg c49] at H
           have c49b0 : (a0 == 59) = false := beq_eq_false_iff_ne.mpr c49
           have c49b1 : (a0 != 59) = true := bne_iff_ne.mpr c49
           obtain rfl := Option.some.inj H
           go_enter Tryz.func45, Tryz.ntmps45
           go_wp2
           go_ret
           exact ⟨z29_, z30_⟩
  ·rw [if_neg c34] at H
   have c34b0 : decide (65 ≤ a0) = false := decide_eq_false c34; clear c34
   by_cases c50 : a0 ≥ 97
   ·rw [if_pos c50] at H
    have c50b0 : decide (97 ≤ a0) = true := decide_eq_true c50; clear c50
    by_cases c51 : a0 ≤ 122
    ·rw [if_pos c51] at H
     have c51b0 : decide (a0 ≤ 122) = true := decide_eq_true c51; clear c51
     obtain rfl := Option.some.inj H
     go_enter Tryz.func45, Tryz.ntmps45
     go_wp2
     go_ret
     exact ⟨z29_, z30_⟩
    ·rw [if_neg c51] at H
     have c51b0 : decide (a0 ≤ 122) = false := decide_eq_false c51; clear c51
     by_cases c52 : a0 = 32
     ·rw [if_pos c52] at H
      have c52b0 : (a0 == 32) = true := beq_iff_eq.mpr c52
      have c52b1 : (a0 != 32) = false := bne_eq_false_iff_eq.mpr c52
      clear c52
      obtain rfl := Option.some.inj H
      go_enter Tryz.func45, Tryz.ntmps45
      go_wp2
      go_ret
      exact ⟨z29_, z30_⟩
     ·rw [if_neg c52] at H
      have c52b0 : (a0 == 32) = false := beq_eq_false_iff_ne.mpr c52
      have c52b1 : (a0 != 32) = true := bne_iff_ne.mpr c52
      by_cases c53 : a0 = 42
      ·rw [if_pos c53] at H
       have c53b0 : (a0 == 42) = true := beq_iff_eq.mpr c53
       have c53b1 : (a0 != 42) = false := bne_eq_false_iff_eq.mpr c53
       clear c53
       obtain rfl := Option.some.inj H
       go_enter Tryz.func45, Tryz.ntmps45
       go_wp2
       go_ret
       exact ⟨z29_, z30_⟩
      ·rw [if_neg c53] at H
       have c53b0 : (a0 == 42) = false := beq_eq_false_iff_ne.mpr c53
       have c53b1 : (a0 != 42) = true := bne_iff_ne.mpr c53
       by_cases c54 : a0 = 44
       ·rw [if_pos c54] at H
        have c54b0 : (a0 == 44) = true := beq_iff_eq.mpr c54
        have c54b1 : (a0 != 44) = false := bne_eq_false_iff_eq.mpr c54
        clear c54
        obtain rfl := Option.some.inj H
        go_enter Tryz.func45, Tryz.ntmps45
        go_wp2
        go_ret
        exact ⟨z29_, z30_⟩
       ·rw [if_neg c54] at H
        have c54b0 : (a0 == 44) = false := beq_eq_false_iff_ne.mpr c54
        have c54b1 : (a0 != 44) = true := bne_iff_ne.mpr c54
        by_cases c55 : a0 = 45
        ·rw [if_pos c55] at H
         have c55b0 : (a0 == 45) = true := beq_iff_eq.mpr c55
         have c55b1 : (a0 != 45) = false := bne_eq_false_iff_eq.mpr c55
         clear c55
         obtain rfl := Option.some.inj H
         go_enter Tryz.func45, Tryz.ntmps45
         go_wp2
         go_ret
         exact ⟨z29_, z30_⟩
        ·rw [if_neg c55] at H
         have c55b0 : (a0 == 45) = false := beq_eq_false_iff_ne.mpr c55
         have c55b1 : (a0 != 45) = true := bne_iff_ne.mpr c55
         by_cases c56 : a0 = 46
         ·rw [if_pos c56] at H
          have c56b0 : (a0 == 46) = true := beq_iff_eq.mpr c56
          have c56b1 : (a0 != 46) = false := bne_eq_false_iff_eq.mpr c56
          clear c56
          obtain rfl := Option.some.inj H
          go_enter Tryz.func45, Tryz.ntmps45
          go_wp2
          go_ret
          exact ⟨z29_, z30_⟩
         ·rw [if_neg c56] at H
          have c56b0 : (a0 == 46) = false := beq_eq_false_iff_ne.mpr c56
          have c56b1 : (a0 != 46) = true := bne_iff_ne.mpr c56
          by_cases c57 : a0 = 59
          ·rw [if_pos c57] at H
           have c57b0 : (a0 == 59) = true := beq_iff_eq.mpr c57
           have c57b1 : (a0 != 59) = false := bne_eq_false_iff_eq.mpr c57
           clear c57
           obtain rfl := Option.some.inj H
           go_enter Tryz.func45, Tryz.ntmps45
           go_wp2
           go_ret
           exact ⟨z29_, z30_⟩
          ·rw [if_neg c57] at H
           have c57b0 : (a0 == 59) = false := beq_eq_false_iff_ne.mpr c57
           have c57b1 : (a0 != 59) = true := bne_iff_ne.mpr c57
           obtain rfl := Option.some.inj H
           go_enter Tryz.func45, Tryz.ntmps45
           go_wp2
           go_ret
           exact ⟨z29_, z30_⟩
   ·rw [if_neg c50] at H
    have c50b0 : decide (97 ≤ a0) = false := decide_eq_false c50; clear c50
    by_cases c58 : a0 = 32
    ·rw [if_pos c58] at H
     have c58b0 : (a0 == 32) = true := beq_iff_eq.mpr c58
     have c58b1 : (a0 != 32) = false := bne_eq_false_iff_eq.mpr c58
     clear c58
     obtain rfl := Option.some.inj H
     go_enter Tryz.func45, Tryz.ntmps45
     go_wp2
     go_ret
     exact ⟨z29_, z30_⟩
    ·rw [if_neg c58] at H
     have c58b0 : (a0 == 32) = false := beq_eq_false_iff_ne.mpr c58
     have c58b1 : (a0 != 32) = true := bne_iff_ne.mpr c58
     by_cases c59 : a0 = 42
     ·rw [if_pos c59] at H
      have c59b0 : (a0 == 42) = true := beq_iff_eq.mpr c59
      have c59b1 : (a0 != 42) = false := bne_eq_false_iff_eq.mpr c59
      clear c59
      obtain rfl := Option.some.inj H
      go_enter Tryz.func45, Tryz.ntmps45
      go_wp2
      go_ret
      exact ⟨z29_, z30_⟩
     ·rw [if_neg c59] at H
      have c59b0 : (a0 == 42) = false := beq_eq_false_iff_ne.mpr c59
      have c59b1 : (a0 != 42) = true := bne_iff_ne.mpr c59
      by_cases c60 : a0 = 44
      ·rw [if_pos c60] at H
       have c60b0 : (a0 == 44) = true := beq_iff_eq.mpr c60
       have c60b1 : (a0 != 44) = false := bne_eq_false_iff_eq.mpr c60
       clear c60
       obtain rfl := Option.some.inj H
       go_enter Tryz.func45, Tryz.ntmps45
       go_wp2
       go_ret
       exact ⟨z29_, z30_⟩
      ·rw [if_neg c60] at H
       have c60b0 : (a0 == 44) = false := beq_eq_false_iff_ne.mpr c60
       have c60b1 : (a0 != 44) = true := bne_iff_ne.mpr c60
       by_cases c61 : a0 = 45
       ·rw [if_pos c61] at H
        have c61b0 : (a0 == 45) = true := beq_iff_eq.mpr c61
        have c61b1 : (a0 != 45) = false := bne_eq_false_iff_eq.mpr c61
        clear c61
        obtain rfl := Option.some.inj H
        go_enter Tryz.func45, Tryz.ntmps45
        go_wp2
        go_ret
        exact ⟨z29_, z30_⟩
       ·rw [if_neg c61] at H
        have c61b0 : (a0 == 45) = false := beq_eq_false_iff_ne.mpr c61
        have c61b1 : (a0 != 45) = true := bne_iff_ne.mpr c61
        by_cases c62 : a0 = 46
        ·rw [if_pos c62] at H
         have c62b0 : (a0 == 46) = true := beq_iff_eq.mpr c62
         have c62b1 : (a0 != 46) = false := bne_eq_false_iff_eq.mpr c62
         clear c62
         obtain rfl := Option.some.inj H
         go_enter Tryz.func45, Tryz.ntmps45
         go_wp2
         go_ret
         exact ⟨z29_, z30_⟩
        ·rw [if_neg c62] at H
         have c62b0 : (a0 == 46) = false := beq_eq_false_iff_ne.mpr c62
         have c62b1 : (a0 != 46) = true := bne_iff_ne.mpr c62
         by_cases c63 : a0 = 59
         ·rw [if_pos c63] at H
          have c63b0 : (a0 == 59) = true := beq_iff_eq.mpr c63
          have c63b1 : (a0 != 59) = false := bne_eq_false_iff_eq.mpr c63
          clear c63
          obtain rfl := Option.some.inj H
          go_enter Tryz.func45, Tryz.ntmps45
          go_wp2
          go_ret
          exact ⟨z29_, z30_⟩
         ·rw [if_neg c63] at H
          have c63b0 : (a0 == 59) = false := beq_eq_false_iff_ne.mpr c63
          have c63b1 : (a0 != 59) = true := bne_iff_ne.mpr c63
          obtain rfl := Option.some.inj H
          go_enter Tryz.func45, Tryz.ntmps45
          go_wp2
          go_ret
          exact ⟨z29_, z30_⟩

def pursuivantref10_unsafe.f (a0 : Int) : Option (Bool) := if a0 < 32 then (some (a0 != 9)) else (if a0 = 34 then (some true) else (if a0 = 40 then (some true) else (if a0 = 41 then (some true) else (if a0 = 58 then (some true) else (if a0 = 60 then (some true) else (if a0 = 62 then (some true) else (if a0 = 63 then (some true) else (if a0 = 64 then (some true) else (if a0 = 91 then (some true) else (if a0 = 92 then (some true) else (if a0 = 93 then (some true) else (if a0 = 123 then (some true) else (if a0 = 125 then (some true) else (some (a0 == 127)))))))))))))))
set_option maxHeartbeats 8000000 in
set_option maxRecDepth 100000 in
theorem pursuivantref10_unsafe.calls (a0 : Int) (r : Bool) (w : World) (hG_ : GW w) (h : pursuivantref10_unsafe.f a0 = some r) :
  Calls Tryz.prog 46 #[.int .u8 a0] w fun e w' => e = .returned (.bool r) ∧ Drawn0 w w' := by
 have H : (if a0 < 32 then (some (a0 != 9)) else (if a0 = 34 then (some true) else (if a0 = 40 then (some true) else (if a0 = 41 then (some true) else (if a0 = 58 then (some true) else (if a0 = 60 then (some true) else (if a0 = 62 then (some true) else (if a0 = 63 then (some true) else (if a0 = 64 then (some true) else (if a0 = 91 then (some true) else (if a0 = 92 then (some true) else (if a0 = 93 then (some true) else (if a0 = 123 then (some true) else (if a0 = 125 then (some true) else (some (a0 == 127)))))))))))))))) = some r := h
 clear h
 by_cases c2 : a0 < 32
 ·rw [if_pos c2] at H
  have c2b0 : decide (a0 < 32) = true := decide_eq_true c2; clear c2
  obtain rfl := Option.some.inj H
  go_enter Tryz.func46, Tryz.ntmps46
  go_wp2
  go_ret
  exact ⟨z29_, z30_⟩
 ·rw [if_neg c2] at H
  have c2b0 : decide (a0 < 32) = false := decide_eq_false c2; clear c2
  by_cases c3 : a0 = 34
  ·rw [if_pos c3] at H
   have c3b0 : (a0 == 34) = true := beq_iff_eq.mpr c3
   have c3b1 : (a0 != 34) = false := bne_eq_false_iff_eq.mpr c3
   clear c3
   obtain rfl := Option.some.inj H
   go_enter Tryz.func46, Tryz.ntmps46
   go_wp2
   go_ret
   exact ⟨z29_, z30_⟩
  ·rw [if_neg c3] at H
   have c3b0 : (a0 == 34) = false := beq_eq_false_iff_ne.mpr c3
   have c3b1 : (a0 != 34) = true := bne_iff_ne.mpr c3
   by_cases c4 : a0 = 40
   ·rw [if_pos c4] at H
    have c4b0 : (a0 == 40) = true := beq_iff_eq.mpr c4
    have c4b1 : (a0 != 40) = false := bne_eq_false_iff_eq.mpr c4
    clear c4
    obtain rfl := Option.some.inj H
    go_enter Tryz.func46, Tryz.ntmps46
    go_wp2
    go_ret
    exact ⟨z29_, z30_⟩
   ·rw [if_neg c4] at H
    have c4b0 : (a0 == 40) = false := beq_eq_false_iff_ne.mpr c4
    have c4b1 : (a0 != 40) = true := bne_iff_ne.mpr c4
    by_cases c5 : a0 = 41
    ·rw [if_pos c5] at H
     have c5b0 : (a0 == 41) = true := beq_iff_eq.mpr c5
     have c5b1 : (a0 != 41) = false := bne_eq_false_iff_eq.mpr c5
     clear c5
     obtain rfl := Option.some.inj H
     go_enter Tryz.func46, Tryz.ntmps46
     go_wp2
     go_ret
     exact ⟨z29_, z30_⟩
    ·rw [if_neg c5] at H
     have c5b0 : (a0 == 41) = false := beq_eq_false_iff_ne.mpr c5
     have c5b1 : (a0 != 41) = true := bne_iff_ne.mpr c5
     by_cases c6 : a0 = 58
     ·rw [if_pos c6] at H
      have c6b0 : (a0 == 58) = true := beq_iff_eq.mpr c6
      have c6b1 : (a0 != 58) = false := bne_eq_false_iff_eq.mpr c6
      clear c6
      obtain rfl := Option.some.inj H
      go_enter Tryz.func46, Tryz.ntmps46
      go_wp2
      go_ret
      exact ⟨z29_, z30_⟩
     ·rw [if_neg c6] at H
      have c6b0 : (a0 == 58) = false := beq_eq_false_iff_ne.mpr c6
      have c6b1 : (a0 != 58) = true := bne_iff_ne.mpr c6
      by_cases c7 : a0 = 60
      ·rw [if_pos c7] at H
       have c7b0 : (a0 == 60) = true := beq_iff_eq.mpr c7
       have c7b1 : (a0 != 60) = false := bne_eq_false_iff_eq.mpr c7
       clear c7
       obtain rfl := Option.some.inj H
       go_enter Tryz.func46, Tryz.ntmps46
       go_wp2
       go_ret
       exact ⟨z29_, z30_⟩
      ·rw [if_neg c7] at H
       have c7b0 : (a0 == 60) = false := beq_eq_false_iff_ne.mpr c7
       have c7b1 : (a0 != 60) = true := bne_iff_ne.mpr c7
       by_cases c8 : a0 = 62
       ·rw [if_pos c8] at H
        have c8b0 : (a0 == 62) = true := beq_iff_eq.mpr c8
        have c8b1 : (a0 != 62) = false := bne_eq_false_iff_eq.mpr c8
        clear c8
        obtain rfl := Option.some.inj H
        go_enter Tryz.func46, Tryz.ntmps46
        go_wp2
        go_ret
        exact ⟨z29_, z30_⟩
       ·rw [if_neg c8] at H
        have c8b0 : (a0 == 62) = false := beq_eq_false_iff_ne.mpr c8
        have c8b1 : (a0 != 62) = true := bne_iff_ne.mpr c8
        by_cases c9 : a0 = 63
        ·rw [if_pos c9] at H
         have c9b0 : (a0 == 63) = true := beq_iff_eq.mpr c9
         have c9b1 : (a0 != 63) = false := bne_eq_false_iff_eq.mpr c9
         clear c9
         obtain rfl := Option.some.inj H
         go_enter Tryz.func46, Tryz.ntmps46
         go_wp2
         go_ret
         exact ⟨z29_, z30_⟩
        ·rw [if_neg c9] at H
         have c9b0 : (a0 == 63) = false := beq_eq_false_iff_ne.mpr c9
         have c9b1 : (a0 != 63) = true := bne_iff_ne.mpr c9
         by_cases c10 : a0 = 64
         ·rw [if_pos c10] at H
          have c10b0 : (a0 == 64) = true := beq_iff_eq.mpr c10
          have c10b1 : (a0 != 64) = false := bne_eq_false_iff_eq.mpr c10
          clear c10
          obtain rfl := Option.some.inj H
          go_enter Tryz.func46, Tryz.ntmps46
          go_wp2
          go_ret
          exact ⟨z29_, z30_⟩
         ·rw [if_neg c10] at H
          have c10b0 : (a0 == 64) = false := beq_eq_false_iff_ne.mpr c10
          have c10b1 : (a0 != 64) = true := bne_iff_ne.mpr c10
          by_cases c11 : a0 = 91
          ·rw [if_pos c11] at H
           have c11b0 : (a0 == 91) = true := beq_iff_eq.mpr c11
           have c11b1 : (a0 != 91) = false := bne_eq_false_iff_eq.mpr c11
           clear c11
           obtain rfl := Option.some.inj H
           go_enter Tryz.func46, Tryz.ntmps46
           go_wp2
           go_ret
           exact ⟨z29_, z30_⟩
          ·rw [if_neg c11] at H
           have c11b0 : (a0 == 91) = false := beq_eq_false_iff_ne.mpr c11
           have c11b1 : (a0 != 91) = true := bne_iff_ne.mpr c11
           by_cases c12 : a0 = 92
           ·rw [if_pos c12] at H
            have c12b0 : (a0 == 92) = true := beq_iff_eq.mpr c12
            have c12b1 : (a0 != 92) = false := bne_eq_false_iff_eq.mpr c12
            clear c12
            obtain rfl := Option.some.inj H
            go_enter Tryz.func46, Tryz.ntmps46
            go_wp2
            go_ret
            exact ⟨z29_, z30_⟩
           ·rw [if_neg c12] at H
            have c12b0 : (a0 == 92) = false := beq_eq_false_iff_ne.mpr c12
            have c12b1 : (a0 != 92) = true := bne_iff_ne.mpr c12
            by_cases c13 : a0 = 93
            ·rw [if_pos c13] at H
             have c13b0 : (a0 == 93) = true := beq_iff_eq.mpr c13
             have c13b1 : (a0 != 93) = false := bne_eq_false_iff_eq.mpr c13
             clear c13
             obtain rfl := Option.some.inj H
             go_enter Tryz.func46, Tryz.ntmps46
             go_wp2
             go_ret
             exact ⟨z29_, z30_⟩
            ·rw [if_neg c13] at H
             have c13b0 : (a0 == 93) = false := beq_eq_false_iff_ne.mpr c13
             have c13b1 : (a0 != 93) = true := bne_iff_ne.mpr c13
             by_cases c14 : a0 = 123
             ·rw [if_pos c14] at H
              have c14b0 : (a0 == 123) = true := beq_iff_eq.mpr c14
              have c14b1 : (a0 != 123) = false := bne_eq_false_iff_eq.mpr c14
              clear c14
              obtain rfl := Option.some.inj H
              go_enter Tryz.func46, Tryz.ntmps46
              go_wp2
              go_ret
              exact ⟨z29_, z30_⟩
             ·rw [if_neg c14] at H
              have c14b0 : (a0 == 123) = false := beq_eq_false_iff_ne.mpr c14
              have c14b1 : (a0 != 123) = true := bne_iff_ne.mpr c14
              by_cases c15 : a0 = 125
              ·rw [if_pos c15] at H
               have c15b0 : (a0 == 125) = true := beq_iff_eq.mpr c15
               have c15b1 : (a0 != 125) = false := bne_eq_false_iff_eq.mpr c15
               clear c15
               obtain rfl := Option.some.inj H
               go_enter Tryz.func46, Tryz.ntmps46
               go_wp2
               go_ret
               exact ⟨z29_, z30_⟩
              ·rw [if_neg c15] at H
               have c15b0 : (a0 == 125) = false := beq_eq_false_iff_ne.mpr c15
               have c15b1 : (a0 != 125) = true := bne_iff_ne.mpr c15
               obtain rfl := Option.some.inj H
               go_enter Tryz.func46, Tryz.ntmps46
               go_wp2
               go_ret
               exact ⟨z29_, z30_⟩

mutual
def pursuivantref10_Header.j0 : Nat → ByteArray → ByteArray → Bool → Option (Bool)
 | 0, _, _, _ => none
 | k + 1, x3, x4, x20 => if x20 = true then (some false) else (pursuivantref10_Header.l0 k x3 x4 (x4.size : Int) (wrap64 ((x4.size : Int) - 1)))
def pursuivantref10_Header.l0 : Nat → ByteArray → ByteArray → Int → Int → Option (Bool)
 | 0, _, _, _, _ => none
 | k + 1, x3, x4, x5, x6 => if x6 ≥ 0 then (if 0 ≤ x6 then (if x6 < (x4.size : Int) then (if (bt x4 x6) = 59 then (pursuivantref10_Header.j2 k x3 x4 x6 x6) else (pursuivantref10_Header.j2 k x3 x4 x5 x6)) else (none)) else (none)) else (if x3.toList = ([99, 111, 110, 116, 101, 110, 116, 45, 116, 121, 112, 101] : List UInt8) then (if 0 ≤ x5 then (if x5 ≤ (x4.size : Int) then ((pursuivantref04_Trim.f k (x4.extract 0 (x5 : Int).toNat)).bind fun t125 => ((pursuivantref04_Lower.f k t125).bind fun t126 => ((pursuivantref10_among.f k t126 (([(⟨#[116, 101, 120, 116, 47, 112, 108, 97, 105, 110]⟩ : ByteArray), (⟨#[109, 117, 108, 116, 105, 112, 97, 114, 116, 47, 102, 111, 114, 109, 45, 100, 97, 116, 97]⟩ : ByteArray), (⟨#[97, 112, 112, 108, 105, 99, 97, 116, 105, 111, 110, 47, 120, 45, 119, 119, 119, 45, 102, 111, 114, 109, 45, 117, 114, 108, 101, 110, 99, 111, 100, 101, 100]⟩ : ByteArray)] : List ByteArray))).bind fun t130 => (some t130)))) else (none)) else (none)) else (some true))
def pursuivantref10_Header.j2 : Nat → ByteArray → ByteArray → Int → Int → Option (Bool)
 | 0, _, _, _, _ => none
 | k + 1, x3, x4, x5, x6 => if 0 ≤ (wrap64 ((x3.size : Int) - 1)) then (if (wrap64 ((x3.size : Int) - 1)) < (x3.size : Int) then (if (bt x3 (wrap64 ((x3.size : Int) - 1))) = 101 then (pursuivantref10_Header.j3 k x3 x4 x5 x6 (x3.toList != ([99, 111, 110, 116, 101, 110, 116, 45, 116, 121, 112, 101] : List UInt8))) else (pursuivantref10_Header.j3 k x3 x4 x5 x6 false)) else (none)) else (none)
def pursuivantref10_Header.j3 : Nat → ByteArray → ByteArray → Int → Int → Bool → Option (Bool)
 | 0, _, _, _, _, _ => none
 | k + 1, x3, x4, x5, x6, x44 => if x44 = true then (if 0 ≤ x6 then (if x6 < (x4.size : Int) then ((pursuivantref10_language.f (bt x4 x6)).bind fun t131 => (if t131 = true then (pursuivantref10_Header.l0 k x3 x4 x5 (wrap64 (x6 - 1))) else (some false))) else (none)) else (none)) else (if 0 ≤ x6 then (if x6 < (x4.size : Int) then ((pursuivantref10_unsafe.f (bt x4 x6)).bind fun t132 => (if t132 = true then (some false) else (pursuivantref10_Header.l0 k x3 x4 x5 (wrap64 (x6 - 1))))) else (none)) else (none))
end
def pursuivantref10_Header.f (k : Nat) (a0_0 a0_1 : ByteArray) : Option (Bool) := (pursuivantref04_Lower.f k a0_0).bind fun t120 => (if (a0_1.size : Int) > 128 then (pursuivantref10_Header.j0 k t120 a0_1 true) else ((pursuivantref10_among.f k t120 (([(⟨#[97, 99, 99, 101, 112, 116]⟩ : ByteArray), (⟨#[97, 99, 99, 101, 112, 116, 45, 108, 97, 110, 103, 117, 97, 103, 101]⟩ : ByteArray), (⟨#[99, 111, 110, 116, 101, 110, 116, 45, 108, 97, 110, 103, 117, 97, 103, 101]⟩ : ByteArray), (⟨#[99, 111, 110, 116, 101, 110, 116, 45, 116, 121, 112, 101]⟩ : ByteArray)] : List ByteArray))).bind fun t124 => (pursuivantref10_Header.j0 k t120 a0_1 (!t124))))
set_option maxHeartbeats 8000000 in
set_option maxRecDepth 100000 in
theorem pursuivantref10_Header.calls (k : Nat) (a0_0 a0_1 : ByteArray) (r : Bool) (w : World) (hG_ : GW w) (h : pursuivantref10_Header.f k a0_0 a0_1 = some r) :
  Calls Tryz.prog 21 #[.agg #[.string a0_0, .string a0_1]] w fun e w' => e = .returned (.bool r) ∧ Below w.heap.size w w' := by
 have hu45 := Tryz.underlying45
 have HB := Aside0.mk (Below.refl w.heap.size w)
 have H : ((pursuivantref04_Lower.f k a0_0).bind fun t120 => (if (a0_1.size : Int) > 128 then (pursuivantref10_Header.j0 k t120 a0_1 true) else ((pursuivantref10_among.f k t120 (([(⟨#[97, 99, 99, 101, 112, 116]⟩ : ByteArray), (⟨#[97, 99, 99, 101, 112, 116, 45, 108, 97, 110, 103, 117, 97, 103, 101]⟩ : ByteArray), (⟨#[99, 111, 110, 116, 101, 110, 116, 45, 108, 97, 110, 103, 117, 97, 103, 101]⟩ : ByteArray), (⟨#[99, 111, 110, 116, 101, 110, 116, 45, 116, 121, 112, 101]⟩ : ByteArray)] : List ByteArray))).bind fun t124 => (pursuivantref10_Header.j0 k t120 a0_1 (!t124))))) = some r := h
 clear h
 replace H := Option.bind_eq_some_iff.mp H
 obtain ⟨t120, A20, H⟩ := H
 replace H : (if (a0_1.size : Int) > 128 then (pursuivantref10_Header.j0 k t120 a0_1 true) else ((pursuivantref10_among.f k t120 (([(⟨#[97, 99, 99, 101, 112, 116]⟩ : ByteArray), (⟨#[97, 99, 99, 101, 112, 116, 45, 108, 97, 110, 103, 117, 97, 103, 101]⟩ : ByteArray), (⟨#[99, 111, 110, 116, 101, 110, 116, 45, 108, 97, 110, 103, 117, 97, 103, 101]⟩ : ByteArray), (⟨#[99, 111, 110, 116, 101, 110, 116, 45, 116, 121, 112, 101]⟩ : ByteArray)] : List ByteArray))).bind fun t124 => (pursuivantref10_Header.j0 k t120 a0_1 (!t124)))) = some r := H
 have A2 := Aside0.mk A20; clear A20; have HC3 := Aside0.mk H; clear H
 go_enter Tryz.func21, Tryz.ntmps21
 try go_wp2_with (first | ((with_reducible refine gate_dst (N := 1) rfl ?_); (try (refine gate_guard (by rfl) ?_; dsimp only)); refine box_event ?hg (N := 1) ?hd (cs := #[.string a0_0, .string a0_1]) (t := 45) ?hr ?_; (case hd => rfl); (case hg => rfl); (case hr => first | (go_simp; done) | (go_simp; rfl)); intro gb119 hg w4 hbox hb; have n0_ := Aside0.mk (below_step z10_ hb); have n1_ := Aside0.mk (hbox); have n2_ := Aside0.mk ((by rw [hg]; exact (below_size z10_) : w.heap.size ≤ gb119)); have n3_ := Aside0.mk ((by rw [hg]; exact (below_size z10_) : w.heap.size ≤ gb119)); clear HB; have HB := n0_; have BK119 := n1_; have GW119 := n2_; have GE119 := n3_; clear n0_ n1_ n2_ n3_; clear hb hbox hg))
 have n0_ := Aside0.mk (blk_drew BK119.out)
 have n1_ := Aside0.mk (below_drew1 HB.out)
 clear BK119; clear HB
 have BK119 := n0_
 have HB := n1_
 clear n0_ n1_
 refine start_ (n := 7) (S := fun w' => w'.cell? ⟨gb119, 0, none⟩ = some (.string a0_0) ∧ w'.cell? ⟨gb119, 1, none⟩ = some (.string a0_1)) (ds := []) #[false, false, false, false, false, false, false] (by kernel_rfl) rfl rfl ⟨(blk_cell BK119.out 0).trans rfl, (blk_cell BK119.out 1).trans rfl⟩ (fun hHeld => ?_)
 generalize w4.drew = w5 at BK119 HB hHeld ⊢
 refine pure_ (i := 0) (N := some 7) (v := ?_) (a' := ?_) #[true, false, false, false, false, false, false] rfl rfl (by kernel_rfl) (fun _ _ _ h => h) (Or.inl ⟨by rfl, ?_⟩) ?_ ?_
 rotate_left
 ·intro w'
  go_simp
  with_reducible rfl
 rotate_left
 ·simp only [Act.put, List.setIfInBounds_toArray, List.set_cons_zero, List.set_cons_succ, i64_w, i32_w]
  rfl
 refine pure_ (i := 3) (N := some 10) (v := ?_) (a' := ?_) #[true, false, false, true, false, false, false] rfl rfl (by kernel_rfl) (fun _ _ _ h => h) (Or.inl ⟨by rfl, ?_⟩) ?_ ?_
 rotate_left
 ·intro w'
  go_simp
  with_reducible rfl
 rotate_left
 ·simp only [Act.put, List.setIfInBounds_toArray, List.set_cons_zero, List.set_cons_succ, i64_w, i32_w]
  rfl
 refine take_ (i := 1) (N := some 8) (v := ?_) (a' := ?_) #[true, true, false, true, false, false, false] rfl rfl (by kernel_rfl) (fun _ _ _ h => h) (Or.inl ⟨by rfl, ?_⟩) hHeld ?_ ?_
 rotate_left
 ·rintro w' ⟨s0, s1⟩
  go_simp
  with_reducible rfl
 rotate_left
 ·simp only [Act.put, List.setIfInBounds_toArray, List.set_cons_zero, List.set_cons_succ, i64_w, i32_w]
  rfl
 refine take_ (i := 4) (N := some 11) (v := ?_) (a' := ?_) #[true, true, false, true, true, false, false] rfl rfl (by kernel_rfl) (fun _ _ _ h => h) (Or.inl ⟨by rfl, ?_⟩) hHeld ?_ ?_
 rotate_left
 ·rintro w' ⟨s0, s1⟩
  go_simp
  with_reducible rfl
 rotate_left
 ·simp only [Act.put, List.setIfInBounds_toArray, List.set_cons_zero, List.set_cons_succ, i64_w, i32_w]
  rfl
 refine one_ (i := 2) (N := some 9) #[true, true, true, true, true, false, false] rfl rfl (by kernel_rfl) (by decide) (fun K hK => ?_)
 refine goes_ Tryz.func34 (by kernel_rfl) rfl #[.string a0_0] (by rfl) rfl rfl z9_ ?_
 with_reducible refine (pursuivantref04_Lower.calls k a0_0 t120 _ ?gw40_ A2.out).mono ?_
 case gw40_ => exact z2_
 rintro e w6 ⟨rfl, hb⟩
 refine ⟨_, rfl, ?_⟩
 have n0_ := Aside0.mk (blk_below (g := gb119) (o := .cells #[.string a0_0, .string a0_1] 45 (0, 0)) z14_ hb)
 have n1_ := Aside0.mk (below_step z7_ hb)
 clear BK119; clear HB
 have BK119 := n0_
 have HB := n1_
 clear n0_ n1_
 (try clear hb)
 (try clear hb2)
 (try clear hk)
 (try clear hi)
 refine hK.out _ _ ⟨(blk_cell BK119.out 0).trans rfl, (blk_cell BK119.out 1).trans rfl⟩ (fun hHeld => ?_)
 clear hK K
 refine norm_ (a' := ?_) ?_ ?_
 rotate_left
 ·show Act.put _ (some 9) _ = _
  simp only [Act.put, List.setIfInBounds_toArray, List.set_cons_zero, List.set_cons_succ, i64_w, i32_w]
  rfl
 refine pure_ (i := 5) (N := some 3) (v := ?_) (a' := ?_) #[true, true, true, true, true, true, false] rfl rfl (by kernel_rfl) (fun _ _ _ h => h) (Or.inl ⟨by rfl, ?_⟩) ?_ ?_
 rotate_left
 ·intro w'
  go_simp
  with_reducible rfl
 rotate_left
 ·simp only [Act.put, List.setIfInBounds_toArray, List.set_cons_zero, List.set_cons_succ, i64_w, i32_w]
  rfl
 refine pure_ (i := 6) (N := some 4) (v := ?_) (a' := ?_) #[true, true, true, true, true, true, true] rfl rfl (by kernel_rfl) (fun _ _ _ h => h) (Or.inl ⟨by rfl, ?_⟩) ?_ ?_
 rotate_left
 ·intro w'
  go_simp
  with_reducible rfl
 rotate_left
 ·simp only [Act.put, List.setIfInBounds_toArray, List.set_cons_zero, List.set_cons_succ, i64_w, i32_w]
  rfl
 refine done_ (by kernel_rfl) ?_
 go_upto_region 2 with (fail)
 go_cut [20] (fun v20 wc => ∃ (kq : Nat) (x20_2 : Bool), v20 = .bool x20_2 ∧ Aside0 (pursuivantref10_Header.j0 kq t120 a0_1 x20_2 = some r) ∧ Aside0 (kq ≤ k) ∧ Aside0 (wc.heap[gb119]? = some (.cells #[.string a0_0, .string a0_1] 45 (0, 0))) ∧ Aside0 (Below w.heap.size w wc))
 case first =>
  have H := HC3.out
  clear HC3
  by_cases c7 : (a0_1.size : Int) > 128
  ·rw [if_pos c7] at H
   have c7b0 : decide (128 < (a0_1.size : Int)) = true := decide_eq_true c7
   have c7b1 : decide (128 < a0_1.size) = true := decide_eq_true (by omega)
   clear c7
   (first | rw [c7b0] | (simp only [i64_w, i32_w]; rw [c7b0]) | skip)
   have H' := Aside0.mk H
   clear H; go_wp2; go_meet
   case rel => exact ⟨_, (true), z29_, H', ⟨z33_⟩, ⟨z14_⟩, ⟨z7_⟩⟩
  ·rw [if_neg c7] at H
   have c7b0 : decide (128 < (a0_1.size : Int)) = false := decide_eq_false c7
   have c7b1 : decide (128 < a0_1.size) = false := decide_eq_false (by omega)
   clear c7
   (first | rw [c7b0] | (simp only [i64_w, i32_w]; rw [c7b0]) | skip)
   obtain ⟨y121, hy121⟩ : ∃ y_ : List ByteArray, y_ = (([(⟨#[97, 99, 99, 101, 112, 116]⟩ : ByteArray), (⟨#[97, 99, 99, 101, 112, 116, 45, 108, 97, 110, 103, 117, 97, 103, 101]⟩ : ByteArray), (⟨#[99, 111, 110, 116, 101, 110, 116, 45, 108, 97, 110, 103, 117, 97, 103, 101]⟩ : ByteArray), (⟨#[99, 111, 110, 116, 101, 110, 116, 45, 116, 121, 112, 101]⟩ : ByteArray)] : List ByteArray)) := ⟨_, rfl⟩
   replace H : ((pursuivantref10_among.f k t120 y121).bind fun t124 => (pursuivantref10_Header.j0 k t120 a0_1 (!t124))) = some r := by first | (rw [hy121]; with_reducible exact H) | (have H2_ := (Option.bind_some _ _).symm.trans H; rw [hy121]; with_reducible exact H2_) | (have H2_ := (Option.bind_some _ _).symm.trans H; with_reducible exact H2_) | with_reducible exact H | (rw [hy121]; exact H) | exact H
   have Ny121 := Aside0.mk hy121; clear hy121
   replace H := Option.bind_eq_some_iff.mp H
   obtain ⟨t124, A80, H⟩ := H
   replace H : (pursuivantref10_Header.j0 k t120 a0_1 (!t124)) = some r := H
   have A8 := Aside0.mk A80; clear A80
   have H' := Aside0.mk H
   clear H
   go_wp2_with (first | ((with_reducible refine gate_dst (N := 17) rfl ?_); (try (refine gate_guard (by rfl) ?_; dsimp only)); refine Kd.R_lit Kd.string _ 9 ?hg (N := 17) ?hd (xs := ([(⟨#[97, 99, 99, 101, 112, 116]⟩ : ByteArray), (⟨#[97, 99, 99, 101, 112, 116, 45, 108, 97, 110, 103, 117, 97, 103, 101]⟩ : ByteArray), (⟨#[99, 111, 110, 116, 101, 110, 116, 45, 108, 97, 110, 103, 117, 97, 103, 101]⟩ : ByteArray), (⟨#[99, 111, 110, 116, 101, 110, 116, 45, 116, 121, 112, 101]⟩ : ByteArray)] : List ByteArray)) (inner := [.string (⟨#[97, 99, 99, 101, 112, 116]⟩ : ByteArray), .string (⟨#[97, 99, 99, 101, 112, 116, 45, 108, 97, 110, 103, 117, 97, 103, 101]⟩ : ByteArray), .string (⟨#[99, 111, 110, 116, 101, 110, 116, 45, 108, 97, 110, 103, 117, 97, 103, 101]⟩ : ByteArray), .string (⟨#[99, 111, 110, 116, 101, 110, 116, 45, 116, 121, 112, 101]⟩ : ByteArray)]) (ok := fun _ => True) (okp := fun _ => True) ?hr ?hp (fun _ hk => hk) trivial (Below.refl _ _) (Nat.le_refl _) (by simp) ?_; (case hd => rfl); (case hg => rfl); (case hr => first | (go_simp; done) | (go_simp; rfl)); (case hp => exact (Reps.one (show Kd.M Kd.string _ _ _ (⟨#[97, 99, 99, 101, 112, 116]⟩ : ByteArray) [.string (⟨#[97, 99, 99, 101, 112, 116]⟩ : ByteArray)] from rfl) (Reps.one (show Kd.M Kd.string _ _ _ (⟨#[97, 99, 99, 101, 112, 116, 45, 108, 97, 110, 103, 117, 97, 103, 101]⟩ : ByteArray) [.string (⟨#[97, 99, 99, 101, 112, 116, 45, 108, 97, 110, 103, 117, 97, 103, 101]⟩ : ByteArray)] from rfl) (Reps.one (show Kd.M Kd.string _ _ _ (⟨#[99, 111, 110, 116, 101, 110, 116, 45, 108, 97, 110, 103, 117, 97, 103, 101]⟩ : ByteArray) [.string (⟨#[99, 111, 110, 116, 101, 110, 116, 45, 108, 97, 110, 103, 117, 97, 103, 101]⟩ : ByteArray)] from rfl) (Reps.one (show Kd.M Kd.string _ _ _ (⟨#[99, 111, 110, 116, 101, 110, 116, 45, 116, 121, 112, 101]⟩ : ByteArray) [.string (⟨#[99, 111, 110, 116, 101, 110, 116, 45, 116, 121, 112, 101]⟩ : ByteArray)] from rfl) (Reps.none _ _)))))); intro v122 w9 ho10 hb hg_ hnew_; clear hg_ hnew_; (first | rw [← Ny121.out] at ho10 | (simp only [Int.reduceToNat] at ho10; rw [← Ny121.out] at ho10)); have n0_ := Aside0.mk (Kd.R_lower ho10 (below_size z7_)); have n1_ := Aside0.mk (blk_below (g := gb119) (o := .cells #[.string a0_0, .string a0_1] 45 (0, 0)) z14_ hb); have n2_ := Aside0.mk (below_step z7_ hb); clear BK119; clear HB; have HO123 := n0_; have BK119 := n1_; have HB := n2_; clear n0_ n1_ n2_; clear hb ho10; obtain ⟨Ao11, co11, eo11⟩ := Kd.R_slice HO123.out; subst eo11) | (go_at_call 40; (fail_if_success (have z_ := U_13)); have U_13 := trivial; (with_reducible refine (pursuivantref10_among.calls k t120 _ _ y121 t124 _ ?gw31_ ?side1 ?side2 A8.out).mono ?_); (case gw31_ => exact z2_); (case side1 => repeat (first | exact (Kd.R_reads' HO123.out).2.2 | (with_reducible refine Kd.C_alloc ?_ _) | (with_reducible refine Kd.C_drewN ?_ _) | (with_reducible refine Kd.C_drew ?_))); (case side2 => exact (Kd.R_reads' HO123.out).2.1); rintro e w' ⟨rfl, ⟨nd, rfl⟩⟩))
   go_meet
   case rel => exact ⟨_, (!t124), z29_, H', ⟨z33_⟩, ⟨z14_⟩, ⟨z7_⟩⟩
 case rest =>
  clear HC3
  obtain ⟨kq, x20_2, rfl, HA, HJ2, BK119, HB⟩ := hcut
  cases kq with
  | zero => exact absurd HA.out (by simp [pursuivantref10_Header.j0])
  | succ kj2 =>
   have H := HA.out
   clear HA
   simp only [pursuivantref10_Header.j0] at H
   by_cases c12 : x20_2 = true
   ·subst c12
    have H1 : (some false) = some r := by rw [if_pos rfl] at H; exact H
    clear H
    have H := H1
    clear H1
    obtain rfl := Option.some.inj H
    go_wp2
    go_ret
    exact ⟨z11_, z7_⟩
   ·replace c12 := Bool.eq_false_iff.mpr c12
    subst c12
    have H1 : (pursuivantref10_Header.l0 kj2 t120 a0_1 (a0_1.size : Int) (wrap64 ((a0_1.size : Int) - 1))) = some r := by rw [if_neg (show ¬ (false = true) by decide)] at H; exact H
    clear H
    have H := H1
    clear H1
    have H' := Aside0.mk H
    clear H; go_wp2
    go_loopg [5, 6] kj2 (fun kq v5 v6 w' => ∃ (x5_2 x6_2 : Int), v5 = .int .i64 x5_2 ∧ v6 = .int .i64 x6_2 ∧ Aside0 (pursuivantref10_Header.l0 kq t120 a0_1 x5_2 x6_2 = some r) ∧ Aside0 (kq ≤ kj2) ∧ Aside0 (w'.heap[gb119]? = some (.cells #[.string a0_0, .string a0_1] 45 (0, 0))) ∧ Aside0 (Below w.heap.size w w'))
    case atStart => exact ⟨((a0_1.size : Int)), (wrap64 ((a0_1.size : Int) - 1)), z29_, z29_, H', ⟨Nat.le_refl _⟩, ⟨z14_⟩, ⟨z7_⟩⟩
    case round =>
     clear H'; (try clear c12)
     obtain ⟨x5_2, x6_2, rfl, rfl, HA, HK2, BK119, HB⟩ := hrel
     cases gk with
     | zero => exact absurd HA.out (by simp [pursuivantref10_Header.l0])
     | succ k2 =>
      have H := HA.out
      clear HA
      simp only [pursuivantref10_Header.l0] at H
      by_cases c13 : x6_2 ≥ 0
      ·rw [if_pos c13] at H
       have c13b0 : decide (0 ≤ x6_2) = true := decide_eq_true c13; clear c13
       by_cases c14 : 0 ≤ x6_2
       ·rw [if_pos c14] at H
        have c14b0 : decide (0 ≤ x6_2) = true := decide_eq_true c14; clear c14
        by_cases c15 : x6_2 < (a0_1.size : Int)
        ·rw [if_pos c15] at H
         have c15b0 : decide (x6_2 < (a0_1.size : Int)) = true := decide_eq_true c15; clear c15; have HC17 := Aside0.mk H; clear H
         have p16 : 0 ≤ (x6_2 : Int) := of_decide_eq_true z32_
         have q16 : x6_2 < (a0_1.size : Int) := of_decide_eq_true z32_
         have hx16 := bt_at a0_1 x6_2
         replace p16 := eq_true p16
         replace q16 := eq_true q16
         go_upto_if 33 with (fail)
         go_cut [5] (fun v5 wc => ∃ (kq : Nat) (x5_16 : Int), v5 = .int .i64 x5_16 ∧ Aside0 (pursuivantref10_Header.j2 kq t120 a0_1 x5_16 x6_2 = some r) ∧ Aside0 (kq ≤ k2) ∧ Aside0 (wc.heap[gb119]? = some (.cells #[.string a0_0, .string a0_1] 45 (0, 0))) ∧ Aside0 (Below w.heap.size w wc))
         case first =>
          have H := HC17.out
          clear HC17
          by_cases c18 : (bt a0_1 x6_2) = 59
          ·rw [if_pos c18] at H
           have c18b0 : ((bt a0_1 x6_2) == 59) = true := beq_iff_eq.mpr c18
           have c18b1 : ((bt a0_1 x6_2) != 59) = false := bne_eq_false_iff_eq.mpr c18
           clear c18
           (first | rw [c18b0] | (simp only [i64_w, i32_w]; rw [c18b0]) | skip)
           have H' := Aside0.mk H
           clear H; go_wp2; go_meet
           case rel => exact ⟨_, (x6_2), z29_, H', ⟨by have := HJ2.out; have := HK2.out; first | omega | exact Nat.le_refl _⟩, ⟨z14_⟩, ⟨z7_⟩⟩
          ·rw [if_neg c18] at H
           have c18b0 : ((bt a0_1 x6_2) == 59) = false := beq_eq_false_iff_ne.mpr c18
           have c18b1 : ((bt a0_1 x6_2) != 59) = true := bne_iff_ne.mpr c18
           (first | rw [c18b0] | (simp only [i64_w, i32_w]; rw [c18b0]) | skip)
           have H' := Aside0.mk H
           clear H; go_wp2; go_meet
           case rel => exact ⟨_, (x5_2), z29_, H', ⟨by have := HJ2.out; have := HK2.out; first | omega | exact Nat.le_refl _⟩, ⟨z14_⟩, ⟨z7_⟩⟩
         case rest =>
          clear HC17; (try clear c12); (try clear c13); (try clear c13b0); (try clear c14); (try clear c14b0); (try clear c15); (try clear c15b0); (try clear p16); (try clear q16); (try clear hx16); (try clear p16); (try clear q16)
          obtain ⟨kq, x5_16, rfl, HA, HJ16, BK119, HB⟩ := hcut
          cases kq with
          | zero => exact absurd HA.out (by simp [pursuivantref10_Header.j2])
          | succ kj16 =>
           have H := HA.out
           clear HA
           simp only [pursuivantref10_Header.j2] at H
           have HC19 := Aside0.mk H; clear H
           go_upto_region 10 with (fail)
           go_cut [44] (fun v44 wc => ∃ (kq : Nat) (x44_18 : Bool), v44 = .bool x44_18 ∧ Aside0 (pursuivantref10_Header.j3 kq t120 a0_1 x5_16 x6_2 x44_18 = some r) ∧ Aside0 (kq ≤ kj16) ∧ Aside0 (wc.heap[gb119]? = some (.cells #[.string a0_0, .string a0_1] 45 (0, 0))) ∧ Aside0 (Below w.heap.size w wc))
           case first =>
            have H := HC19.out
            clear HC19
            obtain ⟨ji20, hji20⟩ : ∃ j_ : Int, (wrap64 ((t120.size : Int) - 1)) = j_ := ⟨_, rfl⟩
            replace H : (if 0 ≤ (ji20) then (if (ji20) < (t120.size : Int) then (if (bt t120 (ji20)) = 101 then (pursuivantref10_Header.j3 kj16 t120 a0_1 x5_16 x6_2 (t120.toList != ([99, 111, 110, 116, 101, 110, 116, 45, 116, 121, 112, 101] : List UInt8))) else (pursuivantref10_Header.j3 kj16 t120 a0_1 x5_16 x6_2 false)) else (none)) else (none)) = some r := by first | (rw [hji20] at H; exact H) | (simp only [hji20] at H ⊢; exact H)
            have hji20w : (IntKind.i64.wrap ((t120.size : Int) - 1)) = ji20 := (i64_w _).trans hji20
            by_cases c21 : 0 ≤ (ji20)
            ·rw [if_pos c21] at H
             have c21b0 : decide (0 ≤ (ji20)) = true := decide_eq_true c21; clear c21
             (first | rw [c21b0] | (simp only [i64_w, i32_w]; rw [c21b0]) | skip)
             by_cases c22 : (ji20) < (t120.size : Int)
             ·rw [if_pos c22] at H
              have c22b0 : decide ((ji20) < (t120.size : Int)) = true := decide_eq_true c22; clear c22
              by_cases c24 : (bt t120 (ji20)) = 101
              ·rw [if_pos c24] at H
               have c24b0 : ((bt t120 (ji20)) == 101) = true := beq_iff_eq.mpr c24
               have c24b1 : ((bt t120 (ji20)) != 101) = false := bne_eq_false_iff_eq.mpr c24
               clear c24
               have H' := Aside0.mk H
               clear H
               have p23 : 0 ≤ ((ji20) : Int) := of_decide_eq_true z32_
               have q23 : (ji20) < (t120.size : Int) := of_decide_eq_true z32_
               have hx23 := bt_at t120 (ji20)
               replace p23 := eq_true p23
               replace q23 := eq_true q23
               go_wp2; go_meet
               case rel => exact ⟨_, ((t120.toList != ([99, 111, 110, 116, 101, 110, 116, 45, 116, 121, 112, 101] : List UInt8))), z29_, H', ⟨by have := HJ2.out; have := HK2.out; have := HJ16.out; first | omega | exact Nat.le_refl _⟩, ⟨z14_⟩, ⟨z7_⟩⟩
              ·rw [if_neg c24] at H
               have c24b0 : ((bt t120 (ji20)) == 101) = false := beq_eq_false_iff_ne.mpr c24
               have c24b1 : ((bt t120 (ji20)) != 101) = true := bne_iff_ne.mpr c24
               have H' := Aside0.mk H
               clear H
               have p23 : 0 ≤ ((ji20) : Int) := of_decide_eq_true z32_
               have q23 : (ji20) < (t120.size : Int) := of_decide_eq_true z32_
               have hx23 := bt_at t120 (ji20)
               replace p23 := eq_true p23
               replace q23 := eq_true q23
               go_wp2; go_meet
               case rel => exact ⟨_, (false), z29_, H', ⟨by have := HJ2.out; have := HK2.out; have := HJ16.out; first | omega | exact Nat.le_refl _⟩, ⟨z14_⟩, ⟨z7_⟩⟩
             ·rw [if_neg c22] at H
              exact absurd H (by simp)
            ·rw [if_neg c21] at H
             exact absurd H (by simp)
           case rest =>
            clear HC19; (try clear c12); (try clear c13); (try clear c13b0); (try clear c14); (try clear c14b0); (try clear c15); (try clear c15b0); (try clear p16); (try clear q16); (try clear hx16); (try clear p16); (try clear q16)
            obtain ⟨kq, x44_18, rfl, HA, HJ18, BK119, HB⟩ := hcut
            cases kq with
            | zero => exact absurd HA.out (by simp [pursuivantref10_Header.j3])
            | succ kj18 =>
             have H := HA.out
             clear HA
             simp only [pursuivantref10_Header.j3] at H
             by_cases c25 : x44_18 = true
             ·subst c25
              have H1 : (if 0 ≤ x6_2 then (if x6_2 < (a0_1.size : Int) then ((pursuivantref10_language.f (bt a0_1 x6_2)).bind fun t131 => (if t131 = true then (pursuivantref10_Header.l0 kj18 t120 a0_1 x5_16 (wrap64 (x6_2 - 1))) else (some false))) else (none)) else (none)) = some r := by rw [if_pos rfl] at H; exact H
              clear H
              have H := H1
              clear H1
              by_cases c26 : 0 ≤ x6_2
              ·rw [if_pos c26] at H
               have c26b0 : decide (0 ≤ x6_2) = true := decide_eq_true c26; clear c26
               by_cases c27 : x6_2 < (a0_1.size : Int)
               ·rw [if_pos c27] at H
                have c27b0 : decide (x6_2 < (a0_1.size : Int)) = true := decide_eq_true c27; clear c27
                replace H := Option.bind_eq_some_iff.mp H
                obtain ⟨t131, A290, H⟩ := H
                replace H : (if t131 = true then (pursuivantref10_Header.l0 kj18 t120 a0_1 x5_16 (wrap64 (x6_2 - 1))) else (some false)) = some r := H
                have A29 := Aside0.mk A290; clear A290
                by_cases c30 : t131 = true
                ·subst c30
                 have H1 : (pursuivantref10_Header.l0 kj18 t120 a0_1 x5_16 (wrap64 (x6_2 - 1))) = some r := by rw [if_pos rfl] at H; exact H
                 clear H
                 have H := H1
                 clear H1
                 have H' := Aside0.mk H
                 clear H
                 have p28 : 0 ≤ (x6_2 : Int) := of_decide_eq_true z32_
                 have q28 : x6_2 < (a0_1.size : Int) := of_decide_eq_true z32_
                 have hx28 := bt_at a0_1 x6_2
                 replace p28 := eq_true p28
                 replace q28 := eq_true q28
                 go_wp2_with (first | ((with_reducible refine gate_callee (f := 45) rfl ?_); refine goesL_ (some 48) rfl rfl Tryz.func45 (by kernel_rfl) rfl #[.int .u8 (bt a0_1 x6_2)] rfl z9_ ?_; (with_reducible refine (pursuivantref10_language.calls (bt a0_1 x6_2) true _ ?gw32_ A29.out).mono ?_); (case gw32_ => exact z2_); rintro e w' ⟨rfl, ⟨nd, rfl⟩⟩; refine ⟨_, rfl, ?_⟩))
                 go_roundg kj18
                 case measure => have := HJ2.out; have := HK2.out; have := HJ16.out; have := HJ18.out; omega
                 case rel => exact ⟨(x5_16), (wrap64 (x6_2 - 1)), z29_, z29_, H', ⟨by have := HJ2.out; have := HK2.out; have := HJ16.out; have := HJ18.out; omega⟩, ⟨z14_⟩, ⟨z7_⟩⟩
                ·replace c30 := Bool.eq_false_iff.mpr c30
                 subst c30
                 have H1 : (some false) = some r := by rw [if_neg (show ¬ (false = true) by decide)] at H; exact H
                 clear H
                 have H := H1
                 clear H1
                 obtain rfl := Option.some.inj H
                 have p28 : 0 ≤ (x6_2 : Int) := of_decide_eq_true z32_
                 have q28 : x6_2 < (a0_1.size : Int) := of_decide_eq_true z32_
                 have hx28 := bt_at a0_1 x6_2
                 replace p28 := eq_true p28
                 replace q28 := eq_true q28
                 go_wp2_with (first | ((with_reducible refine gate_callee (f := 45) rfl ?_); refine goesL_ (some 48) rfl rfl Tryz.func45 (by kernel_rfl) rfl #[.int .u8 (bt a0_1 x6_2)] rfl z9_ ?_; (with_reducible refine (pursuivantref10_language.calls (bt a0_1 x6_2) false _ ?gw33_ A29.out).mono ?_); (case gw33_ => exact z2_); rintro e w' ⟨rfl, ⟨nd, rfl⟩⟩; refine ⟨_, rfl, ?_⟩))
                 go_ret
                 exact ⟨z11_, z7_⟩
               ·rw [if_neg c27] at H
                exact absurd H (by simp)
              ·rw [if_neg c26] at H
               exact absurd H (by simp)
             ·replace c25 := Bool.eq_false_iff.mpr c25
              subst c25
              have H1 : (if 0 ≤ x6_2 then (if x6_2 < (a0_1.size : Int) then ((pursuivantref10_unsafe.f (bt a0_1 x6_2)).bind fun t132 => (if t132 = true then (some false) else (pursuivantref10_Header.l0 kj18 t120 a0_1 x5_16 (wrap64 (x6_2 - 1))))) else (none)) else (none)) = some r := by rw [if_neg (show ¬ (false = true) by decide)] at H; exact H
              clear H
              have H := H1
              clear H1
              by_cases c31 : 0 ≤ x6_2
              ·rw [if_pos c31] at H
               have c31b0 : decide (0 ≤ x6_2) = true := decide_eq_true c31; clear c31
               by_cases c32 : x6_2 < (a0_1.size : Int)
               ·rw [if_pos c32] at H
                have c32b0 : decide (x6_2 < (a0_1.size : Int)) = true := decide_eq_true c32; clear c32
                replace H := Option.bind_eq_some_iff.mp H
                obtain ⟨t132, A340, H⟩ := H
                replace H : (if t132 = true then (some false) else (pursuivantref10_Header.l0 kj18 t120 a0_1 x5_16 (wrap64 (x6_2 - 1)))) = some r := H
                have A34 := Aside0.mk A340; clear A340
                by_cases c35 : t132 = true
                ·subst c35
                 have H1 : (some false) = some r := by rw [if_pos rfl] at H; exact H
                 clear H
                 have H := H1
                 clear H1
                 obtain rfl := Option.some.inj H
                 have p33 : 0 ≤ (x6_2 : Int) := of_decide_eq_true z32_
                 have q33 : x6_2 < (a0_1.size : Int) := of_decide_eq_true z32_
                 have hx33 := bt_at a0_1 x6_2
                 replace p33 := eq_true p33
                 replace q33 := eq_true q33
                 go_wp2_with (first | ((with_reducible refine gate_callee (f := 46) rfl ?_); refine goesL_ (some 53) rfl rfl Tryz.func46 (by kernel_rfl) rfl #[.int .u8 (bt a0_1 x6_2)] rfl z9_ ?_; (with_reducible refine (pursuivantref10_unsafe.calls (bt a0_1 x6_2) true _ ?gw34_ A34.out).mono ?_); (case gw34_ => exact z2_); rintro e w' ⟨rfl, ⟨nd, rfl⟩⟩; refine ⟨_, rfl, ?_⟩))
                 go_ret
                 exact ⟨z11_, z7_⟩
                ·replace c35 := Bool.eq_false_iff.mpr c35
                 subst c35
                 have H1 : (pursuivantref10_Header.l0 kj18 t120 a0_1 x5_16 (wrap64 (x6_2 - 1))) = some r := by rw [if_neg (show ¬ (false = true) by decide)] at H; exact H
                 clear H
                 have H := H1
                 clear H1
                 have H' := Aside0.mk H
                 clear H
                 have p33 : 0 ≤ (x6_2 : Int) := of_decide_eq_true z32_
                 have q33 : x6_2 < (a0_1.size : Int) := of_decide_eq_true z32_
                 have hx33 := bt_at a0_1 x6_2
                 replace p33 := eq_true p33
                 replace q33 := eq_true q33
                 go_wp2_with (first | ((with_reducible refine gate_callee (f := 46) rfl ?_); refine goesL_ (some 53) rfl rfl Tryz.func46 (by kernel_rfl) rfl #[.int .u8 (bt a0_1 x6_2)] rfl z9_ ?_; (with_reducible refine (pursuivantref10_unsafe.calls (bt a0_1 x6_2) false _ ?gw35_ A34.out).mono ?_); (case gw35_ => exact z2_); rintro e w' ⟨rfl, ⟨nd, rfl⟩⟩; refine ⟨_, rfl, ?_⟩))
                 go_roundg kj18
                 case measure => have := HJ2.out; have := HK2.out; have := HJ16.out; have := HJ18.out; omega
                 case rel => exact ⟨(x5_16), (wrap64 (x6_2 - 1)), z29_, z29_, H', ⟨by have := HJ2.out; have := HK2.out; have := HJ16.out; have := HJ18.out; omega⟩, ⟨z14_⟩, ⟨z7_⟩⟩
               ·rw [if_neg c32] at H
                exact absurd H (by simp)
              ·rw [if_neg c31] at H
               exact absurd H (by simp)
        ·rw [if_neg c15] at H
         exact absurd H (by simp)
       ·rw [if_neg c14] at H
        exact absurd H (by simp)
      ·rw [if_neg c13] at H
       have c13b0 : decide (0 ≤ x6_2) = false := decide_eq_false c13; clear c13
       by_cases c36 : t120.toList = ([99, 111, 110, 116, 101, 110, 116, 45, 116, 121, 112, 101] : List UInt8)
       ·rw [if_pos c36] at H
        have c36b0 : (t120.toList == ([99, 111, 110, 116, 101, 110, 116, 45, 116, 121, 112, 101] : List UInt8)) = true := beq_iff_eq.mpr c36
        have c36b1 : (t120.toList != ([99, 111, 110, 116, 101, 110, 116, 45, 116, 121, 112, 101] : List UInt8)) = false := bne_eq_false_iff_eq.mpr c36
        clear c36
        by_cases c37 : 0 ≤ x5_2
        ·rw [if_pos c37] at H
         have c37b0 := eq_true c37; have c37b1 : decide (0 ≤ x5_2) = true := decide_eq_true c37; clear c37
         by_cases c38 : x5_2 ≤ (a0_1.size : Int)
         ·rw [if_pos c38] at H
          have c38b0 := eq_true c38; have c38b1 : decide (x5_2 ≤ (a0_1.size : Int)) = true := decide_eq_true c38; clear c38
          replace H := Option.bind_eq_some_iff.mp H
          obtain ⟨t125, A390, H⟩ := H
          replace H : ((pursuivantref04_Lower.f k2 t125).bind fun t126 => ((pursuivantref10_among.f k2 t126 (([(⟨#[116, 101, 120, 116, 47, 112, 108, 97, 105, 110]⟩ : ByteArray), (⟨#[109, 117, 108, 116, 105, 112, 97, 114, 116, 47, 102, 111, 114, 109, 45, 100, 97, 116, 97]⟩ : ByteArray), (⟨#[97, 112, 112, 108, 105, 99, 97, 116, 105, 111, 110, 47, 120, 45, 119, 119, 119, 45, 102, 111, 114, 109, 45, 117, 114, 108, 101, 110, 99, 111, 100, 101, 100]⟩ : ByteArray)] : List ByteArray))).bind fun t130 => (some t130))) = some r := H
          have A39 := Aside0.mk A390; clear A390
          replace H := Option.bind_eq_some_iff.mp H
          obtain ⟨t126, A400, H⟩ := H
          replace H : ((pursuivantref10_among.f k2 t126 (([(⟨#[116, 101, 120, 116, 47, 112, 108, 97, 105, 110]⟩ : ByteArray), (⟨#[109, 117, 108, 116, 105, 112, 97, 114, 116, 47, 102, 111, 114, 109, 45, 100, 97, 116, 97]⟩ : ByteArray), (⟨#[97, 112, 112, 108, 105, 99, 97, 116, 105, 111, 110, 47, 120, 45, 119, 119, 119, 45, 102, 111, 114, 109, 45, 117, 114, 108, 101, 110, 99, 111, 100, 101, 100]⟩ : ByteArray)] : List ByteArray))).bind fun t130 => (some t130)) = some r := H
          have A40 := Aside0.mk A400; clear A400
          obtain ⟨y127, hy127⟩ : ∃ y_ : List ByteArray, y_ = (([(⟨#[116, 101, 120, 116, 47, 112, 108, 97, 105, 110]⟩ : ByteArray), (⟨#[109, 117, 108, 116, 105, 112, 97, 114, 116, 47, 102, 111, 114, 109, 45, 100, 97, 116, 97]⟩ : ByteArray), (⟨#[97, 112, 112, 108, 105, 99, 97, 116, 105, 111, 110, 47, 120, 45, 119, 119, 119, 45, 102, 111, 114, 109, 45, 117, 114, 108, 101, 110, 99, 111, 100, 101, 100]⟩ : ByteArray)] : List ByteArray)) := ⟨_, rfl⟩
          replace H : ((pursuivantref10_among.f k2 t126 y127).bind fun t130 => (some t130)) = some r := by first | (rw [hy127]; with_reducible exact H) | (have H2_ := (Option.bind_some _ _).symm.trans H; rw [hy127]; with_reducible exact H2_) | (have H2_ := (Option.bind_some _ _).symm.trans H; with_reducible exact H2_) | with_reducible exact H | (rw [hy127]; exact H) | exact H
          have Ny127 := Aside0.mk hy127; clear hy127
          replace H := Option.bind_eq_some_iff.mp H
          obtain ⟨t130, A410, H⟩ := H
          replace H : (some t130) = some r := H
          have A41 := Aside0.mk A410; clear A410
          obtain rfl := Option.some.inj H
          go_wp2_with (first | (go_at_call 47; (fail_if_success (have z_ := U_14)); have U_14 := trivial; (with_reducible refine (pursuivantref04_Trim.calls k2 (a0_1.extract 0 (x5_2 : Int).toNat) t125 _ ?gw36_ A39.out).mono ?_); (case gw36_ => exact z2_); rintro e w' ⟨rfl, ⟨nd, rfl⟩⟩) | (go_at_call 34; (fail_if_success (have z_ := U_15)); have U_15 := trivial; (with_reducible refine (pursuivantref04_Lower.calls k2 t125 t126 _ ?gw37_ A40.out).mono ?_); (case gw37_ => exact z2_); rintro e w42 ⟨rfl, hb⟩; have n0_ := Aside0.mk (blk_below (g := gb119) (o := .cells #[.string a0_0, .string a0_1] 45 (0, 0)) z14_ hb); have n1_ := Aside0.mk (below_step z7_ hb); clear BK119; clear HB; have BK119 := n0_; have HB := n1_; clear n0_ n1_; (try clear hb); (try clear hb2); (try clear hk); (try clear hi)) | ((with_reducible refine gate_dst (N := 62) rfl ?_); (try (refine gate_guard (by rfl) ?_; dsimp only)); refine Kd.R_lit Kd.string _ 9 ?hg (N := 62) ?hd (xs := ([(⟨#[116, 101, 120, 116, 47, 112, 108, 97, 105, 110]⟩ : ByteArray), (⟨#[109, 117, 108, 116, 105, 112, 97, 114, 116, 47, 102, 111, 114, 109, 45, 100, 97, 116, 97]⟩ : ByteArray), (⟨#[97, 112, 112, 108, 105, 99, 97, 116, 105, 111, 110, 47, 120, 45, 119, 119, 119, 45, 102, 111, 114, 109, 45, 117, 114, 108, 101, 110, 99, 111, 100, 101, 100]⟩ : ByteArray)] : List ByteArray)) (inner := [.string (⟨#[116, 101, 120, 116, 47, 112, 108, 97, 105, 110]⟩ : ByteArray), .string (⟨#[109, 117, 108, 116, 105, 112, 97, 114, 116, 47, 102, 111, 114, 109, 45, 100, 97, 116, 97]⟩ : ByteArray), .string (⟨#[97, 112, 112, 108, 105, 99, 97, 116, 105, 111, 110, 47, 120, 45, 119, 119, 119, 45, 102, 111, 114, 109, 45, 117, 114, 108, 101, 110, 99, 111, 100, 101, 100]⟩ : ByteArray)]) (ok := fun _ => True) (okp := fun _ => True) ?hr ?hp (fun _ hk => hk) trivial (Below.refl _ _) (Nat.le_refl _) (by simp) ?_; (case hd => rfl); (case hg => rfl); (case hr => first | (go_simp; done) | (go_simp; rfl)); (case hp => exact (Reps.one (show Kd.M Kd.string _ _ _ (⟨#[116, 101, 120, 116, 47, 112, 108, 97, 105, 110]⟩ : ByteArray) [.string (⟨#[116, 101, 120, 116, 47, 112, 108, 97, 105, 110]⟩ : ByteArray)] from rfl) (Reps.one (show Kd.M Kd.string _ _ _ (⟨#[109, 117, 108, 116, 105, 112, 97, 114, 116, 47, 102, 111, 114, 109, 45, 100, 97, 116, 97]⟩ : ByteArray) [.string (⟨#[109, 117, 108, 116, 105, 112, 97, 114, 116, 47, 102, 111, 114, 109, 45, 100, 97, 116, 97]⟩ : ByteArray)] from rfl) (Reps.one (show Kd.M Kd.string _ _ _ (⟨#[97, 112, 112, 108, 105, 99, 97, 116, 105, 111, 110, 47, 120, 45, 119, 119, 119, 45, 102, 111, 114, 109, 45, 117, 114, 108, 101, 110, 99, 111, 100, 101, 100]⟩ : ByteArray) [.string (⟨#[97, 112, 112, 108, 105, 99, 97, 116, 105, 111, 110, 47, 120, 45, 119, 119, 119, 45, 102, 111, 114, 109, 45, 117, 114, 108, 101, 110, 99, 111, 100, 101, 100]⟩ : ByteArray)] from rfl) (Reps.none _ _))))); intro v128 w43 ho44 hb hg_ hnew_; clear hg_ hnew_; (first | rw [← Ny127.out] at ho44 | (simp only [Int.reduceToNat] at ho44; rw [← Ny127.out] at ho44)); have n0_ := Aside0.mk (Kd.R_lower ho44 (below_size z7_)); have n1_ := Aside0.mk (blk_below (g := gb119) (o := .cells #[.string a0_0, .string a0_1] 45 (0, 0)) z14_ hb); have n2_ := Aside0.mk (below_step z7_ hb); clear BK119; clear HB; have HO129 := n0_; have BK119 := n1_; have HB := n2_; clear n0_ n1_ n2_; clear hb ho44; obtain ⟨Ao45, co45, eo45⟩ := Kd.R_slice HO129.out; subst eo45) | (go_at_call 40; (fail_if_success (have z_ := U_16)); have U_16 := trivial; (with_reducible refine (pursuivantref10_among.calls k2 t126 _ _ y127 t130 _ ?gw38_ ?side1 ?side2 A41.out).mono ?_); (case gw38_ => exact z2_); (case side1 => repeat (first | exact (Kd.R_reads' HO129.out).2.2 | (with_reducible refine Kd.C_alloc ?_ _) | (with_reducible refine Kd.C_drewN ?_ _) | (with_reducible refine Kd.C_drew ?_))); (case side2 => exact (Kd.R_reads' HO129.out).2.1); rintro e w' ⟨rfl, ⟨nd, rfl⟩⟩))
          go_ret
          exact ⟨z11_, z7_⟩
         ·rw [if_neg c38] at H
          exact absurd H (by simp)
        ·rw [if_neg c37] at H
         exact absurd H (by simp)
       ·rw [if_neg c36] at H
        have c36b0 : (t120.toList == ([99, 111, 110, 116, 101, 110, 116, 45, 116, 121, 112, 101] : List UInt8)) = false := beq_eq_false_iff_ne.mpr c36
        have c36b1 : (t120.toList != ([99, 111, 110, 116, 101, 110, 116, 45, 116, 121, 112, 101] : List UInt8)) = true := bne_iff_ne.mpr c36
        obtain rfl := Option.some.inj H
        go_wp2
        go_ret
        exact ⟨z11_, z7_⟩

end Go.Proofs.YtfibkgmbgdaeoaaGreatDoor.Hand
