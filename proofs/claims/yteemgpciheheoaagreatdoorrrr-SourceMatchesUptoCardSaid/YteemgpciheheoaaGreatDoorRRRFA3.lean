/- What each Go function here computes, and that its call computes it, over contracts proved by hand (written by this project's xprint.py, which drives the kit's print). -/
import Derived.Test.YteemgpciheheoaaGreatDoorRRRZ
import Derived.Test.YteemgpciheheoaaGreatDoorRRRK
import Derived.Test.YteemgpciheheoaaGreatDoorRRRLow
namespace Go.Proofs.YteemgpciheheoaaGreatDoorRRR.Hand
open Go.RowKit Go.Proofs.YteemgpciheheoaaGreatDoorRRRW.PrintWords Go.Proofs.YteemgpciheheoaaGreatDoorRRRW.PrintLast Go.Proofs.YteemgpciheheoaaGreatDoorRRRW.PrintMore
attribute [local go_sem] Instr.field asAgg max2_int min2_int max_two min_two max_three min_three max_four min_four   -- for this text's walks alone
set_option linter.unusedVariables false
set_option linter.unusedSimpArgs false

def pursuivantref11_nonce.l0 : Nat → ByteArray → Int → Option (Bool)
 | 0, _, _ => none
 | k + 1, x0, x3 => if x3 < (x0.size : Int) then (if 0 ≤ x3 then (if (bt x0 x3) ≥ 48 then (if (bt x0 x3) ≤ 57 then (pursuivantref11_nonce.l0 k x0 (wrap64 (x3 + 1))) else (if (bt x0 x3) ≥ 65 then (if (bt x0 x3) ≤ 90 then (pursuivantref11_nonce.l0 k x0 (wrap64 (x3 + 1))) else (if (bt x0 x3) ≥ 97 then (if (bt x0 x3) ≤ 122 then (pursuivantref11_nonce.l0 k x0 (wrap64 (x3 + 1))) else (if (bt x0 x3) = 43 then (pursuivantref11_nonce.l0 k x0 (wrap64 (x3 + 1))) else (if (bt x0 x3) = 47 then (pursuivantref11_nonce.l0 k x0 (wrap64 (x3 + 1))) else (if (bt x0 x3) = 95 then (pursuivantref11_nonce.l0 k x0 (wrap64 (x3 + 1))) else (if (bt x0 x3) = 45 then (pursuivantref11_nonce.l0 k x0 (wrap64 (x3 + 1))) else (if ((bt x0 x3) = 61) then (pursuivantref11_nonce.l0 k x0 (wrap64 (x3 + 1))) else (some false))))))) else (if (bt x0 x3) = 43 then (pursuivantref11_nonce.l0 k x0 (wrap64 (x3 + 1))) else (if (bt x0 x3) = 47 then (pursuivantref11_nonce.l0 k x0 (wrap64 (x3 + 1))) else (if (bt x0 x3) = 95 then (pursuivantref11_nonce.l0 k x0 (wrap64 (x3 + 1))) else (if (bt x0 x3) = 45 then (pursuivantref11_nonce.l0 k x0 (wrap64 (x3 + 1))) else (if ((bt x0 x3) = 61) then (pursuivantref11_nonce.l0 k x0 (wrap64 (x3 + 1))) else (some false)))))))) else (if (bt x0 x3) ≥ 97 then (if (bt x0 x3) ≤ 122 then (pursuivantref11_nonce.l0 k x0 (wrap64 (x3 + 1))) else (if (bt x0 x3) = 43 then (pursuivantref11_nonce.l0 k x0 (wrap64 (x3 + 1))) else (if (bt x0 x3) = 47 then (pursuivantref11_nonce.l0 k x0 (wrap64 (x3 + 1))) else (if (bt x0 x3) = 95 then (pursuivantref11_nonce.l0 k x0 (wrap64 (x3 + 1))) else (if (bt x0 x3) = 45 then (pursuivantref11_nonce.l0 k x0 (wrap64 (x3 + 1))) else (if ((bt x0 x3) = 61) then (pursuivantref11_nonce.l0 k x0 (wrap64 (x3 + 1))) else (some false))))))) else (if (bt x0 x3) = 43 then (pursuivantref11_nonce.l0 k x0 (wrap64 (x3 + 1))) else (if (bt x0 x3) = 47 then (pursuivantref11_nonce.l0 k x0 (wrap64 (x3 + 1))) else (if (bt x0 x3) = 95 then (pursuivantref11_nonce.l0 k x0 (wrap64 (x3 + 1))) else (if (bt x0 x3) = 45 then (pursuivantref11_nonce.l0 k x0 (wrap64 (x3 + 1))) else (if ((bt x0 x3) = 61) then (pursuivantref11_nonce.l0 k x0 (wrap64 (x3 + 1))) else (some false))))))))) else (if (bt x0 x3) ≥ 65 then (if (bt x0 x3) ≤ 90 then (pursuivantref11_nonce.l0 k x0 (wrap64 (x3 + 1))) else (if (bt x0 x3) ≥ 97 then (if (bt x0 x3) ≤ 122 then (pursuivantref11_nonce.l0 k x0 (wrap64 (x3 + 1))) else (if (bt x0 x3) = 43 then (pursuivantref11_nonce.l0 k x0 (wrap64 (x3 + 1))) else (if (bt x0 x3) = 47 then (pursuivantref11_nonce.l0 k x0 (wrap64 (x3 + 1))) else (if (bt x0 x3) = 95 then (pursuivantref11_nonce.l0 k x0 (wrap64 (x3 + 1))) else (if (bt x0 x3) = 45 then (pursuivantref11_nonce.l0 k x0 (wrap64 (x3 + 1))) else (if ((bt x0 x3) = 61) then (pursuivantref11_nonce.l0 k x0 (wrap64 (x3 + 1))) else (some false))))))) else (if (bt x0 x3) = 43 then (pursuivantref11_nonce.l0 k x0 (wrap64 (x3 + 1))) else (if (bt x0 x3) = 47 then (pursuivantref11_nonce.l0 k x0 (wrap64 (x3 + 1))) else (if (bt x0 x3) = 95 then (pursuivantref11_nonce.l0 k x0 (wrap64 (x3 + 1))) else (if (bt x0 x3) = 45 then (pursuivantref11_nonce.l0 k x0 (wrap64 (x3 + 1))) else (if ((bt x0 x3) = 61) then (pursuivantref11_nonce.l0 k x0 (wrap64 (x3 + 1))) else (some false)))))))) else (if (bt x0 x3) ≥ 97 then (if (bt x0 x3) ≤ 122 then (pursuivantref11_nonce.l0 k x0 (wrap64 (x3 + 1))) else (if (bt x0 x3) = 43 then (pursuivantref11_nonce.l0 k x0 (wrap64 (x3 + 1))) else (if (bt x0 x3) = 47 then (pursuivantref11_nonce.l0 k x0 (wrap64 (x3 + 1))) else (if (bt x0 x3) = 95 then (pursuivantref11_nonce.l0 k x0 (wrap64 (x3 + 1))) else (if (bt x0 x3) = 45 then (pursuivantref11_nonce.l0 k x0 (wrap64 (x3 + 1))) else (if ((bt x0 x3) = 61) then (pursuivantref11_nonce.l0 k x0 (wrap64 (x3 + 1))) else (some false))))))) else (if (bt x0 x3) = 43 then (pursuivantref11_nonce.l0 k x0 (wrap64 (x3 + 1))) else (if (bt x0 x3) = 47 then (pursuivantref11_nonce.l0 k x0 (wrap64 (x3 + 1))) else (if (bt x0 x3) = 95 then (pursuivantref11_nonce.l0 k x0 (wrap64 (x3 + 1))) else (if (bt x0 x3) = 45 then (pursuivantref11_nonce.l0 k x0 (wrap64 (x3 + 1))) else (if ((bt x0 x3) = 61) then (pursuivantref11_nonce.l0 k x0 (wrap64 (x3 + 1))) else (some false))))))))) else (none)) else (some (decide ((x0.size : Int) > 0)))
def pursuivantref11_nonce.f (k : Nat) (a0 : ByteArray) : Option (Bool) := pursuivantref11_nonce.l0 k a0 0
set_option maxHeartbeats 8000000 in
set_option maxRecDepth 100000 in
theorem pursuivantref11_nonce.calls (k : Nat) (a0 : ByteArray) (r : Bool) (w : World) (hG_ : GW w) (h : pursuivantref11_nonce.f k a0 = some r) :
  Calls Tryz.prog 44 #[.string a0] w fun e w' => e = .returned (.bool r) ∧ Drawn0 w w' := by
 have H : (pursuivantref11_nonce.l0 k a0 0) = some r := h
 clear h
 have H' := Aside0.mk H
 clear H
 go_enter Tryz.func44, Tryz.ntmps44
 go_wp2
 go_loopg [3] k (fun kq v3 w' => ∃ (x3_1 : Int), v3 = .int .i64 x3_1 ∧ Aside0 (pursuivantref11_nonce.l0 kq a0 x3_1 = some r) ∧ Aside0 (kq ≤ k) ∧ Drawn0 w w')
 case atStart => exact ⟨(0), z64_, H', ⟨Nat.le_refl _⟩, z65_⟩
 case round =>
  clear H'
  obtain ⟨x3_1, rfl, HA, HK1, ⟨m1, rfl⟩⟩ := hrel
  cases gk with
  | zero => exact absurd HA.out (by simp [pursuivantref11_nonce.l0])
  | succ k1 =>
   have H := HA.out
   clear HA
   simp only [pursuivantref11_nonce.l0] at H
   by_cases c2 : x3_1 < (a0.size : Int)
   ·rw [if_pos c2] at H
    have c2b0 : decide (x3_1 < (a0.size : Int)) = true := decide_eq_true c2; clear c2
    by_cases c3 : 0 ≤ x3_1
    ·rw [if_pos c3] at H
     have c3b0 : decide (0 ≤ x3_1) = true := decide_eq_true c3; clear c3
     by_cases c5 : (bt a0 x3_1) ≥ 48
     ·rw [if_pos c5] at H
      have c5b0 : decide (48 ≤ (bt a0 x3_1)) = true := decide_eq_true c5; clear c5
      by_cases c6 : (bt a0 x3_1) ≤ 57
      ·rw [if_pos c6] at H
       have c6b0 : decide ((bt a0 x3_1) ≤ 57) = true := decide_eq_true c6; clear c6
       have H' := Aside0.mk H
       clear H
       have p4 : 0 ≤ (x3_1 : Int) := of_decide_eq_true z67_
       have q4 : x3_1 < (a0.size : Int) := of_decide_eq_true z67_
       have hx4 := bt_at a0 x3_1
       replace p4 := eq_true p4
       replace q4 := eq_true q4
       go_wp2
       go_roundg k1
       case measure => have := HK1.out; omega
       case rel => exact ⟨(wrap64 (x3_1 + 1)), z64_, H', ⟨z70_⟩, z65_⟩
      ·rw [if_neg c6] at H
       have c6b0 : decide ((bt a0 x3_1) ≤ 57) = false := decide_eq_false c6; clear c6
       by_cases c7 : (bt a0 x3_1) ≥ 65
       ·rw [if_pos c7] at H
        have c7b0 : decide (65 ≤ (bt a0 x3_1)) = true := decide_eq_true c7; clear c7
        by_cases c8 : (bt a0 x3_1) ≤ 90
        ·rw [if_pos c8] at H
         have c8b0 : decide ((bt a0 x3_1) ≤ 90) = true := decide_eq_true c8; clear c8
         have H' := Aside0.mk H
         clear H
         have p4 : 0 ≤ (x3_1 : Int) := of_decide_eq_true z67_
         have q4 : x3_1 < (a0.size : Int) := of_decide_eq_true z67_
         have hx4 := bt_at a0 x3_1
         replace p4 := eq_true p4
         replace q4 := eq_true q4
         go_wp2
         go_roundg k1
         case measure => have := HK1.out; omega
         case rel => exact ⟨(wrap64 (x3_1 + 1)), z64_, H', ⟨z70_⟩, z65_⟩
        ·rw [if_neg c8] at H
         have c8b0 : decide ((bt a0 x3_1) ≤ 90) = false := decide_eq_false c8; clear c8
         by_cases c9 : (bt a0 x3_1) ≥ 97
         ·rw [if_pos c9] at H
          have c9b0 : decide (97 ≤ (bt a0 x3_1)) = true := decide_eq_true c9; clear c9
          by_cases c10 : (bt a0 x3_1) ≤ 122
          ·rw [if_pos c10] at H
           have c10b0 : decide ((bt a0 x3_1) ≤ 122) = true := decide_eq_true c10; clear c10
           have H' := Aside0.mk H
           clear H
           have p4 : 0 ≤ (x3_1 : Int) := of_decide_eq_true z67_
           have q4 : x3_1 < (a0.size : Int) := of_decide_eq_true z67_
           have hx4 := bt_at a0 x3_1
           replace p4 := eq_true p4
           replace q4 := eq_true q4
           go_wp2
           go_roundg k1
           case measure => have := HK1.out; omega
           case rel => exact ⟨(wrap64 (x3_1 + 1)), z64_, H', ⟨z70_⟩, z65_⟩
          ·rw [if_neg c10] at H
           have c10b0 : decide ((bt a0 x3_1) ≤ 122) = false := decide_eq_false c10; clear c10
           by_cases c11 : (bt a0 x3_1) = 43
           ·rw [if_pos c11] at H
            have c11b0 : ((bt a0 x3_1) == 43) = true := beq_iff_eq.mpr c11
            have c11b1 : ((bt a0 x3_1) != 43) = false := bne_eq_false_iff_eq.mpr c11
            clear c11
            have H' := Aside0.mk H
            clear H
            have p4 : 0 ≤ (x3_1 : Int) := of_decide_eq_true z67_
            have q4 : x3_1 < (a0.size : Int) := of_decide_eq_true z67_
            have hx4 := bt_at a0 x3_1
            replace p4 := eq_true p4
            replace q4 := eq_true q4
            go_wp2
            go_roundg k1
            case measure => have := HK1.out; omega
            case rel => exact ⟨(wrap64 (x3_1 + 1)), z64_, H', ⟨z70_⟩, z65_⟩
           ·rw [if_neg c11] at H
            have c11b0 : ((bt a0 x3_1) == 43) = false := beq_eq_false_iff_ne.mpr c11
            have c11b1 : ((bt a0 x3_1) != 43) = true := bne_iff_ne.mpr c11
            by_cases c12 : (bt a0 x3_1) = 47
            ·rw [if_pos c12] at H
             have c12b0 : ((bt a0 x3_1) == 47) = true := beq_iff_eq.mpr c12
             have c12b1 : ((bt a0 x3_1) != 47) = false := bne_eq_false_iff_eq.mpr c12
             clear c12
             have H' := Aside0.mk H
             clear H
             have p4 : 0 ≤ (x3_1 : Int) := of_decide_eq_true z67_
             have q4 : x3_1 < (a0.size : Int) := of_decide_eq_true z67_
             have hx4 := bt_at a0 x3_1
             replace p4 := eq_true p4
             replace q4 := eq_true q4
             go_wp2
             go_roundg k1
             case measure => have := HK1.out; omega
             case rel => exact ⟨(wrap64 (x3_1 + 1)), z64_, H', ⟨z70_⟩, z65_⟩
            ·rw [if_neg c12] at H
             have c12b0 : ((bt a0 x3_1) == 47) = false := beq_eq_false_iff_ne.mpr c12
             have c12b1 : ((bt a0 x3_1) != 47) = true := bne_iff_ne.mpr c12
             by_cases c13 : (bt a0 x3_1) = 95
             ·rw [if_pos c13] at H
              have c13b0 : ((bt a0 x3_1) == 95) = true := beq_iff_eq.mpr c13
              have c13b1 : ((bt a0 x3_1) != 95) = false := bne_eq_false_iff_eq.mpr c13
              clear c13
              have H' := Aside0.mk H
              clear H
              have p4 : 0 ≤ (x3_1 : Int) := of_decide_eq_true z67_
              have q4 : x3_1 < (a0.size : Int) := of_decide_eq_true z67_
              have hx4 := bt_at a0 x3_1
              replace p4 := eq_true p4
              replace q4 := eq_true q4
              go_wp2
              go_roundg k1
              case measure => have := HK1.out; omega
              case rel => exact ⟨(wrap64 (x3_1 + 1)), z64_, H', ⟨z70_⟩, z65_⟩
             ·rw [if_neg c13] at H
              have c13b0 : ((bt a0 x3_1) == 95) = false := beq_eq_false_iff_ne.mpr c13
              have c13b1 : ((bt a0 x3_1) != 95) = true := bne_iff_ne.mpr c13
              by_cases c14 : (bt a0 x3_1) = 45
              ·rw [if_pos c14] at H
               have c14b0 : ((bt a0 x3_1) == 45) = true := beq_iff_eq.mpr c14
               have c14b1 : ((bt a0 x3_1) != 45) = false := bne_eq_false_iff_eq.mpr c14
               clear c14
               have H' := Aside0.mk H
               clear H
               have p4 : 0 ≤ (x3_1 : Int) := of_decide_eq_true z67_
               have q4 : x3_1 < (a0.size : Int) := of_decide_eq_true z67_
               have hx4 := bt_at a0 x3_1
               replace p4 := eq_true p4
               replace q4 := eq_true q4
               go_wp2
               go_roundg k1
               case measure => have := HK1.out; omega
               case rel => exact ⟨(wrap64 (x3_1 + 1)), z64_, H', ⟨z70_⟩, z65_⟩
              ·rw [if_neg c14] at H
               have c14b0 : ((bt a0 x3_1) == 45) = false := beq_eq_false_iff_ne.mpr c14
               have c14b1 : ((bt a0 x3_1) != 45) = true := bne_iff_ne.mpr c14
               by_cases c15 : ((bt a0 x3_1) = 61)
               ·rw [if_pos c15] at H
                have c15b0 : ((bt a0 x3_1) == 61) = true := beq_iff_eq.mpr c15
                have c15b1 : ((bt a0 x3_1) != 61) = false := bne_eq_false_iff_eq.mpr c15
                clear c15
                have H' := Aside0.mk H
                clear H
                have p4 : 0 ≤ (x3_1 : Int) := of_decide_eq_true z67_
                have q4 : x3_1 < (a0.size : Int) := of_decide_eq_true z67_
                have hx4 := bt_at a0 x3_1
                replace p4 := eq_true p4
                replace q4 := eq_true q4
                go_wp2
                go_roundg k1
                case measure => have := HK1.out; omega
                case rel => exact ⟨(wrap64 (x3_1 + 1)), z64_, H', ⟨z70_⟩, z65_⟩
               ·rw [if_neg c15] at H
                have c15b0 : ((bt a0 x3_1) == 61) = false := beq_eq_false_iff_ne.mpr c15
                have c15b1 : ((bt a0 x3_1) != 61) = true := bne_iff_ne.mpr c15
                obtain rfl := Option.some.inj H
                have p4 : 0 ≤ (x3_1 : Int) := of_decide_eq_true z67_
                have q4 : x3_1 < (a0.size : Int) := of_decide_eq_true z67_
                have hx4 := bt_at a0 x3_1
                replace p4 := eq_true p4
                replace q4 := eq_true q4
                go_wp2
                go_ret
                exact ⟨z64_, z65_⟩
         ·rw [if_neg c9] at H
          have c9b0 : decide (97 ≤ (bt a0 x3_1)) = false := decide_eq_false c9; clear c9
          by_cases c16 : (bt a0 x3_1) = 43
          ·rw [if_pos c16] at H
           have c16b0 : ((bt a0 x3_1) == 43) = true := beq_iff_eq.mpr c16
           have c16b1 : ((bt a0 x3_1) != 43) = false := bne_eq_false_iff_eq.mpr c16
           clear c16
           have H' := Aside0.mk H
           clear H
           have p4 : 0 ≤ (x3_1 : Int) := of_decide_eq_true z67_
           have q4 : x3_1 < (a0.size : Int) := of_decide_eq_true z67_
           have hx4 := bt_at a0 x3_1
           replace p4 := eq_true p4
           replace q4 := eq_true q4
           go_wp2
           go_roundg k1
           case measure => have := HK1.out; omega
           case rel => exact ⟨(wrap64 (x3_1 + 1)), z64_, H', ⟨z70_⟩, z65_⟩
          ·rw [if_neg c16] at H
           have c16b0 : ((bt a0 x3_1) == 43) = false := beq_eq_false_iff_ne.mpr c16
           have c16b1 : ((bt a0 x3_1) != 43) = true := bne_iff_ne.mpr c16
           by_cases c17 : (bt a0 x3_1) = 47
           ·rw [if_pos c17] at H
            have c17b0 : ((bt a0 x3_1) == 47) = true := beq_iff_eq.mpr c17
            have c17b1 : ((bt a0 x3_1) != 47) = false := bne_eq_false_iff_eq.mpr c17
            clear c17
            have H' := Aside0.mk H
            clear H
            have p4 : 0 ≤ (x3_1 : Int) := of_decide_eq_true z67_
            have q4 : x3_1 < (a0.size : Int) := of_decide_eq_true z67_
            have hx4 := bt_at a0 x3_1
            replace p4 := eq_true p4
            replace q4 := eq_true q4
            go_wp2
            go_roundg k1
            case measure => have := HK1.out; omega
            case rel => exact ⟨(wrap64 (x3_1 + 1)), z64_, H', ⟨z70_⟩, z65_⟩
           ·rw [if_neg c17] at H
            have c17b0 : ((bt a0 x3_1) == 47) = false := beq_eq_false_iff_ne.mpr c17
            have c17b1 : ((bt a0 x3_1) != 47) = true := bne_iff_ne.mpr c17
            by_cases c18 : (bt a0 x3_1) = 95
            ·rw [if_pos c18] at H
             have c18b0 : ((bt a0 x3_1) == 95) = true := beq_iff_eq.mpr c18
             have c18b1 : ((bt a0 x3_1) != 95) = false := bne_eq_false_iff_eq.mpr c18
             clear c18
             have H' := Aside0.mk H
             clear H
             have p4 : 0 ≤ (x3_1 : Int) := of_decide_eq_true z67_
             have q4 : x3_1 < (a0.size : Int) := of_decide_eq_true z67_
             have hx4 := bt_at a0 x3_1
             replace p4 := eq_true p4
             replace q4 := eq_true q4
             go_wp2
             go_roundg k1
             case measure => have := HK1.out; omega
             case rel => exact ⟨(wrap64 (x3_1 + 1)), z64_, H', ⟨z70_⟩, z65_⟩
            ·rw [if_neg c18] at H
             have c18b0 : ((bt a0 x3_1) == 95) = false := beq_eq_false_iff_ne.mpr c18
             have c18b1 : ((bt a0 x3_1) != 95) = true := bne_iff_ne.mpr c18
             by_cases c19 : (bt a0 x3_1) = 45
             ·rw [if_pos c19] at H
              have c19b0 : ((bt a0 x3_1) == 45) = true := beq_iff_eq.mpr c19
              have c19b1 : ((bt a0 x3_1) != 45) = false := bne_eq_false_iff_eq.mpr c19
              clear c19
              have H' := Aside0.mk H
              clear H
              have p4 : 0 ≤ (x3_1 : Int) := of_decide_eq_true z67_
              have q4 : x3_1 < (a0.size : Int) := of_decide_eq_true z67_
              have hx4 := bt_at a0 x3_1
              replace p4 := eq_true p4
              replace q4 := eq_true q4
              go_wp2
              go_roundg k1
              case measure => have := HK1.out; omega
              case rel => exact ⟨(wrap64 (x3_1 + 1)), z64_, H', ⟨z70_⟩, z65_⟩
             ·rw [if_neg c19] at H
              have c19b0 : ((bt a0 x3_1) == 45) = false := beq_eq_false_iff_ne.mpr c19
              have c19b1 : ((bt a0 x3_1) != 45) = true := bne_iff_ne.mpr c19
              by_cases c20 : ((bt a0 x3_1) = 61)
              ·rw [if_pos c20] at H
               have c20b0 : ((bt a0 x3_1) == 61) = true := beq_iff_eq.mpr c20
               have c20b1 : ((bt a0 x3_1) != 61) = false := bne_eq_false_iff_eq.mpr c20
               clear c20
               have H' := Aside0.mk H
               clear H
               have p4 : 0 ≤ (x3_1 : Int) := of_decide_eq_true z67_
               have q4 : x3_1 < (a0.size : Int) := of_decide_eq_true z67_
               have hx4 := bt_at a0 x3_1
               replace p4 := eq_true p4
               replace q4 := eq_true q4
               go_wp2
               go_roundg k1
               case measure => have := HK1.out; omega
               case rel => exact ⟨(wrap64 (x3_1 + 1)), z64_, H', ⟨z70_⟩, z65_⟩
              ·rw [if_neg c20] at H
               have c20b0 : ((bt a0 x3_1) == 61) = false := beq_eq_false_iff_ne.mpr c20
               have c20b1 : ((bt a0 x3_1) != 61) = true := bne_iff_ne.mpr c20
               obtain rfl := Option.some.inj H
               have p4 : 0 ≤ (x3_1 : Int) := of_decide_eq_true z67_
               have q4 : x3_1 < (a0.size : Int) := of_decide_eq_true z67_
               have hx4 := bt_at a0 x3_1
               replace p4 := eq_true p4
               replace q4 := eq_true q4
               go_wp2
               go_ret
               exact ⟨z64_, z65_⟩
       ·rw [if_neg c7] at H
        have c7b0 : decide (65 ≤ (bt a0 x3_1)) = false := decide_eq_false c7; clear c7
        by_cases c21 : (bt a0 x3_1) ≥ 97
        ·rw [if_pos c21] at H
         have c21b0 : decide (97 ≤ (bt a0 x3_1)) = true := decide_eq_true c21; clear c21
         by_cases c22 : (bt a0 x3_1) ≤ 122
         ·rw [if_pos c22] at H
          have c22b0 : decide ((bt a0 x3_1) ≤ 122) = true := decide_eq_true c22; clear c22
          have H' := Aside0.mk H
          clear H
          have p4 : 0 ≤ (x3_1 : Int) := of_decide_eq_true z67_
          have q4 : x3_1 < (a0.size : Int) := of_decide_eq_true z67_
          have hx4 := bt_at a0 x3_1
          replace p4 := eq_true p4
          replace q4 := eq_true q4
          go_wp2
          go_roundg k1
          case measure => have := HK1.out; omega
          case rel => exact ⟨(wrap64 (x3_1 + 1)), z64_, H', ⟨z70_⟩, z65_⟩
         ·rw [if_neg c22] at H
          have c22b0 : decide ((bt a0 x3_1) ≤ 122) = false := decide_eq_false c22; clear c22
          by_cases c23 : (bt a0 x3_1) = 43
          ·rw [if_pos c23] at H
           have c23b0 : ((bt a0 x3_1) == 43) = true := beq_iff_eq.mpr c23
           have c23b1 : ((bt a0 x3_1) != 43) = false := bne_eq_false_iff_eq.mpr c23
           clear c23
           have H' := Aside0.mk H
           clear H
           have p4 : 0 ≤ (x3_1 : Int) := of_decide_eq_true z67_
           have q4 : x3_1 < (a0.size : Int) := of_decide_eq_true z67_
           have hx4 := bt_at a0 x3_1
           replace p4 := eq_true p4
           replace q4 := eq_true q4
           go_wp2
           go_roundg k1
           case measure => have := HK1.out; omega
           case rel => exact ⟨(wrap64 (x3_1 + 1)), z64_, H', ⟨z70_⟩, z65_⟩
          ·rw [if_neg c23] at H
           have c23b0 : ((bt a0 x3_1) == 43) = false := beq_eq_false_iff_ne.mpr c23
           have c23b1 : ((bt a0 x3_1) != 43) = true := bne_iff_ne.mpr c23
           by_cases c24 : (bt a0 x3_1) = 47
           ·rw [if_pos c24] at H
            have c24b0 : ((bt a0 x3_1) == 47) = true := beq_iff_eq.mpr c24
            have c24b1 : ((bt a0 x3_1) != 47) = false := bne_eq_false_iff_eq.mpr c24
            clear c24
            have H' := Aside0.mk H
            clear H
            have p4 : 0 ≤ (x3_1 : Int) := of_decide_eq_true z67_
            have q4 : x3_1 < (a0.size : Int) := of_decide_eq_true z67_
            have hx4 := bt_at a0 x3_1
            replace p4 := eq_true p4
            replace q4 := eq_true q4
            go_wp2
            go_roundg k1
            case measure => have := HK1.out; omega
            case rel => exact ⟨(wrap64 (x3_1 + 1)), z64_, H', ⟨z70_⟩, z65_⟩
           ·rw [if_neg c24] at H
            have c24b0 : ((bt a0 x3_1) == 47) = false := beq_eq_false_iff_ne.mpr c24
            have c24b1 : ((bt a0 x3_1) != 47) = true := bne_iff_ne.mpr c24
            by_cases c25 : (bt a0 x3_1) = 95
            ·rw [if_pos c25] at H
             have c25b0 : ((bt a0 x3_1) == 95) = true := beq_iff_eq.mpr c25
             have c25b1 : ((bt a0 x3_1) != 95) = false := bne_eq_false_iff_eq.mpr c25
             clear c25
             have H' := Aside0.mk H
             clear H
             have p4 : 0 ≤ (x3_1 : Int) := of_decide_eq_true z67_
             have q4 : x3_1 < (a0.size : Int) := of_decide_eq_true z67_
             have hx4 := bt_at a0 x3_1
             replace p4 := eq_true p4
             replace q4 := eq_true q4
             go_wp2
             go_roundg k1
             case measure => have := HK1.out; omega
             case rel => exact ⟨(wrap64 (x3_1 + 1)), z64_, H', ⟨z70_⟩, z65_⟩
            ·rw [if_neg c25] at H
             have c25b0 : ((bt a0 x3_1) == 95) = false := beq_eq_false_iff_ne.mpr c25
             have c25b1 : ((bt a0 x3_1) != 95) = true := bne_iff_ne.mpr c25
             by_cases c26 : (bt a0 x3_1) = 45
             ·rw [if_pos c26] at H
              have c26b0 : ((bt a0 x3_1) == 45) = true := beq_iff_eq.mpr c26
              have c26b1 : ((bt a0 x3_1) != 45) = false := bne_eq_false_iff_eq.mpr c26
              clear c26
              have H' := Aside0.mk H
              clear H
              have p4 : 0 ≤ (x3_1 : Int) := of_decide_eq_true z67_
              have q4 : x3_1 < (a0.size : Int) := of_decide_eq_true z67_
              have hx4 := bt_at a0 x3_1
              replace p4 := eq_true p4
              replace q4 := eq_true q4
              go_wp2
              go_roundg k1
              case measure => have := HK1.out; omega
              case rel => exact ⟨(wrap64 (x3_1 + 1)), z64_, H', ⟨z70_⟩, z65_⟩
             ·rw [if_neg c26] at H
              have c26b0 : ((bt a0 x3_1) == 45) = false := beq_eq_false_iff_ne.mpr c26
              have c26b1 : ((bt a0 x3_1) != 45) = true := bne_iff_ne.mpr c26
              by_cases c27 : ((bt a0 x3_1) = 61)
              ·rw [if_pos c27] at H
               have c27b0 : ((bt a0 x3_1) == 61) = true := beq_iff_eq.mpr c27
               have c27b1 : ((bt a0 x3_1) != 61) = false := bne_eq_false_iff_eq.mpr c27
               clear c27
               have H' := Aside0.mk H
               clear H
               have p4 : 0 ≤ (x3_1 : Int) := of_decide_eq_true z67_
               have q4 : x3_1 < (a0.size : Int) := of_decide_eq_true z67_
               have hx4 := bt_at a0 x3_1
               replace p4 := eq_true p4
               replace q4 := eq_true q4
               go_wp2
               go_roundg k1
               case measure => have := HK1.out; omega
               case rel => exact ⟨(wrap64 (x3_1 + 1)), z64_, H', ⟨z70_⟩, z65_⟩
              ·rw [if_neg c27] at H
               have c27b0 : ((bt a0 x3_1) == 61) = false := beq_eq_false_iff_ne.mpr c27
               have c27b1 : ((bt a0 x3_1) != 61) = true := bne_iff_ne.mpr c27
               obtain rfl := Option.some.inj H
               have p4 : 0 ≤ (x3_1 : Int) := of_decide_eq_true z67_
               have q4 : x3_1 < (a0.size : Int) := of_decide_eq_true z67_
               have hx4 := bt_at a0 x3_1
               replace p4 := eq_true p4
               replace q4 := eq_true q4
               go_wp2
               go_ret
               exact ⟨z64_, z65_⟩
        ·rw [if_neg c21] at H
         have c21b0 : decide (97 ≤ (bt a0 x3_1)) = false := decide_eq_false c21; clear c21
         by_cases c28 : (bt a0 x3_1) = 43
         ·rw [if_pos c28] at H
          have c28b0 : ((bt a0 x3_1) == 43) = true := beq_iff_eq.mpr c28
          have c28b1 : ((bt a0 x3_1) != 43) = false := bne_eq_false_iff_eq.mpr c28
          clear c28
          have H' := Aside0.mk H
          clear H
          have p4 : 0 ≤ (x3_1 : Int) := of_decide_eq_true z67_
          have q4 : x3_1 < (a0.size : Int) := of_decide_eq_true z67_
          have hx4 := bt_at a0 x3_1
          replace p4 := eq_true p4
          replace q4 := eq_true q4
          go_wp2
          go_roundg k1
          case measure => have := HK1.out; omega
          case rel => exact ⟨(wrap64 (x3_1 + 1)), z64_, H', ⟨z70_⟩, z65_⟩
         ·rw [if_neg c28] at H
          have c28b0 : ((bt a0 x3_1) == 43) = false := beq_eq_false_iff_ne.mpr c28
          have c28b1 : ((bt a0 x3_1) != 43) = true := bne_iff_ne.mpr c28
          by_cases c29 : (bt a0 x3_1) = 47
          ·rw [if_pos c29] at H
           have c29b0 : ((bt a0 x3_1) == 47) = true := beq_iff_eq.mpr c29
           have c29b1 : ((bt a0 x3_1) != 47) = false := bne_eq_false_iff_eq.mpr c29
           clear c29
           have H' := Aside0.mk H
           clear H
           have p4 : 0 ≤ (x3_1 : Int) := of_decide_eq_true z67_
           have q4 : x3_1 < (a0.size : Int) := of_decide_eq_true z67_
           have hx4 := bt_at a0 x3_1
           replace p4 := eq_true p4
           replace q4 := eq_true q4
           go_wp2
           go_roundg k1
           case measure => have := HK1.out; omega
           case rel => exact ⟨(wrap64 (x3_1 + 1)), z64_, H', ⟨z70_⟩, z65_⟩
          ·rw [if_neg c29] at H
           have c29b0 : ((bt a0 x3_1) == 47) = false := beq_eq_false_iff_ne.mpr c29
           have c29b1 : ((bt a0 x3_1) != 47) = true := bne_iff_ne.mpr c29
           by_cases c30 : (bt a0 x3_1) = 95
           ·rw [if_pos c30] at H
            have c30b0 : ((bt a0 x3_1) == 95) = true := beq_iff_eq.mpr c30
            have c30b1 : ((bt a0 x3_1) != 95) = false := bne_eq_false_iff_eq.mpr c30
            clear c30
            have H' := Aside0.mk H
            clear H
            have p4 : 0 ≤ (x3_1 : Int) := of_decide_eq_true z67_
            have q4 : x3_1 < (a0.size : Int) := of_decide_eq_true z67_
            have hx4 := bt_at a0 x3_1
            replace p4 := eq_true p4
            replace q4 := eq_true q4
            go_wp2
            go_roundg k1
            case measure => have := HK1.out; omega
            case rel => exact ⟨(wrap64 (x3_1 + 1)), z64_, H', ⟨z70_⟩, z65_⟩
           ·rw [if_neg c30] at H
            have c30b0 : ((bt a0 x3_1) == 95) = false := beq_eq_false_iff_ne.mpr c30
            have c30b1 : ((bt a0 x3_1) != 95) = true := bne_iff_ne.mpr c30
            by_cases c31 : (bt a0 x3_1) = 45
            ·rw [if_pos c31] at H
             have c31b0 : ((bt a0 x3_1) == 45) = true := beq_iff_eq.mpr c31
             have c31b1 : ((bt a0 x3_1) != 45) = false := bne_eq_false_iff_eq.mpr c31
             clear c31
             have H' := Aside0.mk H
             clear H
             have p4 : 0 ≤ (x3_1 : Int) := of_decide_eq_true z67_
             have q4 : x3_1 < (a0.size : Int) := of_decide_eq_true z67_
             have hx4 := bt_at a0 x3_1
             replace p4 := eq_true p4
             replace q4 := eq_true q4
             go_wp2
             go_roundg k1
             case measure => have := HK1.out; omega
             case rel => exact ⟨(wrap64 (x3_1 + 1)), z64_, H', ⟨z70_⟩, z65_⟩
            ·rw [if_neg c31] at H
             have c31b0 : ((bt a0 x3_1) == 45) = false := beq_eq_false_iff_ne.mpr c31
             have c31b1 : ((bt a0 x3_1) != 45) = true := bne_iff_ne.mpr c31
             by_cases c32 : ((bt a0 x3_1) = 61)
             ·rw [if_pos c32] at H
              have c32b0 : ((bt a0 x3_1) == 61) = true := beq_iff_eq.mpr c32
              have c32b1 : ((bt a0 x3_1) != 61) = false := bne_eq_false_iff_eq.mpr c32
              clear c32
              have H' := Aside0.mk H
              clear H
              have p4 : 0 ≤ (x3_1 : Int) := of_decide_eq_true z67_
              have q4 : x3_1 < (a0.size : Int) := of_decide_eq_true z67_
              have hx4 := bt_at a0 x3_1
              replace p4 := eq_true p4
              replace q4 := eq_true q4
              go_wp2
              go_roundg k1
              case measure => have := HK1.out; omega
              case rel => exact ⟨(wrap64 (x3_1 + 1)), z64_, H', ⟨z70_⟩, z65_⟩
             ·rw [if_neg c32] at H
              have c32b0 : ((bt a0 x3_1) == 61) = false := beq_eq_false_iff_ne.mpr c32
              have c32b1 : ((bt a0 x3_1) != 61) = true := bne_iff_ne.mpr c32
              obtain rfl := Option.some.inj H
              have p4 : 0 ≤ (x3_1 : Int) := of_decide_eq_true z67_
              have q4 : x3_1 < (a0.size : Int) := of_decide_eq_true z67_
              have hx4 := bt_at a0 x3_1
              replace p4 := eq_true p4
              replace q4 := eq_true q4
              go_wp2
              go_ret
              exact ⟨z64_, z65_⟩
     ·rw [if_neg c5] at H
      have c5b0 : decide (48 ≤ (bt a0 x3_1)) = false := decide_eq_false c5; clear c5
      by_cases c33 : (bt a0 x3_1) ≥ 65
      ·rw [if_pos c33] at H
       have c33b0 : decide (65 ≤ (bt a0 x3_1)) = true := decide_eq_true c33; clear c33
       by_cases c34 : (bt a0 x3_1) ≤ 90
       ·rw [if_pos c34] at H
        have c34b0 : decide ((bt a0 x3_1) ≤ 90) = true := decide_eq_true c34; clear c34
        have H' := Aside0.mk H
        clear H
        have p4 : 0 ≤ (x3_1 : Int) := of_decide_eq_true z67_
        have q4 : x3_1 < (a0.size : Int) := of_decide_eq_true z67_
        have hx4 := bt_at a0 x3_1
        replace p4 := eq_true p4
        replace q4 := eq_true q4
        go_wp2
        go_roundg k1
        case measure => have := HK1.out; omega
        case rel => exact ⟨(wrap64 (x3_1 + 1)), z64_, H', ⟨z70_⟩, z65_⟩
       ·rw [if_neg c34] at H
        have c34b0 : decide ((bt a0 x3_1) ≤ 90) = false := decide_eq_false c34; clear c34
        by_cases c35 : (bt a0 x3_1) ≥ 97
        ·rw [if_pos c35] at H
         have c35b0 : decide (97 ≤ (bt a0 x3_1)) = true := decide_eq_true c35; clear c35
         by_cases c36 : (bt a0 x3_1) ≤ 122
         ·rw [if_pos c36] at H
          have c36b0 : decide ((bt a0 x3_1) ≤ 122) = true := decide_eq_true c36; clear c36
          have H' := Aside0.mk H
          clear H
          have p4 : 0 ≤ (x3_1 : Int) := of_decide_eq_true z67_
          have q4 : x3_1 < (a0.size : Int) := of_decide_eq_true z67_
          have hx4 := bt_at a0 x3_1
          replace p4 := eq_true p4
          replace q4 := eq_true q4
          go_wp2
          go_roundg k1
          case measure => have := HK1.out; omega
          case rel => exact ⟨(wrap64 (x3_1 + 1)), z64_, H', ⟨z70_⟩, z65_⟩
         ·rw [if_neg c36] at H
          have c36b0 : decide ((bt a0 x3_1) ≤ 122) = false := decide_eq_false c36; clear c36
          by_cases c37 : (bt a0 x3_1) = 43
          ·rw [if_pos c37] at H
           have c37b0 : ((bt a0 x3_1) == 43) = true := beq_iff_eq.mpr c37
           have c37b1 : ((bt a0 x3_1) != 43) = false := bne_eq_false_iff_eq.mpr c37
           clear c37
           have H' := Aside0.mk H
           clear H
           have p4 : 0 ≤ (x3_1 : Int) := of_decide_eq_true z67_
           have q4 : x3_1 < (a0.size : Int) := of_decide_eq_true z67_
           have hx4 := bt_at a0 x3_1
           replace p4 := eq_true p4
           replace q4 := eq_true q4
           go_wp2
           go_roundg k1
           case measure => have := HK1.out; omega
           case rel => exact ⟨(wrap64 (x3_1 + 1)), z64_, H', ⟨z70_⟩, z65_⟩
          ·rw [if_neg c37] at H
           have c37b0 : ((bt a0 x3_1) == 43) = false := beq_eq_false_iff_ne.mpr c37
           have c37b1 : ((bt a0 x3_1) != 43) = true := bne_iff_ne.mpr c37
           by_cases c38 : (bt a0 x3_1) = 47
           ·rw [if_pos c38] at H
            have c38b0 : ((bt a0 x3_1) == 47) = true := beq_iff_eq.mpr c38
            have c38b1 : ((bt a0 x3_1) != 47) = false := bne_eq_false_iff_eq.mpr c38
            clear c38
            have H' := Aside0.mk H
            clear H
            have p4 : 0 ≤ (x3_1 : Int) := of_decide_eq_true z67_
            have q4 : x3_1 < (a0.size : Int) := of_decide_eq_true z67_
            have hx4 := bt_at a0 x3_1
            replace p4 := eq_true p4
            replace q4 := eq_true q4
            go_wp2
            go_roundg k1
            case measure => have := HK1.out; omega
            case rel => exact ⟨(wrap64 (x3_1 + 1)), z64_, H', ⟨z70_⟩, z65_⟩
           ·rw [if_neg c38] at H
            have c38b0 : ((bt a0 x3_1) == 47) = false := beq_eq_false_iff_ne.mpr c38
            have c38b1 : ((bt a0 x3_1) != 47) = true := bne_iff_ne.mpr c38
            by_cases c39 : (bt a0 x3_1) = 95
            ·rw [if_pos c39] at H
             have c39b0 : ((bt a0 x3_1) == 95) = true := beq_iff_eq.mpr c39
             have c39b1 : ((bt a0 x3_1) != 95) = false := bne_eq_false_iff_eq.mpr c39
             clear c39
             have H' := Aside0.mk H
             clear H
             have p4 : 0 ≤ (x3_1 : Int) := of_decide_eq_true z67_
             have q4 : x3_1 < (a0.size : Int) := of_decide_eq_true z67_
             have hx4 := bt_at a0 x3_1
             replace p4 := eq_true p4
             replace q4 := eq_true q4
             go_wp2
             go_roundg k1
             case measure => have := HK1.out; omega
             case rel => exact ⟨(wrap64 (x3_1 + 1)), z64_, H', ⟨z70_⟩, z65_⟩
            ·rw [if_neg c39] at H
             have c39b0 : ((bt a0 x3_1) == 95) = false := beq_eq_false_iff_ne.mpr c39
             have c39b1 : ((bt a0 x3_1) != 95) = true := bne_iff_ne.mpr c39
             by_cases c40 : (bt a0 x3_1) = 45
             ·rw [if_pos c40] at H
              have c40b0 : ((bt a0 x3_1) == 45) = true := beq_iff_eq.mpr c40
              have c40b1 : ((bt a0 x3_1) != 45) = false := bne_eq_false_iff_eq.mpr c40
              clear c40
              have H' := Aside0.mk H
              clear H
              have p4 : 0 ≤ (x3_1 : Int) := of_decide_eq_true z67_
              have q4 : x3_1 < (a0.size : Int) := of_decide_eq_true z67_
              have hx4 := bt_at a0 x3_1
              replace p4 := eq_true p4
              replace q4 := eq_true q4
              go_wp2
              go_roundg k1
              case measure => have := HK1.out; omega
              case rel => exact ⟨(wrap64 (x3_1 + 1)), z64_, H', ⟨z70_⟩, z65_⟩
             ·rw [if_neg c40] at H
              have c40b0 : ((bt a0 x3_1) == 45) = false := beq_eq_false_iff_ne.mpr c40
              have c40b1 : ((bt a0 x3_1) != 45) = true := bne_iff_ne.mpr c40
              by_cases c41 : ((bt a0 x3_1) = 61)
              ·rw [if_pos c41] at H
               have c41b0 : ((bt a0 x3_1) == 61) = true := beq_iff_eq.mpr c41
               have c41b1 : ((bt a0 x3_1) != 61) = false := bne_eq_false_iff_eq.mpr c41
               clear c41
               have H' := Aside0.mk H
               clear H
               have p4 : 0 ≤ (x3_1 : Int) := of_decide_eq_true z67_
               have q4 : x3_1 < (a0.size : Int) := of_decide_eq_true z67_
               have hx4 := bt_at a0 x3_1
               replace p4 := eq_true p4
               replace q4 := eq_true q4
               go_wp2
               go_roundg k1
               case measure => have := HK1.out; omega
               case rel => exact ⟨(wrap64 (x3_1 + 1)), z64_, H', ⟨z70_⟩, z65_⟩
              ·rw [if_neg c41] at H
               have c41b0 : ((bt a0 x3_1) == 61) = false := beq_eq_false_iff_ne.mpr c41
               have c41b1 : ((bt a0 x3_1) != 61) = true := bne_iff_ne.mpr c41
               obtain rfl := Option.some.inj H
               have p4 : 0 ≤ (x3_1 : Int) := of_decide_eq_true z67_
               have q4 : x3_1 < (a0.size : Int) := of_decide_eq_true z67_
               have hx4 := bt_at a0 x3_1
               replace p4 := eq_true p4
               replace q4 := eq_true q4
               go_wp2
               go_ret
               exact ⟨z64_, z65_⟩
        ·rw [if_neg c35] at H
         have c35b0 : decide (97 ≤ (bt a0 x3_1)) = false := decide_eq_false c35; clear c35
         by_cases c42 : (bt a0 x3_1) = 43
         ·rw [if_pos c42] at H
          have c42b0 : ((bt a0 x3_1) == 43) = true := beq_iff_eq.mpr c42
          have c42b1 : ((bt a0 x3_1) != 43) = false := bne_eq_false_iff_eq.mpr c42
          clear c42
          have H' := Aside0.mk H
          clear H
          have p4 : 0 ≤ (x3_1 : Int) := of_decide_eq_true z67_
          have q4 : x3_1 < (a0.size : Int) := of_decide_eq_true z67_
          have hx4 := bt_at a0 x3_1
          replace p4 := eq_true p4
          replace q4 := eq_true q4
          go_wp2
          go_roundg k1
          case measure => have := HK1.out; omega
          case rel => exact ⟨(wrap64 (x3_1 + 1)), z64_, H', ⟨z70_⟩, z65_⟩
         ·rw [if_neg c42] at H
          have c42b0 : ((bt a0 x3_1) == 43) = false := beq_eq_false_iff_ne.mpr c42
          have c42b1 : ((bt a0 x3_1) != 43) = true := bne_iff_ne.mpr c42
          by_cases c43 : (bt a0 x3_1) = 47
          ·rw [if_pos c43] at H
           have c43b0 : ((bt a0 x3_1) == 47) = true := beq_iff_eq.mpr c43
           have c43b1 : ((bt a0 x3_1) != 47) = false := bne_eq_false_iff_eq.mpr c43
           clear c43
           have H' := Aside0.mk H
           clear H
           have p4 : 0 ≤ (x3_1 : Int) := of_decide_eq_true z67_
           have q4 : x3_1 < (a0.size : Int) := of_decide_eq_true z67_
           have hx4 := bt_at a0 x3_1
           replace p4 := eq_true p4
           replace q4 := eq_true q4
           go_wp2
           go_roundg k1
           case measure => have := HK1.out; omega
           case rel => exact ⟨(wrap64 (x3_1 + 1)), z64_, H', ⟨z70_⟩, z65_⟩
          ·rw [if_neg c43] at H
           have c43b0 : ((bt a0 x3_1) == 47) = false := beq_eq_false_iff_ne.mpr c43
           have c43b1 : ((bt a0 x3_1) != 47) = true := bne_iff_ne.mpr c43
           by_cases c44 : (bt a0 x3_1) = 95
           ·rw [if_pos c44] at H
            have c44b0 : ((bt a0 x3_1) == 95) = true := beq_iff_eq.mpr c44
            have c44b1 : ((bt a0 x3_1) != 95) = false := bne_eq_false_iff_eq.mpr c44
            clear c44
            have H' := Aside0.mk H
            clear H
            have p4 : 0 ≤ (x3_1 : Int) := of_decide_eq_true z67_
            have q4 : x3_1 < (a0.size : Int) := of_decide_eq_true z67_
            have hx4 := bt_at a0 x3_1
            replace p4 := eq_true p4
            replace q4 := eq_true q4
            go_wp2
            go_roundg k1
            case measure => have := HK1.out; omega
            case rel => exact ⟨(wrap64 (x3_1 + 1)), z64_, H', ⟨z70_⟩, z65_⟩
           ·rw [if_neg c44] at H
            have c44b0 : ((bt a0 x3_1) == 95) = false := beq_eq_false_iff_ne.mpr c44
            have c44b1 : ((bt a0 x3_1) != 95) = true := bne_iff_ne.mpr c44
            by_cases c45 : (bt a0 x3_1) = 45
            ·rw [if_pos c45] at H
             have c45b0 : ((bt a0 x3_1) == 45) = true := beq_iff_eq.mpr c45
             have c45b1 : ((bt a0 x3_1) != 45) = false := bne_eq_false_iff_eq.mpr c45
             clear c45
             have H' := Aside0.mk H
             clear H
             have p4 : 0 ≤ (x3_1 : Int) := of_decide_eq_true z67_
             have q4 : x3_1 < (a0.size : Int) := of_decide_eq_true z67_
             have hx4 := bt_at a0 x3_1
             replace p4 := eq_true p4
             replace q4 := eq_true q4
             go_wp2
             go_roundg k1
             case measure => have := HK1.out; omega
             case rel => exact ⟨(wrap64 (x3_1 + 1)), z64_, H', ⟨z70_⟩, z65_⟩
            ·rw [if_neg c45] at H
             have c45b0 : ((bt a0 x3_1) == 45) = false := beq_eq_false_iff_ne.mpr c45
             have c45b1 : ((bt a0 x3_1) != 45) = true := bne_iff_ne.mpr c45
             by_cases c46 : ((bt a0 x3_1) = 61)
             ·rw [if_pos c46] at H
              have c46b0 : ((bt a0 x3_1) == 61) = true := beq_iff_eq.mpr c46
              have c46b1 : ((bt a0 x3_1) != 61) = false := bne_eq_false_iff_eq.mpr c46
              clear c46
              have H' := Aside0.mk H
              clear H
              have p4 : 0 ≤ (x3_1 : Int) := of_decide_eq_true z67_
              have q4 : x3_1 < (a0.size : Int) := of_decide_eq_true z67_
              have hx4 := bt_at a0 x3_1
              replace p4 := eq_true p4
              replace q4 := eq_true q4
              go_wp2
              go_roundg k1
              case measure => have := HK1.out; omega
              case rel => exact ⟨(wrap64 (x3_1 + 1)), z64_, H', ⟨z70_⟩, z65_⟩
             ·rw [if_neg c46] at H
              have c46b0 : ((bt a0 x3_1) == 61) = false := beq_eq_false_iff_ne.mpr c46
              have c46b1 : ((bt a0 x3_1) != 61) = true := bne_iff_ne.mpr c46
              obtain rfl := Option.some.inj H
              have p4 : 0 ≤ (x3_1 : Int) := of_decide_eq_true z67_
              have q4 : x3_1 < (a0.size : Int) := of_decide_eq_true z67_
              have hx4 := bt_at a0 x3_1
              replace p4 := eq_true p4
              replace q4 := eq_true q4
              go_wp2
              go_ret
              exact ⟨z64_, z65_⟩
      ·rw [if_neg c33] at H
       have c33b0 : decide (65 ≤ (bt a0 x3_1)) = false := decide_eq_false c33; clear c33
       by_cases c47 : (bt a0 x3_1) ≥ 97
       ·rw [if_pos c47] at H
        have c47b0 : decide (97 ≤ (bt a0 x3_1)) = true := decide_eq_true c47; clear c47
        by_cases c48 : (bt a0 x3_1) ≤ 122
        ·rw [if_pos c48] at H
         have c48b0 : decide ((bt a0 x3_1) ≤ 122) = true := decide_eq_true c48; clear c48
         have H' := Aside0.mk H
         clear H
         have p4 : 0 ≤ (x3_1 : Int) := of_decide_eq_true z67_
         have q4 : x3_1 < (a0.size : Int) := of_decide_eq_true z67_
         have hx4 := bt_at a0 x3_1
         replace p4 := eq_true p4
         replace q4 := eq_true q4
         go_wp2
         go_roundg k1
         case measure => have := HK1.out; omega
         case rel => exact ⟨(wrap64 (x3_1 + 1)), z64_, H', ⟨z70_⟩, z65_⟩
        ·rw [if_neg c48] at H
         have c48b0 : decide ((bt a0 x3_1) ≤ 122) = false := decide_eq_false c48; clear c48
         by_cases c49 : (bt a0 x3_1) = 43
         ·rw [if_pos c49] at H
          have c49b0 : ((bt a0 x3_1) == 43) = true := beq_iff_eq.mpr c49
          have c49b1 : ((bt a0 x3_1) != 43) = false := bne_eq_false_iff_eq.mpr c49
          clear c49
          have H' := Aside0.mk H
          clear H
          have p4 : 0 ≤ (x3_1 : Int) := of_decide_eq_true z67_
          have q4 : x3_1 < (a0.size : Int) := of_decide_eq_true z67_
          have hx4 := bt_at a0 x3_1
          replace p4 := eq_true p4
          replace q4 := eq_true q4
          go_wp2
          go_roundg k1
          case measure => have := HK1.out; omega
          case rel => exact ⟨(wrap64 (x3_1 + 1)), z64_, H', ⟨z70_⟩, z65_⟩
         ·rw [if_neg c49] at H
          have c49b0 : ((bt a0 x3_1) == 43) = false := beq_eq_false_iff_ne.mpr c49
          have c49b1 : ((bt a0 x3_1) != 43) = true := bne_iff_ne.mpr c49
          by_cases c50 : (bt a0 x3_1) = 47
          ·rw [if_pos c50] at H
           have c50b0 : ((bt a0 x3_1) == 47) = true := beq_iff_eq.mpr c50
           have c50b1 : ((bt a0 x3_1) != 47) = false := bne_eq_false_iff_eq.mpr c50
           clear c50
           have H' := Aside0.mk H
           clear H
           have p4 : 0 ≤ (x3_1 : Int) := of_decide_eq_true z67_
           have q4 : x3_1 < (a0.size : Int) := of_decide_eq_true z67_
           have hx4 := bt_at a0 x3_1
           replace p4 := eq_true p4
           replace q4 := eq_true q4
           go_wp2
           go_roundg k1
           case measure => have := HK1.out; omega
           case rel => exact ⟨(wrap64 (x3_1 + 1)), z64_, H', ⟨z70_⟩, z65_⟩
          ·rw [if_neg c50] at H
           have c50b0 : ((bt a0 x3_1) == 47) = false := beq_eq_false_iff_ne.mpr c50
           have c50b1 : ((bt a0 x3_1) != 47) = true := bne_iff_ne.mpr c50
           by_cases c51 : (bt a0 x3_1) = 95
           ·rw [if_pos c51] at H
            have c51b0 : ((bt a0 x3_1) == 95) = true := beq_iff_eq.mpr c51
            have c51b1 : ((bt a0 x3_1) != 95) = false := bne_eq_false_iff_eq.mpr c51
            clear c51
            have H' := Aside0.mk H
            clear H
            have p4 : 0 ≤ (x3_1 : Int) := of_decide_eq_true z67_
            have q4 : x3_1 < (a0.size : Int) := of_decide_eq_true z67_
            have hx4 := bt_at a0 x3_1
            replace p4 := eq_true p4
            replace q4 := eq_true q4
            go_wp2
            go_roundg k1
            case measure => have := HK1.out; omega
            case rel => exact ⟨(wrap64 (x3_1 + 1)), z64_, H', ⟨z70_⟩, z65_⟩
           ·rw [if_neg c51] at H
            have c51b0 : ((bt a0 x3_1) == 95) = false := beq_eq_false_iff_ne.mpr c51
            have c51b1 : ((bt a0 x3_1) != 95) = true := bne_iff_ne.mpr c51
            by_cases c52 : (bt a0 x3_1) = 45
            ·rw [if_pos c52] at H
             have c52b0 : ((bt a0 x3_1) == 45) = true := beq_iff_eq.mpr c52
             have c52b1 : ((bt a0 x3_1) != 45) = false := bne_eq_false_iff_eq.mpr c52
             clear c52
             have H' := Aside0.mk H
             clear H
             have p4 : 0 ≤ (x3_1 : Int) := of_decide_eq_true z67_
             have q4 : x3_1 < (a0.size : Int) := of_decide_eq_true z67_
             have hx4 := bt_at a0 x3_1
             replace p4 := eq_true p4
             replace q4 := eq_true q4
             go_wp2
             go_roundg k1
             case measure => have := HK1.out; omega
             case rel => exact ⟨(wrap64 (x3_1 + 1)), z64_, H', ⟨z70_⟩, z65_⟩
            ·rw [if_neg c52] at H
             have c52b0 : ((bt a0 x3_1) == 45) = false := beq_eq_false_iff_ne.mpr c52
             have c52b1 : ((bt a0 x3_1) != 45) = true := bne_iff_ne.mpr c52
             by_cases c53 : ((bt a0 x3_1) = 61)
             ·rw [if_pos c53] at H
              have c53b0 : ((bt a0 x3_1) == 61) = true := beq_iff_eq.mpr c53
              have c53b1 : ((bt a0 x3_1) != 61) = false := bne_eq_false_iff_eq.mpr c53
              clear c53
              have H' := Aside0.mk H
              clear H
              have p4 : 0 ≤ (x3_1 : Int) := of_decide_eq_true z67_
              have q4 : x3_1 < (a0.size : Int) := of_decide_eq_true z67_
              have hx4 := bt_at a0 x3_1
              replace p4 := eq_true p4
              replace q4 := eq_true q4
              go_wp2
              go_roundg k1
              case measure => have := HK1.out; omega
              case rel => exact ⟨(wrap64 (x3_1 + 1)), z64_, H', ⟨z70_⟩, z65_⟩
             ·rw [if_neg c53] at H
              have c53b0 : ((bt a0 x3_1) == 61) = false := beq_eq_false_iff_ne.mpr c53
              have c53b1 : ((bt a0 x3_1) != 61) = true := bne_iff_ne.mpr c53
              obtain rfl := Option.some.inj H
              have p4 : 0 ≤ (x3_1 : Int) := of_decide_eq_true z67_
              have q4 : x3_1 < (a0.size : Int) := of_decide_eq_true z67_
              have hx4 := bt_at a0 x3_1
              replace p4 := eq_true p4
              replace q4 := eq_true q4
              go_wp2
              go_ret
              exact ⟨z64_, z65_⟩
       ·rw [if_neg c47] at H
        have c47b0 : decide (97 ≤ (bt a0 x3_1)) = false := decide_eq_false c47; clear c47
        by_cases c54 : (bt a0 x3_1) = 43
        ·rw [if_pos c54] at H
         have c54b0 : ((bt a0 x3_1) == 43) = true := beq_iff_eq.mpr c54
         have c54b1 : ((bt a0 x3_1) != 43) = false := bne_eq_false_iff_eq.mpr c54
         clear c54
         have H' := Aside0.mk H
         clear H
         have p4 : 0 ≤ (x3_1 : Int) := of_decide_eq_true z67_
         have q4 : x3_1 < (a0.size : Int) := of_decide_eq_true z67_
         have hx4 := bt_at a0 x3_1
         replace p4 := eq_true p4
         replace q4 := eq_true q4
         go_wp2
         go_roundg k1
         case measure => have := HK1.out; omega
         case rel => exact ⟨(wrap64 (x3_1 + 1)), z64_, H', ⟨z70_⟩, z65_⟩
        ·rw [if_neg c54] at H
         have c54b0 : ((bt a0 x3_1) == 43) = false := beq_eq_false_iff_ne.mpr c54
         have c54b1 : ((bt a0 x3_1) != 43) = true := bne_iff_ne.mpr c54
         by_cases c55 : (bt a0 x3_1) = 47
         ·rw [if_pos c55] at H
          have c55b0 : ((bt a0 x3_1) == 47) = true := beq_iff_eq.mpr c55
          have c55b1 : ((bt a0 x3_1) != 47) = false := bne_eq_false_iff_eq.mpr c55
          clear c55
          have H' := Aside0.mk H
          clear H
          have p4 : 0 ≤ (x3_1 : Int) := of_decide_eq_true z67_
          have q4 : x3_1 < (a0.size : Int) := of_decide_eq_true z67_
          have hx4 := bt_at a0 x3_1
          replace p4 := eq_true p4
          replace q4 := eq_true q4
          go_wp2
          go_roundg k1
          case measure => have := HK1.out; omega
          case rel => exact ⟨(wrap64 (x3_1 + 1)), z64_, H', ⟨z70_⟩, z65_⟩
         ·rw [if_neg c55] at H
          have c55b0 : ((bt a0 x3_1) == 47) = false := beq_eq_false_iff_ne.mpr c55
          have c55b1 : ((bt a0 x3_1) != 47) = true := bne_iff_ne.mpr c55
          by_cases c56 : (bt a0 x3_1) = 95
          ·rw [if_pos c56] at H
           have c56b0 : ((bt a0 x3_1) == 95) = true := beq_iff_eq.mpr c56
           have c56b1 : ((bt a0 x3_1) != 95) = false := bne_eq_false_iff_eq.mpr c56
           clear c56
           have H' := Aside0.mk H
           clear H
           have p4 : 0 ≤ (x3_1 : Int) := of_decide_eq_true z67_
           have q4 : x3_1 < (a0.size : Int) := of_decide_eq_true z67_
           have hx4 := bt_at a0 x3_1
           replace p4 := eq_true p4
           replace q4 := eq_true q4
           go_wp2
           go_roundg k1
           case measure => have := HK1.out; omega
           case rel => exact ⟨(wrap64 (x3_1 + 1)), z64_, H', ⟨z70_⟩, z65_⟩
          ·rw [if_neg c56] at H
           have c56b0 : ((bt a0 x3_1) == 95) = false := beq_eq_false_iff_ne.mpr c56
           have c56b1 : ((bt a0 x3_1) != 95) = true := bne_iff_ne.mpr c56
           by_cases c57 : (bt a0 x3_1) = 45
           ·rw [if_pos c57] at H
            have c57b0 : ((bt a0 x3_1) == 45) = true := beq_iff_eq.mpr c57
            have c57b1 : ((bt a0 x3_1) != 45) = false := bne_eq_false_iff_eq.mpr c57
            clear c57
            have H' := Aside0.mk H
            clear H
            have p4 : 0 ≤ (x3_1 : Int) := of_decide_eq_true z67_
            have q4 : x3_1 < (a0.size : Int) := of_decide_eq_true z67_
            have hx4 := bt_at a0 x3_1
            replace p4 := eq_true p4
            replace q4 := eq_true q4
            go_wp2
            go_roundg k1
            case measure => have := HK1.out; omega
            case rel => exact ⟨(wrap64 (x3_1 + 1)), z64_, H', ⟨z70_⟩, z65_⟩
           ·rw [if_neg c57] at H
            have c57b0 : ((bt a0 x3_1) == 45) = false := beq_eq_false_iff_ne.mpr c57
            have c57b1 : ((bt a0 x3_1) != 45) = true := bne_iff_ne.mpr c57
            by_cases c58 : ((bt a0 x3_1) = 61)
            ·rw [if_pos c58] at H
             have c58b0 : ((bt a0 x3_1) == 61) = true := beq_iff_eq.mpr c58
             have c58b1 : ((bt a0 x3_1) != 61) = false := bne_eq_false_iff_eq.mpr c58
             clear c58
             have H' := Aside0.mk H
             clear H
             have p4 : 0 ≤ (x3_1 : Int) := of_decide_eq_true z67_
             have q4 : x3_1 < (a0.size : Int) := of_decide_eq_true z67_
             have hx4 := bt_at a0 x3_1
             replace p4 := eq_true p4
             replace q4 := eq_true q4
             go_wp2
             go_roundg k1
             case measure => have := HK1.out; omega
             case rel => exact ⟨(wrap64 (x3_1 + 1)), z64_, H', ⟨z70_⟩, z65_⟩
            ·rw [if_neg c58] at H
             have c58b0 : ((bt a0 x3_1) == 61) = false := beq_eq_false_iff_ne.mpr c58
             have c58b1 : ((bt a0 x3_1) != 61) = true := bne_iff_ne.mpr c58
             obtain rfl := Option.some.inj H
             have p4 : 0 ≤ (x3_1 : Int) := of_decide_eq_true z67_
             have q4 : x3_1 < (a0.size : Int) := of_decide_eq_true z67_
             have hx4 := bt_at a0 x3_1
             replace p4 := eq_true p4
             replace q4 := eq_true q4
             go_wp2
             go_ret
             exact ⟨z64_, z65_⟩
    ·rw [if_neg c3] at H
     exact absurd H (by simp)
   ·rw [if_neg c2] at H
    have c2b0 : decide (x3_1 < (a0.size : Int)) = false := decide_eq_false c2; clear c2
    obtain rfl := Option.some.inj H
    go_wp2
    go_ret
    exact ⟨z64_, z65_⟩

def pursuivantref06_bad.j0 : Nat → Int → Int → Bool → Option (Bool)
 | 0, _, _, _ => none
 | k + 1, x0, x1, x5 => if x5 = true then (some true) else (if x0 = 35 then (some (decide (x1 < 3))) else (if x0 = 63 then (some (decide (x1 < 2))) else (if x1 = 0 then (if x0 = 47 then (some true) else (some (x0 == 64))) else (some false))))
def pursuivantref06_bad.f (k : Nat) (a0 a1 : Int) : Option (Bool) := if a0 < 33 then (pursuivantref06_bad.j0 k a0 a1 true) else (if a0 > 126 then (pursuivantref06_bad.j0 k a0 a1 true) else (if a0 = 34 then (pursuivantref06_bad.j0 k a0 a1 true) else (if a0 = 60 then (pursuivantref06_bad.j0 k a0 a1 true) else (if a0 = 62 then (pursuivantref06_bad.j0 k a0 a1 true) else (if a0 = 92 then (pursuivantref06_bad.j0 k a0 a1 true) else (if a0 = 94 then (pursuivantref06_bad.j0 k a0 a1 true) else (if a0 = 96 then (pursuivantref06_bad.j0 k a0 a1 true) else (if a0 = 123 then (pursuivantref06_bad.j0 k a0 a1 true) else (if a0 = 124 then (pursuivantref06_bad.j0 k a0 a1 true) else (pursuivantref06_bad.j0 k a0 a1 (a0 == 125)))))))))))
theorem pursuivantref06_bad.mono_l : ∀ k, (∀ y0 y1 y2, LeO (pursuivantref06_bad.j0 k y0 y1 y2) (pursuivantref06_bad.j0 (k + 1) y0 y1 y2))
 | 0 => fun _ _ _ r h => by simp [pursuivantref06_bad.j0] at h
 | k + 1 => by
  have ih0 := pursuivantref06_bad.mono_l k
  ·intro y0 y1 y2
   unfold pursuivantref06_bad.j0
   repeat' first
   | (with_reducible exact ih0 _ _ _)
   | (with_reducible exact LeO.refl _)
   | (with_reducible exact LeO.none _)
   | (with_reducible refine LeO.ite ?_ ?_)
   | (with_reducible refine LeO.bind ?_ (fun _ => ?_))
   | exact ih0 _ _ _
   | exact LeO.none _
   | refine LeO.ite ?_ ?_
   | refine LeO.bind ?_ (fun _ => ?_)
theorem pursuivantref06_bad.mono : ∀ a0 a1 k, LeO (pursuivantref06_bad.f k a0 a1) (pursuivantref06_bad.f (k + 1) a0 a1) := by
 intro a0 a1 k
 have ih0 := pursuivantref06_bad.mono_l k
 unfold pursuivantref06_bad.f
 repeat' first
   | (with_reducible exact ih0 _ _ _)
   | (with_reducible exact LeO.refl _)
   | (with_reducible exact LeO.none _)
   | (with_reducible refine LeO.ite ?_ ?_)
   | (with_reducible refine LeO.bind ?_ (fun _ => ?_))
   | exact ih0 _ _ _
   | exact LeO.none _
   | refine LeO.ite ?_ ?_
   | refine LeO.bind ?_ (fun _ => ?_)
set_option maxHeartbeats 8000000 in
set_option maxRecDepth 100000 in
theorem pursuivantref06_bad.calls (k : Nat) (a0 a1 : Int) (r : Bool) (w : World) (hG_ : GW w) (h : pursuivantref06_bad.f k a0 a1 = some r) :
  Calls Tryz.prog 92 #[.int .u8 a0, .int .i64 a1] w fun e w' => e = .returned (.bool r) ∧ Drawn0 w w' := by
 have H : (if a0 < 33 then (pursuivantref06_bad.j0 k a0 a1 true) else (if a0 > 126 then (pursuivantref06_bad.j0 k a0 a1 true) else (if a0 = 34 then (pursuivantref06_bad.j0 k a0 a1 true) else (if a0 = 60 then (pursuivantref06_bad.j0 k a0 a1 true) else (if a0 = 62 then (pursuivantref06_bad.j0 k a0 a1 true) else (if a0 = 92 then (pursuivantref06_bad.j0 k a0 a1 true) else (if a0 = 94 then (pursuivantref06_bad.j0 k a0 a1 true) else (if a0 = 96 then (pursuivantref06_bad.j0 k a0 a1 true) else (if a0 = 123 then (pursuivantref06_bad.j0 k a0 a1 true) else (if a0 = 124 then (pursuivantref06_bad.j0 k a0 a1 true) else (pursuivantref06_bad.j0 k a0 a1 (a0 == 125)))))))))))) = some r := h
 clear h; have HC3 := Aside0.mk H; clear H
 go_enter Tryz.func92, Tryz.ntmps92
 go_upto_region 1 with (fail)
 go_cut [5] (fun v5 wc => ∃ (kq : Nat) (x5_2 : Bool), v5 = .bool x5_2 ∧ Aside0 (pursuivantref06_bad.j0 kq a0 a1 x5_2 = some r) ∧ Aside0 (kq ≤ k) ∧ Drawn0 w wc)
 case first =>
  have H := HC3.out
  clear HC3
  by_cases c4 : a0 < 33
  ·rw [if_pos c4] at H
   have c4b0 : decide (a0 < 33) = true := decide_eq_true c4; clear c4
   (first | rw [c4b0] | (simp only [i64_w, i32_w]; rw [c4b0]) | skip)
   have H' := Aside0.mk H
   clear H; go_wp2; go_meet
   case rel => exact ⟨_, (true), z64_, H', ⟨z69_⟩, z65_⟩
  ·rw [if_neg c4] at H
   have c4b0 : decide (a0 < 33) = false := decide_eq_false c4; clear c4
   (first | rw [c4b0] | (simp only [i64_w, i32_w]; rw [c4b0]) | skip)
   by_cases c5 : a0 > 126
   ·rw [if_pos c5] at H
    have c5b0 : decide (126 < a0) = true := decide_eq_true c5; clear c5
    have H' := Aside0.mk H
    clear H; go_wp2; go_meet
    case rel => exact ⟨_, (true), z64_, H', ⟨z69_⟩, z65_⟩
   ·rw [if_neg c5] at H
    have c5b0 : decide (126 < a0) = false := decide_eq_false c5; clear c5
    by_cases c6 : a0 = 34
    ·rw [if_pos c6] at H
     have c6b0 : (a0 == 34) = true := beq_iff_eq.mpr c6
     have c6b1 : (a0 != 34) = false := bne_eq_false_iff_eq.mpr c6
     clear c6
     have H' := Aside0.mk H
     clear H; go_wp2; go_meet
     case rel => exact ⟨_, (true), z64_, H', ⟨z69_⟩, z65_⟩
    ·rw [if_neg c6] at H
     have c6b0 : (a0 == 34) = false := beq_eq_false_iff_ne.mpr c6
     have c6b1 : (a0 != 34) = true := bne_iff_ne.mpr c6
     by_cases c7 : a0 = 60
     ·rw [if_pos c7] at H
      have c7b0 : (a0 == 60) = true := beq_iff_eq.mpr c7
      have c7b1 : (a0 != 60) = false := bne_eq_false_iff_eq.mpr c7
      clear c7
      have H' := Aside0.mk H
      clear H; go_wp2; go_meet
      case rel => exact ⟨_, (true), z64_, H', ⟨z69_⟩, z65_⟩
     ·rw [if_neg c7] at H
      have c7b0 : (a0 == 60) = false := beq_eq_false_iff_ne.mpr c7
      have c7b1 : (a0 != 60) = true := bne_iff_ne.mpr c7
      by_cases c8 : a0 = 62
      ·rw [if_pos c8] at H
       have c8b0 : (a0 == 62) = true := beq_iff_eq.mpr c8
       have c8b1 : (a0 != 62) = false := bne_eq_false_iff_eq.mpr c8
       clear c8
       have H' := Aside0.mk H
       clear H; go_wp2; go_meet
       case rel => exact ⟨_, (true), z64_, H', ⟨z69_⟩, z65_⟩
      ·rw [if_neg c8] at H
       have c8b0 : (a0 == 62) = false := beq_eq_false_iff_ne.mpr c8
       have c8b1 : (a0 != 62) = true := bne_iff_ne.mpr c8
       by_cases c9 : a0 = 92
       ·rw [if_pos c9] at H
        have c9b0 : (a0 == 92) = true := beq_iff_eq.mpr c9
        have c9b1 : (a0 != 92) = false := bne_eq_false_iff_eq.mpr c9
        clear c9
        have H' := Aside0.mk H
        clear H; go_wp2; go_meet
        case rel => exact ⟨_, (true), z64_, H', ⟨z69_⟩, z65_⟩
       ·rw [if_neg c9] at H
        have c9b0 : (a0 == 92) = false := beq_eq_false_iff_ne.mpr c9
        have c9b1 : (a0 != 92) = true := bne_iff_ne.mpr c9
        by_cases c10 : a0 = 94
        ·rw [if_pos c10] at H
         have c10b0 : (a0 == 94) = true := beq_iff_eq.mpr c10
         have c10b1 : (a0 != 94) = false := bne_eq_false_iff_eq.mpr c10
         clear c10
         have H' := Aside0.mk H
         clear H; go_wp2; go_meet
         case rel => exact ⟨_, (true), z64_, H', ⟨z69_⟩, z65_⟩
        ·rw [if_neg c10] at H
         have c10b0 : (a0 == 94) = false := beq_eq_false_iff_ne.mpr c10
         have c10b1 : (a0 != 94) = true := bne_iff_ne.mpr c10
         by_cases c11 : a0 = 96
         ·rw [if_pos c11] at H
          have c11b0 : (a0 == 96) = true := beq_iff_eq.mpr c11
          have c11b1 : (a0 != 96) = false := bne_eq_false_iff_eq.mpr c11
          clear c11
          have H' := Aside0.mk H
          clear H; go_wp2; go_meet
          case rel => exact ⟨_, (true), z64_, H', ⟨z69_⟩, z65_⟩
         ·rw [if_neg c11] at H
          have c11b0 : (a0 == 96) = false := beq_eq_false_iff_ne.mpr c11
          have c11b1 : (a0 != 96) = true := bne_iff_ne.mpr c11
          by_cases c12 : a0 = 123
          ·rw [if_pos c12] at H
           have c12b0 : (a0 == 123) = true := beq_iff_eq.mpr c12
           have c12b1 : (a0 != 123) = false := bne_eq_false_iff_eq.mpr c12
           clear c12
           have H' := Aside0.mk H
           clear H; go_wp2; go_meet
           case rel => exact ⟨_, (true), z64_, H', ⟨z69_⟩, z65_⟩
          ·rw [if_neg c12] at H
           have c12b0 : (a0 == 123) = false := beq_eq_false_iff_ne.mpr c12
           have c12b1 : (a0 != 123) = true := bne_iff_ne.mpr c12
           by_cases c13 : a0 = 124
           ·rw [if_pos c13] at H
            have c13b0 : (a0 == 124) = true := beq_iff_eq.mpr c13
            have c13b1 : (a0 != 124) = false := bne_eq_false_iff_eq.mpr c13
            clear c13
            have H' := Aside0.mk H
            clear H; go_wp2; go_meet
            case rel => exact ⟨_, (true), z64_, H', ⟨z69_⟩, z65_⟩
           ·rw [if_neg c13] at H
            have c13b0 : (a0 == 124) = false := beq_eq_false_iff_ne.mpr c13
            have c13b1 : (a0 != 124) = true := bne_iff_ne.mpr c13
            have H' := Aside0.mk H
            clear H; go_wp2; go_meet
            case rel => exact ⟨_, ((a0 == 125)), z64_, H', ⟨z69_⟩, z65_⟩
 case rest =>
  clear HC3
  obtain ⟨kq, x5_2, rfl, HA, HJ2, ⟨mc2, rfl⟩⟩ := hcut
  cases kq with
  | zero => exact absurd HA.out (by simp [pursuivantref06_bad.j0])
  | succ kj2 =>
   have H := HA.out
   clear HA
   simp only [pursuivantref06_bad.j0] at H
   by_cases c14 : x5_2 = true
   ·subst c14
    have H1 : (some true) = some r := by rw [if_pos rfl] at H; exact H
    clear H
    have H := H1
    clear H1
    obtain rfl := Option.some.inj H
    go_wp2
    go_ret
    exact ⟨z64_, z65_⟩
   ·replace c14 := Bool.eq_false_iff.mpr c14
    subst c14
    have H1 : (if a0 = 35 then (some (decide (a1 < 3))) else (if a0 = 63 then (some (decide (a1 < 2))) else (if a1 = 0 then (if a0 = 47 then (some true) else (some (a0 == 64))) else (some false)))) = some r := by rw [if_neg (show ¬ (false = true) by decide)] at H; exact H
    clear H
    have H := H1
    clear H1
    by_cases c15 : a0 = 35
    ·rw [if_pos c15] at H
     have c15b0 : (a0 == 35) = true := beq_iff_eq.mpr c15
     have c15b1 : (a0 != 35) = false := bne_eq_false_iff_eq.mpr c15
     clear c15
     obtain rfl := Option.some.inj H
     go_wp2
     go_ret
     exact ⟨z64_, z65_⟩
    ·rw [if_neg c15] at H
     have c15b0 : (a0 == 35) = false := beq_eq_false_iff_ne.mpr c15
     have c15b1 : (a0 != 35) = true := bne_iff_ne.mpr c15
     by_cases c16 : a0 = 63
     ·rw [if_pos c16] at H
      have c16b0 : (a0 == 63) = true := beq_iff_eq.mpr c16
      have c16b1 : (a0 != 63) = false := bne_eq_false_iff_eq.mpr c16
      clear c16
      obtain rfl := Option.some.inj H
      go_wp2
      go_ret
      exact ⟨z64_, z65_⟩
     ·rw [if_neg c16] at H
      have c16b0 : (a0 == 63) = false := beq_eq_false_iff_ne.mpr c16
      have c16b1 : (a0 != 63) = true := bne_iff_ne.mpr c16
      by_cases c17 : a1 = 0
      ·rw [if_pos c17] at H
       have c17b0 : (a1 == 0) = true := beq_iff_eq.mpr c17
       have c17b1 : (a1 != 0) = false := bne_eq_false_iff_eq.mpr c17
       clear c17
       by_cases c18 : a0 = 47
       ·rw [if_pos c18] at H
        have c18b0 : (a0 == 47) = true := beq_iff_eq.mpr c18
        have c18b1 : (a0 != 47) = false := bne_eq_false_iff_eq.mpr c18
        clear c18
        obtain rfl := Option.some.inj H
        go_wp2
        go_ret
        exact ⟨z64_, z65_⟩
       ·rw [if_neg c18] at H
        have c18b0 : (a0 == 47) = false := beq_eq_false_iff_ne.mpr c18
        have c18b1 : (a0 != 47) = true := bne_iff_ne.mpr c18
        obtain rfl := Option.some.inj H
        go_wp2
        go_ret
        exact ⟨z64_, z65_⟩
      ·rw [if_neg c17] at H
       have c17b0 : (a1 == 0) = false := beq_eq_false_iff_ne.mpr c17
       have c17b1 : (a1 != 0) = true := bne_iff_ne.mpr c17
       obtain rfl := Option.some.inj H
       go_wp2
       go_ret
       exact ⟨z64_, z65_⟩

def pursuivantref06_clean.l0 : Nat → ByteArray → Int → Int → Option (Bool)
 | 0, _, _, _ => none
 | k + 1, x0, x1, x5 => if x5 < (x0.size : Int) then (if 0 ≤ x5 then ((pursuivantref06_bad.f k (bt x0 x5) x1).bind fun t139 => (if t139 = true then (some false) else (pursuivantref06_clean.l0 k x0 x1 (wrap64 (x5 + 1))))) else (none)) else (some true)
def pursuivantref06_clean.f (k : Nat) (a0 : ByteArray) (a1 : Int) : Option (Bool) := pursuivantref06_clean.l0 k a0 a1 0
theorem pursuivantref06_clean.mono_l : ∀ k, (∀ y0 y1 y2, LeO (pursuivantref06_clean.l0 k y0 y1 y2) (pursuivantref06_clean.l0 (k + 1) y0 y1 y2))
 | 0 => fun _ _ _ r h => by simp [pursuivantref06_clean.l0] at h
 | k + 1 => by
  have ih0 := pursuivantref06_clean.mono_l k
  ·intro y0 y1 y2
   unfold pursuivantref06_clean.l0
   repeat' first
   | (with_reducible exact ih0 _ _ _)
   | (with_reducible exact pursuivantref06_bad.mono _ _ _)
   | (with_reducible exact LeO.refl _)
   | (with_reducible exact LeO.none _)
   | (with_reducible refine LeO.ite ?_ ?_)
   | (with_reducible refine LeO.bind ?_ (fun _ => ?_))
   | exact ih0 _ _ _
   | exact pursuivantref06_bad.mono _ _ _
   | exact LeO.none _
   | refine LeO.ite ?_ ?_
   | refine LeO.bind ?_ (fun _ => ?_)
theorem pursuivantref06_clean.mono : ∀ a0 a1 k, LeO (pursuivantref06_clean.f k a0 a1) (pursuivantref06_clean.f (k + 1) a0 a1) := by
 intro a0 a1 k
 have ih0 := pursuivantref06_clean.mono_l k
 unfold pursuivantref06_clean.f
 repeat' first
   | (with_reducible exact ih0 _ _ _)
   | (with_reducible exact pursuivantref06_bad.mono _ _ _)
   | (with_reducible exact LeO.refl _)
   | (with_reducible exact LeO.none _)
   | (with_reducible refine LeO.ite ?_ ?_)
   | (with_reducible refine LeO.bind ?_ (fun _ => ?_))
   | exact ih0 _ _ _
   | exact pursuivantref06_bad.mono _ _ _
   | exact LeO.none _
   | refine LeO.ite ?_ ?_
   | refine LeO.bind ?_ (fun _ => ?_)
set_option maxHeartbeats 8000000 in
set_option maxRecDepth 100000 in
theorem pursuivantref06_clean.calls (k : Nat) (a0 : ByteArray) (a1 : Int) (r : Bool) (w : World) (hG_ : GW w) (h : pursuivantref06_clean.f k a0 a1 = some r) :
  Calls Tryz.prog 47 #[.string a0, .int .i64 a1] w fun e w' => e = .returned (.bool r) ∧ Drawn0 w w' := by
 have H : (pursuivantref06_clean.l0 k a0 a1 0) = some r := h
 clear h
 have H' := Aside0.mk H
 clear H
 go_enter Tryz.func47, Tryz.ntmps47
 go_wp2
 go_loopg [5] k (fun kq v5 w' => ∃ (x5_1 : Int), v5 = .int .i64 x5_1 ∧ Aside0 (pursuivantref06_clean.l0 kq a0 a1 x5_1 = some r) ∧ Aside0 (kq ≤ k) ∧ Drawn0 w w')
 case atStart => exact ⟨(0), z64_, H', ⟨Nat.le_refl _⟩, z65_⟩
 case round =>
  clear H'
  obtain ⟨x5_1, rfl, HA, HK1, ⟨m1, rfl⟩⟩ := hrel
  cases gk with
  | zero => exact absurd HA.out (by simp [pursuivantref06_clean.l0])
  | succ k1 =>
   have H := HA.out
   clear HA
   simp only [pursuivantref06_clean.l0] at H
   by_cases c3 : x5_1 < (a0.size : Int)
   ·rw [if_pos c3] at H
    have c3b0 : decide (x5_1 < (a0.size : Int)) = true := decide_eq_true c3; clear c3
    by_cases c4 : 0 ≤ x5_1
    ·rw [if_pos c4] at H
     have c4b0 : decide (0 ≤ x5_1) = true := decide_eq_true c4; clear c4
     replace H := Option.bind_eq_some_iff.mp H
     obtain ⟨t139, A60, H⟩ := H
     replace H : (if t139 = true then (some false) else (pursuivantref06_clean.l0 k1 a0 a1 (wrap64 (x5_1 + 1)))) = some r := H
     have A6 := Aside0.mk A60; clear A60
     by_cases c7 : t139 = true
     ·subst c7
      have H1 : (some false) = some r := by rw [if_pos rfl] at H; exact H
      clear H
      have H := H1
      clear H1
      obtain rfl := Option.some.inj H
      have p5 : 0 ≤ (x5_1 : Int) := of_decide_eq_true z67_
      have q5 : x5_1 < (a0.size : Int) := of_decide_eq_true z67_
      have hx5 := bt_at a0 x5_1
      replace p5 := eq_true p5
      replace q5 := eq_true q5
      go_wp2_with (first | ((with_reducible refine gate_callee (f := 92) rfl ?_); refine goesL_ (some 16) rfl rfl Tryz.func92 (by kernel_rfl) rfl #[.int .u8 (bt a0 x5_1), .int .i64 a1] rfl z44_ ?_; (with_reducible refine (pursuivantref06_bad.calls k1 (bt a0 x5_1) a1 true _ ?gw48_ A6.out).mono ?_); (case gw48_ => exact z16_); rintro e w' ⟨rfl, ⟨nd, rfl⟩⟩; refine ⟨_, rfl, ?_⟩))
      go_ret
      exact ⟨z64_, z65_⟩
     ·replace c7 := Bool.eq_false_iff.mpr c7
      subst c7
      have H1 : (pursuivantref06_clean.l0 k1 a0 a1 (wrap64 (x5_1 + 1))) = some r := by rw [if_neg (show ¬ (false = true) by decide)] at H; exact H
      clear H
      have H := H1
      clear H1
      have H' := Aside0.mk H
      clear H
      have p5 : 0 ≤ (x5_1 : Int) := of_decide_eq_true z67_
      have q5 : x5_1 < (a0.size : Int) := of_decide_eq_true z67_
      have hx5 := bt_at a0 x5_1
      replace p5 := eq_true p5
      replace q5 := eq_true q5
      go_wp2_with (first | ((with_reducible refine gate_callee (f := 92) rfl ?_); refine goesL_ (some 16) rfl rfl Tryz.func92 (by kernel_rfl) rfl #[.int .u8 (bt a0 x5_1), .int .i64 a1] rfl z44_ ?_; (with_reducible refine (pursuivantref06_bad.calls k1 (bt a0 x5_1) a1 false _ ?gw49_ A6.out).mono ?_); (case gw49_ => exact z16_); rintro e w' ⟨rfl, ⟨nd, rfl⟩⟩; refine ⟨_, rfl, ?_⟩))
      go_roundg k1
      case measure => have := HK1.out; omega
      case rel => exact ⟨(wrap64 (x5_1 + 1)), z64_, H', ⟨z70_⟩, z65_⟩
    ·rw [if_neg c4] at H
     exact absurd H (by simp)
   ·rw [if_neg c3] at H
    have c3b0 : decide (x5_1 < (a0.size : Int)) = false := decide_eq_false c3; clear c3
    obtain rfl := Option.some.inj H
    go_wp2
    go_ret
    exact ⟨z64_, z65_⟩

def pursuivantref06_Digits.f : Nat → Int → Option (ByteArray)
 | 0, _ => none
 | k + 1, a0 => if a0 < 10 then (some (strOfNums (([(wrap64 (48 + a0)) % 256] : List Int)))) else ((pursuivantref06_Digits.f k (wrap64 (Int.tdiv a0 10))).bind fun t143 => ((some (([(wrap64 (48 + (Int.tmod a0 10))) % 256] : List Int) : List Int)).bind fun y144 => (if t143.size + (strOfNums y144).size ≤ 9223372036854775807 then (some (t143 ++ (strOfNums y144))) else (none))))
theorem pursuivantref06_Digits.mono_l : ∀ k, (∀ y0, LeO (pursuivantref06_Digits.f k y0) (pursuivantref06_Digits.f (k + 1) y0))
 | 0 => fun _ r h => by simp [pursuivantref06_Digits.f] at h
 | k + 1 => by
  have ih0 := pursuivantref06_Digits.mono_l k
  ·intro y0
   unfold pursuivantref06_Digits.f
   repeat' first
   | (with_reducible exact ih0 _)
   | (with_reducible exact LeO.refl _)
   | (with_reducible exact LeO.none _)
   | (with_reducible refine LeO.ite ?_ ?_)
   | (with_reducible refine LeO.bind ?_ (fun _ => ?_))
   | exact ih0 _
   | exact LeO.none _
   | refine LeO.ite ?_ ?_
   | refine LeO.bind ?_ (fun _ => ?_)
theorem pursuivantref06_Digits.mono : ∀ a0 k, LeO (pursuivantref06_Digits.f k a0) (pursuivantref06_Digits.f (k + 1) a0) := by
 intro a0 k
 have ih0 := pursuivantref06_Digits.mono_l k
 exact ih0 a0
def pursuivantref06_Digits.T3 : Bool × List (List Nat × List Nat) := (true, [([], []), ([0], [0]), ([1], [1]), ([], []), ([3], [3]), ([4], [4]), ([5], [5]), ([6], [6]), ([7], [7]), ([2, 8], [2, 8]), ([9, 2, 0, 1, 2, 3, 4, 5, 6, 7, 8, 9], [9])])
def pursuivantref06_Digits.B3 : List Nat := [0, 1, 3, 0, 8, 24, 56, 120, 248, 511, 1023]
theorem pursuivantref06_Digits.tab3 : rtab .any (opsOf Tryz.f93 3) = pursuivantref06_Digits.T3 := by kernel_rfl
theorem pursuivantref06_Digits.bits3 : waitsOk pursuivantref06_Digits.T3.2 pursuivantref06_Digits.B3 = true := by kernel_rfl
set_option maxHeartbeats 8000000 in
set_option maxRecDepth 100000 in
theorem pursuivantref06_Digits.calls (k : Nat) : ∀ (a0 : Int) (r : ByteArray) (w : World) (hG_ : GW w) (h : pursuivantref06_Digits.f k a0 = some r),
  Calls Tryz.prog 93 #[.int .i64 a0] w fun e w' => e = .returned (.string r) ∧ Below w.heap.size w w' := by
 induction k using Nat.strongRecOn with
 | _ k ih =>
 intro a0 r w hG_ h
 cases k with
 | zero => exact absurd h (by simp [pursuivantref06_Digits.f])
 | succ k =>
 simp only [pursuivantref06_Digits.f] at h
 have HB := Aside0.mk (Below.refl w.heap.size w)
 have H : (if a0 < 10 then (some (strOfNums (([(wrap64 (48 + a0)) % 256] : List Int)))) else ((pursuivantref06_Digits.f k (wrap64 (Int.tdiv a0 10))).bind fun t143 => ((some (([(wrap64 (48 + (Int.tmod a0 10))) % 256] : List Int) : List Int)).bind fun y144 => (if t143.size + (strOfNums y144).size ≤ 9223372036854775807 then (some (t143 ++ (strOfNums y144))) else (none))))) = some r := h
 clear h
 by_cases c2 : a0 < 10
 ·rw [if_pos c2] at H
  have c2b0 : decide (a0 < 10) = true := decide_eq_true c2; clear c2
  obtain ⟨y140, hy140⟩ : ∃ y_ : List Int, y_ = (([(wrap64 (48 + a0)) % 256] : List Int)) := ⟨_, rfl⟩
  replace H : (some (strOfNums y140)) = some r := by first | (rw [hy140]; with_reducible exact H) | (have H2_ := (Option.bind_some _ _).symm.trans H; rw [hy140]; with_reducible exact H2_) | (have H2_ := (Option.bind_some _ _).symm.trans H; with_reducible exact H2_) | with_reducible exact H | (rw [hy140]; exact H) | exact H
  have Ny140 := Aside0.mk hy140; clear hy140
  obtain rfl := Option.some.inj H
  go_enter Tryz.func93, Tryz.ntmps93
  go_wp2_with (first | ((with_reducible refine gate_dst (N := 8) rfl ?_); refine Kd.R_lit (Kd.int .u8) _ 5 ?hg (N := 8) ?hd (xs := ([(wrap64 (48 + a0)) % 256] : List Int)) (inner := [.int .u8 ((wrap64 (48 + a0)) % 256)]) (ok := fun _ => True) (okp := fun _ => True) ?hr ?hp (fun _ hk => hk) trivial (Below.refl _ _) (Nat.le_refl _) (by simp) ?_; (case hd => rfl); (case hg => rfl); (case hr => first | (go_simp; done) | (go_simp; rfl)); (case hp => exact (Reps.one (show Kd.M (Kd.int .u8) _ _ _ ((wrap64 (48 + a0)) % 256) [.int .u8 ((wrap64 (48 + a0)) % 256)] from rfl) (Reps.none _ _))); intro v141 w3 ho4 hb hg_ hnew_; clear hg_ hnew_; (first | rw [← Ny140.out] at ho4 | (simp only [Int.reduceToNat] at ho4; rw [← Ny140.out] at ho4)); have n0_ := Aside0.mk (Kd.R_lower ho4 (below_size z45_)); have n1_ := Aside0.mk (below_step z45_ hb); clear HB; have HO142 := n0_; have HB := n1_; clear n0_ n1_; clear hb ho4; have hcv5 := own_string (P := Tryz.prog) Tryz.underlying93 Tryz.underlying5 Tryz.underlying9 (Kd.own_of_R HO142.out)))
  go_ret
  exact ⟨z46_, z45_⟩
 ·rw [if_neg c2] at H
  have c2b0 : decide (a0 < 10) = false := decide_eq_false c2; clear c2
  replace H := Option.bind_eq_some_iff.mp H
  obtain ⟨t143, A60, H⟩ := H
  replace H : ((some (([(wrap64 (48 + (Int.tmod a0 10))) % 256] : List Int) : List Int)).bind fun y144 => (if t143.size + (strOfNums y144).size ≤ 9223372036854775807 then (some (t143 ++ (strOfNums y144))) else (none))) = some r := H
  have A6 := Aside0.mk A60; clear A60
  obtain ⟨y144, hy144⟩ : ∃ y_ : List Int, y_ = (([(wrap64 (48 + (Int.tmod a0 10))) % 256] : List Int)) := ⟨_, rfl⟩
  replace H : (if t143.size + (strOfNums y144).size ≤ 9223372036854775807 then (some (t143 ++ (strOfNums y144))) else (none)) = some r := by first | (rw [hy144]; with_reducible exact H) | (have H2_ := (Option.bind_some _ _).symm.trans H; rw [hy144]; with_reducible exact H2_) | (have H2_ := (Option.bind_some _ _).symm.trans H; with_reducible exact H2_) | with_reducible exact H | (rw [hy144]; exact H) | exact H
  have Ny144 := Aside0.mk hy144; clear hy144
  by_cases c7 : t143.size + (strOfNums y144).size ≤ 9223372036854775807
  ·rw [if_pos c7] at H
   have c7b0 := eq_true c7; have c7b1 : decide (t143.size + (strOfNums y144).size ≤ 9223372036854775807) = true := decide_eq_true c7
   try have c7b2 : (9223372036854775807 < t143.size + (strOfNums y144).size) = False := eq_false (Nat.not_lt.2 c7)
   obtain rfl := Option.some.inj H
   go_enter Tryz.func93, Tryz.ntmps93
   try go_wp2
   have n0_ := Aside0.mk (below_drew1 HB.out)
   clear HB
   have HB := n0_
   clear n0_
   refine start_ (n := 11) (S := fun w' => True) (ds := []) #[false, false, false, false, false, false, false, false, false, false, false] (by kernel_rfl) rfl rfl trivial (fun hHeld => ?_); refine with_tabW pursuivantref06_Digits.tab3 pursuivantref06_Digits.bits3 (fun HT_ HW_ => ?_)
   generalize w.drew = w8 at HB hHeld ⊢
   refine pure_ (i := 0) (N := some 10) (v := ?_) (a' := ?_) #[true, false, false, false, false, false, false, false, false, false, false] rfl rfl (any_of HT_.out (by kernel_rfl)) (fun _ _ _ h => h) (Or.inl ⟨by rfl, ?_⟩) ?_ ?_
   rotate_left
   ·intro w'
    go_simp
    with_reducible rfl
   rotate_left
   ·simp only [Act.put, List.setIfInBounds_toArray, List.set_cons_zero, List.set_cons_succ, i64_w, i32_w]
    rfl
   refine pure_ (i := 1) (N := some 11) (v := ?_) (a' := ?_) #[true, true, false, false, false, false, false, false, false, false, false] rfl rfl (any_of HT_.out (by kernel_rfl)) (fun _ _ _ h => h) (Or.inl ⟨by rfl, ?_⟩) ?_ ?_
   rotate_left
   ·intro w'
    go_simp
    with_reducible rfl
   rotate_left
   ·simp only [Act.put, List.setIfInBounds_toArray, List.set_cons_zero, List.set_cons_succ, i64_w, i32_w]
    rfl
   refine pure_ (i := 3) (N := some 13) (v := ?_) (a' := ?_) #[true, true, false, true, false, false, false, false, false, false, false] rfl rfl (any_of HT_.out (by kernel_rfl)) (fun _ _ _ h => h) (Or.inl ⟨by rfl, ?_⟩) ?_ ?_
   rotate_left
   ·intro w'
    go_simp
    with_reducible rfl
   rotate_left
   ·simp only [Act.put, List.setIfInBounds_toArray, List.set_cons_zero, List.set_cons_succ, i64_w, i32_w]
    rfl
   refine pure_ (i := 4) (N := some 14) (v := ?_) (a' := ?_) #[true, true, false, true, true, false, false, false, false, false, false] rfl rfl (any_of HT_.out (by kernel_rfl)) (fun _ _ _ h => h) (Or.inl ⟨by rfl, ?_⟩) ?_ ?_
   rotate_left
   ·intro w'
    go_simp
    with_reducible rfl
   rotate_left
   ·simp only [Act.put, List.setIfInBounds_toArray, List.set_cons_zero, List.set_cons_succ, i64_w, i32_w]
    rfl
   refine pure_ (i := 5) (N := some 15) (v := ?_) (a' := ?_) #[true, true, false, true, true, true, false, false, false, false, false] rfl rfl (any_of HT_.out (by kernel_rfl)) (fun _ _ _ h => h) (Or.inl ⟨by rfl, ?_⟩) ?_ ?_
   rotate_left
   ·intro w'
    go_simp
    with_reducible rfl
   rotate_left
   ·simp only [Act.put, List.setIfInBounds_toArray, List.set_cons_zero, List.set_cons_succ, i64_w, i32_w]
    rfl
   refine pure_ (i := 6) (N := some 16) (v := ?_) (a' := ?_) #[true, true, false, true, true, true, true, false, false, false, false] rfl rfl (any_of HT_.out (by kernel_rfl)) (fun _ _ _ h => h) (Or.inl ⟨by rfl, ?_⟩) ?_ ?_
   rotate_left
   ·intro w'
    go_simp
    with_reducible rfl
   rotate_left
   ·simp only [Act.put, List.setIfInBounds_toArray, List.set_cons_zero, List.set_cons_succ, i64_w, i32_w]
    rfl
   refine join_ (σ := Value) 2 #[true, true, true, true, true, true, true, true, true, false, false] (fun s_ => [(12, .string t143), (17, s_), (18, .string (strOfNums y144))]) (fun s_ w' => (Kd.R (Kd.int .u8) 5 w' w.heap.size (fun _ => True) s_ y144) ∧ (Below w.heap.size w w')) ?_ ?_
   rotate_left
   ·intro hCont
    refine two_ (i := 2) (j := 7) (Ni := some 12) (Nj := some 17) #[true, true, true, true, true, true, true, false, false, false, false] #[true, true, false, true, true, true, true, true, false, false, false] rfl rfl rfl rfl (two_of HT_.out (by kernel_rfl)) (by decide) (by decide) (fun K hK => ?_) (fun K hK => ?_)
    ·skip
     refine goes_ Tryz.func93 (by kernel_rfl) rfl #[.int .i64 (wrap64 (Int.tdiv a0 10))] (by rfl) rfl rfl z44_ ?_
     with_reducible refine (ih k (by omega) (wrap64 (Int.tdiv a0 10)) t143 _ ?gw51_ A6.out).mono ?_
     case gw51_ => exact z16_
     rintro e w9 ⟨rfl, hb⟩
     refine ⟨_, rfl, ?_⟩
     have n0_ := Aside0.mk (below_step z45_ hb)
     clear HB
     have HB := n0_
     clear n0_
     (try clear hb)
     (try clear hb2)
     (try clear hk)
     (try clear hi)
     refine hK.out _ _ trivial (fun hHeld => ?_)
     clear hK K
     refine norm_ (a' := ?_) ?_ ?_
     rotate_left
     ·show Act.put _ (some 12) _ = _
      simp only [Act.put, List.setIfInBounds_toArray, List.set_cons_zero, List.set_cons_succ, i64_w, i32_w]
      rfl
     refine one_ (i := 7) (N := some 17) #[true, true, true, true, true, true, true, true, false, false, false] rfl rfl (one_of HT_.out (by kernel_rfl)) (by decide) (fun K hK => ?_)
     refine Kd.R_lit_step (Kd.int .u8) _ 5 ?hg (N := 17) ?hd (xs := ([(wrap64 (48 + (Int.tmod a0 10))) % 256] : List Int)) (inner := [.int .u8 ((wrap64 (48 + (Int.tmod a0 10))) % 256)]) (ok := fun _ => True) (okp := fun _ => True) ?hr ?hp (fun _ hk => hk) trivial (Below.refl _ _) (Nat.le_refl _) (by simp) ?_; (case hd => rfl); (case hg => rfl); (case hr => first | (go_simp; done) | (go_simp; rfl)); (case hp => exact (Reps.one (show Kd.M (Kd.int .u8) _ _ _ ((wrap64 (48 + (Int.tmod a0 10))) % 256) [.int .u8 ((wrap64 (48 + (Int.tmod a0 10))) % 256)] from rfl) (Reps.none _ _)))
     intro v145 w10 ho11 hb hg_ hnew_
     clear hg_ hnew_
     (first | rw [← Ny144.out] at ho11 | (simp only [Int.reduceToNat] at ho11; rw [← Ny144.out] at ho11))
     have n0_ := Aside0.mk (Kd.R_lower ho11 (below_size z45_))
     have n1_ := Aside0.mk (below_step z45_ hb)
     clear HB
     have HO146 := n0_
     have HB := n1_
     clear n0_ n1_; clear hb ho11
     refine hK.out _ _ trivial (fun hHeld => ?_)
     clear hK K
     refine norm_ (a' := ?_) ?_ ?_
     rotate_left
     ·show Act.put _ (some 17) _ = _
      simp only [Act.put, List.setIfInBounds_toArray, List.set_cons_zero, List.set_cons_succ, i64_w, i32_w]
      rfl
     refine one_ (i := 8) (N := some 18) #[true, true, true, true, true, true, true, true, true, false, false] rfl rfl (one_of HT_.out (by kernel_rfl)) (by decide) (fun K hK => ?_)
     have hcv12 := own_string (P := Tryz.prog) Tryz.underlying93 Tryz.underlying5 Tryz.underlying9 (Kd.own_of_R HO146.out)
     refine value_ (w1 := ?_) (v := ?_) (by rfl) rfl ?_ ?_
     rotate_left 2
     ·go_simp
      constructor
      ·rfl
      ·rfl
     clear hcv12
     refine hK.out _ _ trivial (fun hHeld => ?_)
     clear hK K
     refine norm_ (a' := ?_) ?_ ?_
     rotate_left
     ·show Act.put _ (some 18) _ = _
      simp only [Act.put, List.setIfInBounds_toArray, List.set_cons_zero, List.set_cons_succ, i64_w, i32_w]
      rfl
     exact norm_ z63_ (hCont (v145) _ ⟨z62_, z45_⟩)
    ·skip
     refine Kd.R_lit_step (Kd.int .u8) _ 5 ?hg (N := 17) ?hd (xs := ([(wrap64 (48 + (Int.tmod a0 10))) % 256] : List Int)) (inner := [.int .u8 ((wrap64 (48 + (Int.tmod a0 10))) % 256)]) (ok := fun _ => True) (okp := fun _ => True) ?hr ?hp (fun _ hk => hk) trivial (Below.refl _ _) (Nat.le_refl _) (by simp) ?_; (case hd => rfl); (case hg => rfl); (case hr => first | (go_simp; done) | (go_simp; rfl)); (case hp => exact (Reps.one (show Kd.M (Kd.int .u8) _ _ _ ((wrap64 (48 + (Int.tmod a0 10))) % 256) [.int .u8 ((wrap64 (48 + (Int.tmod a0 10))) % 256)] from rfl) (Reps.none _ _)))
     intro v145 w9 ho10 hb hg_ hnew_
     clear hg_ hnew_
     (first | rw [← Ny144.out] at ho10 | (simp only [Int.reduceToNat] at ho10; rw [← Ny144.out] at ho10))
     have n0_ := Aside0.mk (Kd.R_lower ho10 (below_size z45_))
     have n1_ := Aside0.mk (below_step z45_ hb)
     clear HB
     have HO146 := n0_
     have HB := n1_
     clear n0_ n1_; clear hb ho10
     refine hK.out _ _ trivial (fun hHeld => ?_)
     clear hK K
     refine norm_ (a' := ?_) ?_ ?_
     rotate_left
     ·show Act.put _ (some 17) _ = _
      simp only [Act.put, List.setIfInBounds_toArray, List.set_cons_zero, List.set_cons_succ, i64_w, i32_w]
      rfl
     refine two_ (i := 2) (j := 8) (Ni := some 12) (Nj := some 18) #[true, true, true, true, true, true, true, true, false, false, false] #[true, true, false, true, true, true, true, true, true, false, false] rfl rfl rfl rfl (two_of HT_.out (by kernel_rfl)) (by decide) (by decide) (fun K hK => ?_) (fun K hK => ?_)
     ·skip
      refine goes_ Tryz.func93 (by kernel_rfl) rfl #[.int .i64 (wrap64 (Int.tdiv a0 10))] (by rfl) rfl rfl z44_ ?_
      with_reducible refine (ih k (by omega) (wrap64 (Int.tdiv a0 10)) t143 _ ?gw52_ A6.out).mono ?_
      case gw52_ => exact z16_
      rintro e w11 ⟨rfl, hb⟩
      refine ⟨_, rfl, ?_⟩
      have n0_ := Aside0.mk (Kd.R_below z62_ hb)
      have n1_ := Aside0.mk (below_step z45_ hb)
      clear HO146; clear HB
      have HO146 := n0_
      have HB := n1_
      clear n0_ n1_
      (try clear hb)
      (try clear hb2)
      (try clear hk)
      (try clear hi)
      refine hK.out _ _ trivial (fun hHeld => ?_)
      clear hK K
      refine norm_ (a' := ?_) ?_ ?_
      rotate_left
      ·show Act.put _ (some 12) _ = _
       simp only [Act.put, List.setIfInBounds_toArray, List.set_cons_zero, List.set_cons_succ, i64_w, i32_w]
       rfl
      refine one_ (i := 8) (N := some 18) #[true, true, true, true, true, true, true, true, true, false, false] rfl rfl (one_of HT_.out (by kernel_rfl)) (by decide) (fun K hK => ?_)
      have hcv12 := own_string (P := Tryz.prog) Tryz.underlying93 Tryz.underlying5 Tryz.underlying9 (Kd.own_of_R HO146.out)
      refine value_ (w1 := ?_) (v := ?_) (by rfl) rfl ?_ ?_
      rotate_left 2
      ·go_simp
       constructor
       ·rfl
       ·rfl
      clear hcv12
      refine hK.out _ _ trivial (fun hHeld => ?_)
      clear hK K
      refine norm_ (a' := ?_) ?_ ?_
      rotate_left
      ·show Act.put _ (some 18) _ = _
       simp only [Act.put, List.setIfInBounds_toArray, List.set_cons_zero, List.set_cons_succ, i64_w, i32_w]
       rfl
      exact norm_ z63_ (hCont (v145) _ ⟨z62_, z45_⟩)
     ·skip
      have hcv11 := own_string (P := Tryz.prog) Tryz.underlying93 Tryz.underlying5 Tryz.underlying9 (Kd.own_of_R HO146.out)
      refine value_ (w1 := ?_) (v := ?_) (by rfl) rfl ?_ ?_
      rotate_left 2
      ·go_simp
       constructor
       ·rfl
       ·rfl
      clear hcv11
      refine hK.out _ _ trivial (fun hHeld => ?_)
      clear hK K
      refine norm_ (a' := ?_) ?_ ?_
      rotate_left
      ·show Act.put _ (some 18) _ = _
       simp only [Act.put, List.setIfInBounds_toArray, List.set_cons_zero, List.set_cons_succ, i64_w, i32_w]
       rfl
      refine one_ (i := 2) (N := some 12) #[true, true, true, true, true, true, true, true, true, false, false] rfl rfl (one_of HT_.out (by kernel_rfl)) (by decide) (fun K hK => ?_)
      refine goes_ Tryz.func93 (by kernel_rfl) rfl #[.int .i64 (wrap64 (Int.tdiv a0 10))] (by rfl) rfl rfl z44_ ?_
      with_reducible refine (ih k (by omega) (wrap64 (Int.tdiv a0 10)) t143 _ ?gw53_ A6.out).mono ?_
      case gw53_ => exact z16_
      rintro e w12 ⟨rfl, hb⟩
      refine ⟨_, rfl, ?_⟩
      have n0_ := Aside0.mk (Kd.R_below z62_ hb)
      have n1_ := Aside0.mk (below_step z45_ hb)
      clear HO146; clear HB
      have HO146 := n0_
      have HB := n1_
      clear n0_ n1_
      (try clear hb)
      (try clear hb2)
      (try clear hk)
      (try clear hi)
      refine hK.out _ _ trivial (fun hHeld => ?_)
      clear hK K
      refine norm_ (a' := ?_) ?_ ?_
      rotate_left
      ·show Act.put _ (some 12) _ = _
       simp only [Act.put, List.setIfInBounds_toArray, List.set_cons_zero, List.set_cons_succ, i64_w, i32_w]
       rfl
      exact norm_ z63_ (hCont (v145) _ ⟨z62_, z45_⟩)
   rintro v145 w13 ⟨h0_, h1_⟩
   have n0_ : Aside0 (Kd.R (Kd.int .u8) 5 w13 w.heap.size (fun _ => True) v145 y144) := ⟨h0_⟩
   have n1_ : Aside0 (Below w.heap.size w w13) := ⟨h1_⟩
   clear HB; clear h0_ h1_
   have HO146 := n0_
   have HB := n1_
   clear n0_ n1_
   have hHeld := trivial
   refine norm_ (a' := ?_) ?_ ?_
   rotate_left
   ·simp only [putAll, Act.put, List.setIfInBounds_toArray, List.set_cons_zero, List.set_cons_succ]
    rfl
   refine pure_ (i := 9) (N := some 19) (v := ?_) (a' := ?_) #[true, true, true, true, true, true, true, true, true, true, false] rfl rfl (any_of HT_.out (by kernel_rfl)) (fun _ _ _ h => h) (Or.inl ⟨by rfl, ?_⟩) ?_ ?_
   rotate_left
   ·intro w'
    go_simp
    with_reducible rfl
   rotate_left
   ·simp only [Act.put, List.setIfInBounds_toArray, List.set_cons_zero, List.set_cons_succ, i64_w, i32_w]
    rfl
   refine pure_ (i := 10) (N := some 2) (v := ?_) (a' := ?_) #[true, true, true, true, true, true, true, true, true, true, true] rfl rfl (any_of HT_.out (by kernel_rfl)) (fun _ _ _ h => h) (Or.inl ⟨by rfl, ?_⟩) ?_ ?_
   rotate_left
   ·intro w'
    go_simp
    with_reducible rfl
   rotate_left
   ·simp only [Act.put, List.setIfInBounds_toArray, List.set_cons_zero, List.set_cons_succ, i64_w, i32_w]
    rfl
   refine done_ (done_of HT_.out (by kernel_rfl)) ?_
   try go_wp2
   go_ret
   exact ⟨z46_, z45_⟩
  ·rw [if_neg c7] at H
   exact absurd H (by simp)

mutual
def pursuivantref06_whole.j0 : Nat → ByteArray → ByteArray → ByteArray → ByteArray → Int → ByteArray → Bool → ByteArray → Bool → ByteArray → Option (ByteArray)
 | 0, _, _, _, _, _, _, _, _, _, _ => none
 | k + 1, x3, x148000, x148001, x148002, x148003, x148004, x148005, x148006, x148007, x148008 => if x3.size + x148002.size ≤ 9223372036854775807 then (if x148003 > 0 then ((pursuivantref06_Digits.f k x148003).bind fun t148 => (if 1 + t148.size ≤ 9223372036854775807 then (if (x3 ++ x148002).size + ((⟨#[58]⟩ : ByteArray) ++ t148).size ≤ 9223372036854775807 then (pursuivantref06_whole.j1 k ((x3 ++ x148002) ++ ((⟨#[58]⟩ : ByteArray) ++ t148)) x148000 x148001 x148002 x148003 x148004 x148005 x148006 x148007 x148008) else (none)) else (none))) else (pursuivantref06_whole.j1 k (x3 ++ x148002) x148000 x148001 x148002 x148003 x148004 x148005 x148006 x148007 x148008)) else (none)
def pursuivantref06_whole.j1 : Nat → ByteArray → ByteArray → ByteArray → ByteArray → Int → ByteArray → Bool → ByteArray → Bool → ByteArray → Option (ByteArray)
 | 0, _, _, _, _, _, _, _, _, _, _ => none
 | k + 1, x3, x148000, x148001, x148002, x148003, x148004, x148005, x148006, x148007, x148008 => if x3.size + x148004.size ≤ 9223372036854775807 then (if x148005 = true then (if 1 + x148006.size ≤ 9223372036854775807 then (if (x3 ++ x148004).size + ((⟨#[63]⟩ : ByteArray) ++ x148006).size ≤ 9223372036854775807 then (if x148007 = true then (if 1 + x148008.size ≤ 9223372036854775807 then (if ((x3 ++ x148004) ++ ((⟨#[63]⟩ : ByteArray) ++ x148006)).size + ((⟨#[35]⟩ : ByteArray) ++ x148008).size ≤ 9223372036854775807 then (some (((x3 ++ x148004) ++ ((⟨#[63]⟩ : ByteArray) ++ x148006)) ++ ((⟨#[35]⟩ : ByteArray) ++ x148008))) else (none)) else (none)) else (some ((x3 ++ x148004) ++ ((⟨#[63]⟩ : ByteArray) ++ x148006)))) else (none)) else (none)) else (if x148007 = true then (if 1 + x148008.size ≤ 9223372036854775807 then (if (x3 ++ x148004).size + ((⟨#[35]⟩ : ByteArray) ++ x148008).size ≤ 9223372036854775807 then (some ((x3 ++ x148004) ++ ((⟨#[35]⟩ : ByteArray) ++ x148008))) else (none)) else (none)) else (some (x3 ++ x148004)))) else (none)
end
def pursuivantref06_whole.f (k : Nat) (a0_0 a0_1 a0_2 : ByteArray) (a0_3 : Int) (a0_4 : ByteArray) (a0_5 : Bool) (a0_6 : ByteArray) (a0_7 : Bool) (a0_8 : ByteArray) : Option (ByteArray) := if a0_0.size + 3 ≤ 9223372036854775807 then (if a0_1.toList = ([] : List UInt8) then (pursuivantref06_whole.j0 k (a0_0 ++ (⟨#[58, 47, 47]⟩ : ByteArray)) a0_0 a0_1 a0_2 a0_3 a0_4 a0_5 a0_6 a0_7 a0_8) else (if a0_1.size + 1 ≤ 9223372036854775807 then (if (a0_0 ++ (⟨#[58, 47, 47]⟩ : ByteArray)).size + (a0_1 ++ (⟨#[64]⟩ : ByteArray)).size ≤ 9223372036854775807 then (pursuivantref06_whole.j0 k ((a0_0 ++ (⟨#[58, 47, 47]⟩ : ByteArray)) ++ (a0_1 ++ (⟨#[64]⟩ : ByteArray))) a0_0 a0_1 a0_2 a0_3 a0_4 a0_5 a0_6 a0_7 a0_8) else (none)) else (none))) else (none)
theorem pursuivantref06_whole.mono_l : ∀ k, (∀ y0 y1 y2 y3 y4 y5 y6 y7 y8 y9, LeO (pursuivantref06_whole.j0 k y0 y1 y2 y3 y4 y5 y6 y7 y8 y9) (pursuivantref06_whole.j0 (k + 1) y0 y1 y2 y3 y4 y5 y6 y7 y8 y9)) ∧ (∀ y0 y1 y2 y3 y4 y5 y6 y7 y8 y9, LeO (pursuivantref06_whole.j1 k y0 y1 y2 y3 y4 y5 y6 y7 y8 y9) (pursuivantref06_whole.j1 (k + 1) y0 y1 y2 y3 y4 y5 y6 y7 y8 y9))
 | 0 => ⟨fun _ _ _ _ _ _ _ _ _ _ r h => by simp [pursuivantref06_whole.j0] at h, fun _ _ _ _ _ _ _ _ _ _ r h => by simp [pursuivantref06_whole.j1] at h⟩
 | k + 1 => by
  obtain ⟨ih0, ih1⟩ := pursuivantref06_whole.mono_l k
  refine ⟨?_, ?_⟩
  ·intro y0 y1 y2 y3 y4 y5 y6 y7 y8 y9
   unfold pursuivantref06_whole.j0
   repeat' first
   | (with_reducible exact ih0 _ _ _ _ _ _ _ _ _ _)
   | (with_reducible exact ih1 _ _ _ _ _ _ _ _ _ _)
   | (with_reducible exact pursuivantref06_Digits.mono _ _)
   | (with_reducible exact LeO.refl _)
   | (with_reducible exact LeO.none _)
   | (with_reducible refine LeO.ite ?_ ?_)
   | (with_reducible refine LeO.bind ?_ (fun _ => ?_))
   | exact ih0 _ _ _ _ _ _ _ _ _ _
   | exact ih1 _ _ _ _ _ _ _ _ _ _
   | exact pursuivantref06_Digits.mono _ _
   | exact LeO.none _
   | refine LeO.ite ?_ ?_
   | refine LeO.bind ?_ (fun _ => ?_)
  ·intro y0 y1 y2 y3 y4 y5 y6 y7 y8 y9
   unfold pursuivantref06_whole.j1
   repeat' first
   | (with_reducible exact ih0 _ _ _ _ _ _ _ _ _ _)
   | (with_reducible exact ih1 _ _ _ _ _ _ _ _ _ _)
   | (with_reducible exact pursuivantref06_Digits.mono _ _)
   | (with_reducible exact LeO.refl _)
   | (with_reducible exact LeO.none _)
   | (with_reducible refine LeO.ite ?_ ?_)
   | (with_reducible refine LeO.bind ?_ (fun _ => ?_))
   | exact ih0 _ _ _ _ _ _ _ _ _ _
   | exact ih1 _ _ _ _ _ _ _ _ _ _
   | exact pursuivantref06_Digits.mono _ _
   | exact LeO.none _
   | refine LeO.ite ?_ ?_
   | refine LeO.bind ?_ (fun _ => ?_)
theorem pursuivantref06_whole.mono : ∀ a0 a1 a2 a3 a4 a5 a6 a7 a8 k, LeO (pursuivantref06_whole.f k a0 a1 a2 a3 a4 a5 a6 a7 a8) (pursuivantref06_whole.f (k + 1) a0 a1 a2 a3 a4 a5 a6 a7 a8) := by
 intro a0 a1 a2 a3 a4 a5 a6 a7 a8 k
 obtain ⟨ih0, ih1⟩ := pursuivantref06_whole.mono_l k
 unfold pursuivantref06_whole.f
 repeat' first
   | (with_reducible exact ih0 _ _ _ _ _ _ _ _ _ _)
   | (with_reducible exact ih1 _ _ _ _ _ _ _ _ _ _)
   | (with_reducible exact pursuivantref06_Digits.mono _ _)
   | (with_reducible exact LeO.refl _)
   | (with_reducible exact LeO.none _)
   | (with_reducible refine LeO.ite ?_ ?_)
   | (with_reducible refine LeO.bind ?_ (fun _ => ?_))
   | exact ih0 _ _ _ _ _ _ _ _ _ _
   | exact ih1 _ _ _ _ _ _ _ _ _ _
   | exact pursuivantref06_Digits.mono _ _
   | exact LeO.none _
   | refine LeO.ite ?_ ?_
   | refine LeO.bind ?_ (fun _ => ?_)
set_option maxHeartbeats 8000000 in
set_option maxRecDepth 100000 in
theorem pursuivantref06_whole.calls (k : Nat) (a0_0 a0_1 a0_2 : ByteArray) (a0_3 : Int) (a0_4 : ByteArray) (a0_5 : Bool) (a0_6 : ByteArray) (a0_7 : Bool) (a0_8 r : ByteArray) (w : World) (hG_ : GW w) (h : pursuivantref06_whole.f k a0_0 a0_1 a0_2 a0_3 a0_4 a0_5 a0_6 a0_7 a0_8 = some r) :
  Calls Tryz.prog 48 #[.agg #[.string a0_0, .string a0_1, .string a0_2, .int .i64 a0_3, .string a0_4, .bool a0_5, .string a0_6, .bool a0_7, .string a0_8]] w fun e w' => e = .returned (.string r) ∧ Below w.heap.size w w' := by
 have hu30 := Tryz.underlying30
 have HB := Aside0.mk (Below.refl w.heap.size w)
 have H : (if a0_0.size + 3 ≤ 9223372036854775807 then (if a0_1.toList = ([] : List UInt8) then (pursuivantref06_whole.j0 k (a0_0 ++ (⟨#[58, 47, 47]⟩ : ByteArray)) a0_0 a0_1 a0_2 a0_3 a0_4 a0_5 a0_6 a0_7 a0_8) else (if a0_1.size + 1 ≤ 9223372036854775807 then (if (a0_0 ++ (⟨#[58, 47, 47]⟩ : ByteArray)).size + (a0_1 ++ (⟨#[64]⟩ : ByteArray)).size ≤ 9223372036854775807 then (pursuivantref06_whole.j0 k ((a0_0 ++ (⟨#[58, 47, 47]⟩ : ByteArray)) ++ (a0_1 ++ (⟨#[64]⟩ : ByteArray))) a0_0 a0_1 a0_2 a0_3 a0_4 a0_5 a0_6 a0_7 a0_8) else (none)) else (none))) else (none)) = some r := h
 clear h
 by_cases c2 : a0_0.size + 3 ≤ 9223372036854775807
 ·rw [if_pos c2] at H
  have c2b0 := eq_true c2; have c2b1 : decide (a0_0.size + 3 ≤ 9223372036854775807) = true := decide_eq_true c2
  try have c2b2 : (9223372036854775807 < a0_0.size + 3) = False := eq_false (Nat.not_lt.2 c2)
  have HC3 := Aside0.mk H; clear H
  go_enter Tryz.func48, Tryz.ntmps48
  go_upto_if 9 with (first | ((with_reducible refine gate_dst (N := 1) rfl ?_); refine box_event ?hg (N := 1) ?hd (cs := #[.string a0_0, .string a0_1, .string a0_2, .int .i64 a0_3, .string a0_4, .bool a0_5, .string a0_6, .bool a0_7, .string a0_8]) (t := 30) ?hr ?_; (case hd => rfl); (case hg => rfl); (case hr => first | (go_simp; done) | (go_simp; rfl)); intro gb147 hg w4 hbox hb; have n0_ := Aside0.mk (below_step z45_ hb); have n1_ := Aside0.mk (hbox); have n2_ := Aside0.mk ((by rw [hg]; exact (below_size z45_) : w.heap.size ≤ gb147)); have n3_ := Aside0.mk ((by rw [hg]; exact (below_size z45_) : w.heap.size ≤ gb147)); clear HB; have HB := n0_; have BK147 := n1_; have GW147 := n2_; have GE147 := n3_; clear n0_ n1_ n2_ n3_; clear hb hbox hg; have hcz5_0 : w4.cell? ⟨gb147, 0, none⟩ = some (.string a0_0) := (blk_cell BK147.out 0).trans rfl; have hcz5_1 : w4.cell? ⟨gb147, 1, none⟩ = some (.string a0_1) := (blk_cell BK147.out 1).trans rfl; have hcz5_2 : w4.cell? ⟨gb147, 2, none⟩ = some (.string a0_2) := (blk_cell BK147.out 2).trans rfl; have hcz5_3 : w4.cell? ⟨gb147, 3, none⟩ = some (.int .i64 a0_3) := (blk_cell BK147.out 3).trans rfl; have hcz5_4 : w4.cell? ⟨gb147, 4, none⟩ = some (.string a0_4) := (blk_cell BK147.out 4).trans rfl; have hcz5_5 : w4.cell? ⟨gb147, 5, none⟩ = some (.bool a0_5) := (blk_cell BK147.out 5).trans rfl; have hcz5_6 : w4.cell? ⟨gb147, 6, none⟩ = some (.string a0_6) := (blk_cell BK147.out 6).trans rfl; have hcz5_7 : w4.cell? ⟨gb147, 7, none⟩ = some (.bool a0_7) := (blk_cell BK147.out 7).trans rfl; have hcz5_8 : w4.cell? ⟨gb147, 8, none⟩ = some (.string a0_8) := (blk_cell BK147.out 8).trans rfl; have hfz5_0 := blk_frozen BK147.out 0; have hfz5_1 := blk_frozen BK147.out 1; have hfz5_2 := blk_frozen BK147.out 2; have hfz5_3 := blk_frozen BK147.out 3; have hfz5_4 := blk_frozen BK147.out 4; have hfz5_5 := blk_frozen BK147.out 5; have hfz5_6 := blk_frozen BK147.out 6; have hfz5_7 := blk_frozen BK147.out 7; have hfz5_8 := blk_frozen BK147.out 8))
  (try simp only [Act.put, List.setIfInBounds_toArray, List.set_cons_zero, List.set_cons_succ])
  go_cut [3] (fun v3 wc => ∃ (kq : Nat) (x3_2 : ByteArray), v3 = .string x3_2 ∧ Aside0 (pursuivantref06_whole.j0 kq x3_2 a0_0 a0_1 a0_2 a0_3 a0_4 a0_5 a0_6 a0_7 a0_8 = some r) ∧ Aside0 (kq ≤ k) ∧ Aside0 (wc.heap[gb147]? = some (.cells #[.string a0_0, .string a0_1, .string a0_2, .int .i64 a0_3, .string a0_4, .bool a0_5, .string a0_6, .bool a0_7, .string a0_8] 30 (0, 0))) ∧ Aside0 (Below w.heap.size w wc))
  case first =>
   have H := HC3.out
   clear HC3
   by_cases c6 : a0_1.toList = ([] : List UInt8)
   ·rw [if_pos c6] at H
    have c6b0 : (a0_1.toList == ([] : List UInt8)) = true := beq_iff_eq.mpr c6
    try have c6e0 : a0_1.toList.isEmpty = true := by rw [← nil_beq]; exact c6b0
    have c6b1 : (a0_1.toList != ([] : List UInt8)) = false := bne_eq_false_iff_eq.mpr c6
    clear c6
    (first | rw [c6b0] | (simp only [i64_w, i32_w]; rw [c6b0]) | rw [c6e0] | skip)
    have H' := Aside0.mk H
    clear H; go_wp2; go_meet
    case rel => exact ⟨_, (a0_0 ++ (⟨#[58, 47, 47]⟩ : ByteArray)), z64_, H', ⟨z69_⟩, ⟨z52_⟩, ⟨z34_⟩⟩
   ·rw [if_neg c6] at H
    have c6b0 : (a0_1.toList == ([] : List UInt8)) = false := beq_eq_false_iff_ne.mpr c6
    try have c6e0 : a0_1.toList.isEmpty = false := by rw [← nil_beq]; exact c6b0
    have c6b1 : (a0_1.toList != ([] : List UInt8)) = true := bne_iff_ne.mpr c6
    (first | rw [c6b0] | (simp only [i64_w, i32_w]; rw [c6b0]) | rw [c6e0] | skip)
    by_cases c7 : a0_1.size + 1 ≤ 9223372036854775807
    ·rw [if_pos c7] at H
     have c7b0 := eq_true c7; have c7b1 : decide (a0_1.size + 1 ≤ 9223372036854775807) = true := decide_eq_true c7
     try have c7b2 : (9223372036854775807 < a0_1.size + 1) = False := eq_false (Nat.not_lt.2 c7)
     try have c7c0 : (9223372036854775807 ≤ a0_1.size) = False := eq_false (by omega)
     try have c7c1 : (a0_1.size < 9223372036854775807) = True := eq_true (by omega)
     by_cases c8 : (a0_0 ++ (⟨#[58, 47, 47]⟩ : ByteArray)).size + (a0_1 ++ (⟨#[64]⟩ : ByteArray)).size ≤ 9223372036854775807
     ·rw [if_pos c8] at H
      have c8b0 := eq_true c8
      try have c8m : ((a0_0.size + 3) + (a0_1.size + 1) ≤ 9223372036854775807) = True := by first | exact c8b0 | (have h_ := c8; simp only [ByteArray.size_append, Int.natCast_add] at h_; exact eq_true h_)
      have c8b1 : decide ((a0_0 ++ (⟨#[58, 47, 47]⟩ : ByteArray)).size + (a0_1 ++ (⟨#[64]⟩ : ByteArray)).size ≤ 9223372036854775807) = true := decide_eq_true c8
      try have c8b1n : decide ((a0_0.size + 3) + (a0_1.size + 1) ≤ 9223372036854775807) = true := by first | exact c8b1 | (have h_ := c8b1; simp only [ByteArray.size_append, Int.natCast_add] at h_; exact h_)
      try have c8b2 : (9223372036854775807 < (a0_0 ++ (⟨#[58, 47, 47]⟩ : ByteArray)).size + (a0_1 ++ (⟨#[64]⟩ : ByteArray)).size) = False := eq_false (Nat.not_lt.2 c8)
      try have c8b2n : (9223372036854775807 < (a0_0.size + 3) + (a0_1.size + 1)) = False := by first | exact c8b2 | (have h_ := c8b2; simp only [ByteArray.size_append, Int.natCast_add] at h_; exact h_)
      have H' := Aside0.mk H
      clear H; obtain ⟨hcz9_0, hcz9_1, hcz9_2, hcz9_3, hcz9_4, hcz9_5, hcz9_6, hcz9_7, hcz9_8⟩ := blkc9_ BK147.out; obtain ⟨hfz9_0, hfz9_1, hfz9_2, hfz9_3, hfz9_4, hfz9_5, hfz9_6, hfz9_7, hfz9_8⟩ := blkf9_ BK147.out; go_wp2; go_meet
      case rel => exact ⟨_, ((a0_0 ++ (⟨#[58, 47, 47]⟩ : ByteArray)) ++ (a0_1 ++ (⟨#[64]⟩ : ByteArray))), z64_, H', ⟨z69_⟩, ⟨z52_⟩, ⟨z34_⟩⟩
     ·rw [if_neg c8] at H
      exact absurd H (by simp)
    ·rw [if_neg c7] at H
     exact absurd H (by simp)
  case rest =>
   clear HC3; (try clear c2); (try clear c2b0); (try clear c2b1); (try clear c2b2); (try clear hcz5_0 hcz5_1 hcz5_2 hcz5_3 hcz5_4 hcz5_5 hcz5_6 hcz5_7 hcz5_8); (try clear hfz5_0 hfz5_1 hfz5_2 hfz5_3 hfz5_4 hfz5_5 hfz5_6 hfz5_7 hfz5_8)
   obtain ⟨kq, x3_2, rfl, HA, HJ2, BK147, HB⟩ := hcut
   cases kq with
   | zero => exact absurd HA.out (by simp [pursuivantref06_whole.j0])
   | succ kj2 =>
    have H := HA.out
    clear HA
    simp only [pursuivantref06_whole.j0] at H
    by_cases c10 : x3_2.size + a0_2.size ≤ 9223372036854775807
    ·rw [if_pos c10] at H
     have c10b0 := eq_true c10; have c10b1 : decide (x3_2.size + a0_2.size ≤ 9223372036854775807) = true := decide_eq_true c10
     try have c10b2 : (9223372036854775807 < x3_2.size + a0_2.size) = False := eq_false (Nat.not_lt.2 c10)
     have HC11 := Aside0.mk H; clear H; obtain ⟨hcz12_0, hcz12_1, hcz12_2, hcz12_3, hcz12_4, hcz12_5, hcz12_6, hcz12_7, hcz12_8⟩ := blkc9_ BK147.out; obtain ⟨hfz12_0, hfz12_1, hfz12_2, hfz12_3, hfz12_4, hfz12_5, hfz12_6, hfz12_7, hfz12_8⟩ := blkf9_ BK147.out
     go_upto_if 21 with (fail)
     go_cut [3] (fun v3 wc => ∃ (kq : Nat) (x3_10 : ByteArray), v3 = .string x3_10 ∧ Aside0 (pursuivantref06_whole.j1 kq x3_10 a0_0 a0_1 a0_2 a0_3 a0_4 a0_5 a0_6 a0_7 a0_8 = some r) ∧ Aside0 (kq ≤ kj2) ∧ Aside0 (wc.heap[gb147]? = some (.cells #[.string a0_0, .string a0_1, .string a0_2, .int .i64 a0_3, .string a0_4, .bool a0_5, .string a0_6, .bool a0_7, .string a0_8] 30 (0, 0))) ∧ Aside0 (Below w.heap.size w wc))
     case first =>
      have H := HC11.out
      clear HC11
      by_cases c13 : a0_3 > 0
      ·rw [if_pos c13] at H
       have c13b0 : decide (0 < a0_3) = true := decide_eq_true c13; clear c13
       (first | rw [c13b0] | (simp only [i64_w, i32_w]; rw [c13b0]) | skip)
       replace H := Option.bind_eq_some_iff.mp H
       obtain ⟨t148, A140, H⟩ := H
       replace H : (if 1 + t148.size ≤ 9223372036854775807 then (if (x3_2 ++ a0_2).size + ((⟨#[58]⟩ : ByteArray) ++ t148).size ≤ 9223372036854775807 then (pursuivantref06_whole.j1 kj2 ((x3_2 ++ a0_2) ++ ((⟨#[58]⟩ : ByteArray) ++ t148)) a0_0 a0_1 a0_2 a0_3 a0_4 a0_5 a0_6 a0_7 a0_8) else (none)) else (none)) = some r := H
       have A14 := Aside0.mk A140; clear A140
       by_cases c15 : 1 + t148.size ≤ 9223372036854775807
       ·rw [if_pos c15] at H
        have c15b0 := eq_true c15; have c15b1 : decide (1 + t148.size ≤ 9223372036854775807) = true := decide_eq_true c15
        try have c15b2 : (9223372036854775807 < 1 + t148.size) = False := eq_false (Nat.not_lt.2 c15)
        try have c15c0 : (9223372036854775807 ≤ t148.size) = False := eq_false (by omega)
        try have c15c1 : (t148.size < 9223372036854775807) = True := eq_true (by omega)
        by_cases c16 : (x3_2 ++ a0_2).size + ((⟨#[58]⟩ : ByteArray) ++ t148).size ≤ 9223372036854775807
        ·rw [if_pos c16] at H
         have c16b0 := eq_true c16
         try have c16m : ((x3_2.size + a0_2.size) + (1 + t148.size) ≤ 9223372036854775807) = True := by first | exact c16b0 | (have h_ := c16; simp only [ByteArray.size_append, Int.natCast_add] at h_; exact eq_true h_)
         have c16b1 : decide ((x3_2 ++ a0_2).size + ((⟨#[58]⟩ : ByteArray) ++ t148).size ≤ 9223372036854775807) = true := decide_eq_true c16
         try have c16b1n : decide ((x3_2.size + a0_2.size) + (1 + t148.size) ≤ 9223372036854775807) = true := by first | exact c16b1 | (have h_ := c16b1; simp only [ByteArray.size_append, Int.natCast_add] at h_; exact h_)
         try have c16b2 : (9223372036854775807 < (x3_2 ++ a0_2).size + ((⟨#[58]⟩ : ByteArray) ++ t148).size) = False := eq_false (Nat.not_lt.2 c16)
         try have c16b2n : (9223372036854775807 < (x3_2.size + a0_2.size) + (1 + t148.size)) = False := by first | exact c16b2 | (have h_ := c16b2; simp only [ByteArray.size_append, Int.natCast_add] at h_; exact h_)
         have H' := Aside0.mk H
         clear H; obtain ⟨hcz17_0, hcz17_1, hcz17_2, hcz17_3, hcz17_4, hcz17_5, hcz17_6, hcz17_7, hcz17_8⟩ := blkc9_ BK147.out; obtain ⟨hfz17_0, hfz17_1, hfz17_2, hfz17_3, hfz17_4, hfz17_5, hfz17_6, hfz17_7, hfz17_8⟩ := blkf9_ BK147.out
         go_wp2_with (first | ((with_reducible refine gate_callee (f := 93) rfl ?_); refine goesL_ (some 25) rfl rfl Tryz.func93 (by kernel_rfl) rfl #[.int .i64 a0_3] rfl z44_ ?_; (with_reducible refine (pursuivantref06_Digits.calls kj2 a0_3 t148 _ ?gw50_ A14.out).mono ?_); (case gw50_ => first | (with_reducible exact hG_) | ((with_reducible refine GW.below hG_ ?_); (repeat (first | (with_reducible exact HB.out) | (with_reducible apply below_alloc) | (with_reducible apply pw_below_drewN) | (with_reducible apply below_drew1) | (with_reducible apply below_drew) | (with_reducible exact Below.refl _ _) | (with_reducible refine below_set ?_ GE147.out))); done) | exact hG_ | (refine GW.below hG_ ?_; first | (with_reducible exact HB.out) | (repeat (first | (with_reducible first | exact HB.out | apply below_alloc | apply pw_below_drewN | apply below_drew1 | apply below_drew | exact Below.refl _ _) | exact HB.out))) | (apply GW.drewN; exact hG_) | (apply GW.drew; exact hG_)); rintro e w18 ⟨rfl, hb⟩; refine ⟨_, rfl, ?_⟩; have n0_ := Aside0.mk (blk_below (g := gb147) (o := .cells #[.string a0_0, .string a0_1, .string a0_2, .int .i64 a0_3, .string a0_4, .bool a0_5, .string a0_6, .bool a0_7, .string a0_8] 30 (0, 0)) z52_ hb); have n1_ := Aside0.mk (below_step z34_ hb); clear BK147; clear HB; have BK147 := n0_; have HB := n1_; clear n0_ n1_; (try clear hb); (try clear hb2); (try clear hk); (try clear hi)))
         go_meet
         case rel => exact ⟨_, ((x3_2 ++ a0_2) ++ ((⟨#[58]⟩ : ByteArray) ++ t148)), z64_, H', ⟨z66_⟩, ⟨z52_⟩, ⟨z34_⟩⟩
        ·rw [if_neg c16] at H
         exact absurd H (by simp)
       ·rw [if_neg c15] at H
        exact absurd H (by simp)
      ·rw [if_neg c13] at H
       have c13b0 : decide (0 < a0_3) = false := decide_eq_false c13; clear c13
       (first | rw [c13b0] | (simp only [i64_w, i32_w]; rw [c13b0]) | skip)
       have H' := Aside0.mk H
       clear H; go_wp2; go_meet
       case rel => exact ⟨_, (x3_2 ++ a0_2), z64_, H', ⟨z66_⟩, ⟨z52_⟩, ⟨z34_⟩⟩
     case rest =>
      clear HC11; (try clear c2); (try clear c2b0); (try clear c2b1); (try clear c2b2); (try clear c10); (try clear c10b0); (try clear c10b1); (try clear c10b2); (try clear hcz12_0 hcz12_1 hcz12_2 hcz12_3 hcz12_4 hcz12_5 hcz12_6 hcz12_7 hcz12_8); (try clear hcz5_0 hcz5_1 hcz5_2 hcz5_3 hcz5_4 hcz5_5 hcz5_6 hcz5_7 hcz5_8); (try clear hfz12_0 hfz12_1 hfz12_2 hfz12_3 hfz12_4 hfz12_5 hfz12_6 hfz12_7 hfz12_8); (try clear hfz5_0 hfz5_1 hfz5_2 hfz5_3 hfz5_4 hfz5_5 hfz5_6 hfz5_7 hfz5_8)
      obtain ⟨kq, x3_10, rfl, HA, HJ10, BK147, HB⟩ := hcut
      cases kq with
      | zero => exact absurd HA.out (by simp [pursuivantref06_whole.j1])
      | succ kj10 =>
       have H := HA.out
       clear HA
       simp only [pursuivantref06_whole.j1] at H
       by_cases c19 : x3_10.size + a0_4.size ≤ 9223372036854775807
       ·rw [if_pos c19] at H
        have c19b0 := eq_true c19; have c19b1 : decide (x3_10.size + a0_4.size ≤ 9223372036854775807) = true := decide_eq_true c19
        try have c19b2 : (9223372036854775807 < x3_10.size + a0_4.size) = False := eq_false (Nat.not_lt.2 c19)
        by_cases c20 : a0_5 = true
        ·subst c20
         have H1 : (if 1 + a0_6.size ≤ 9223372036854775807 then (if (x3_10 ++ a0_4).size + ((⟨#[63]⟩ : ByteArray) ++ a0_6).size ≤ 9223372036854775807 then (if a0_7 = true then (if 1 + a0_8.size ≤ 9223372036854775807 then (if ((x3_10 ++ a0_4) ++ ((⟨#[63]⟩ : ByteArray) ++ a0_6)).size + ((⟨#[35]⟩ : ByteArray) ++ a0_8).size ≤ 9223372036854775807 then (some (((x3_10 ++ a0_4) ++ ((⟨#[63]⟩ : ByteArray) ++ a0_6)) ++ ((⟨#[35]⟩ : ByteArray) ++ a0_8))) else (none)) else (none)) else (some ((x3_10 ++ a0_4) ++ ((⟨#[63]⟩ : ByteArray) ++ a0_6)))) else (none)) else (none)) = some r := by rw [if_pos rfl] at H; exact H
         clear H
         have H := H1
         clear H1
         by_cases c21 : 1 + a0_6.size ≤ 9223372036854775807
         ·rw [if_pos c21] at H
          have c21b0 := eq_true c21; have c21b1 : decide (1 + a0_6.size ≤ 9223372036854775807) = true := decide_eq_true c21
          try have c21b2 : (9223372036854775807 < 1 + a0_6.size) = False := eq_false (Nat.not_lt.2 c21)
          try have c21c0 : (9223372036854775807 ≤ a0_6.size) = False := eq_false (by omega)
          try have c21c1 : (a0_6.size < 9223372036854775807) = True := eq_true (by omega)
          by_cases c22 : (x3_10 ++ a0_4).size + ((⟨#[63]⟩ : ByteArray) ++ a0_6).size ≤ 9223372036854775807
          ·rw [if_pos c22] at H
           have c22b0 := eq_true c22
           try have c22m : ((x3_10.size + a0_4.size) + (1 + a0_6.size) ≤ 9223372036854775807) = True := by first | exact c22b0 | (have h_ := c22; simp only [ByteArray.size_append, Int.natCast_add] at h_; exact eq_true h_)
           have c22b1 : decide ((x3_10 ++ a0_4).size + ((⟨#[63]⟩ : ByteArray) ++ a0_6).size ≤ 9223372036854775807) = true := decide_eq_true c22
           try have c22b1n : decide ((x3_10.size + a0_4.size) + (1 + a0_6.size) ≤ 9223372036854775807) = true := by first | exact c22b1 | (have h_ := c22b1; simp only [ByteArray.size_append, Int.natCast_add] at h_; exact h_)
           try have c22b2 : (9223372036854775807 < (x3_10 ++ a0_4).size + ((⟨#[63]⟩ : ByteArray) ++ a0_6).size) = False := eq_false (Nat.not_lt.2 c22)
           try have c22b2n : (9223372036854775807 < (x3_10.size + a0_4.size) + (1 + a0_6.size)) = False := by first | exact c22b2 | (have h_ := c22b2; simp only [ByteArray.size_append, Int.natCast_add] at h_; exact h_)
           by_cases c23 : a0_7 = true
           ·subst c23
            have H1 : (if 1 + a0_8.size ≤ 9223372036854775807 then (if ((x3_10 ++ a0_4) ++ ((⟨#[63]⟩ : ByteArray) ++ a0_6)).size + ((⟨#[35]⟩ : ByteArray) ++ a0_8).size ≤ 9223372036854775807 then (some (((x3_10 ++ a0_4) ++ ((⟨#[63]⟩ : ByteArray) ++ a0_6)) ++ ((⟨#[35]⟩ : ByteArray) ++ a0_8))) else (none)) else (none)) = some r := by rw [if_pos rfl] at H; exact H
            clear H
            have H := H1
            clear H1
            by_cases c24 : 1 + a0_8.size ≤ 9223372036854775807
            ·rw [if_pos c24] at H
             have c24b0 := eq_true c24; have c24b1 : decide (1 + a0_8.size ≤ 9223372036854775807) = true := decide_eq_true c24
             try have c24b2 : (9223372036854775807 < 1 + a0_8.size) = False := eq_false (Nat.not_lt.2 c24)
             try have c24c0 : (9223372036854775807 ≤ a0_8.size) = False := eq_false (by omega)
             try have c24c1 : (a0_8.size < 9223372036854775807) = True := eq_true (by omega)
             by_cases c25 : ((x3_10 ++ a0_4) ++ ((⟨#[63]⟩ : ByteArray) ++ a0_6)).size + ((⟨#[35]⟩ : ByteArray) ++ a0_8).size ≤ 9223372036854775807
             ·rw [if_pos c25] at H
              have c25b0 := eq_true c25
              try have c25m : ((x3_10.size + a0_4.size + (1 + a0_6.size)) + (1 + a0_8.size) ≤ 9223372036854775807) = True := by first | exact c25b0 | (have h_ := c25; simp only [ByteArray.size_append, Int.natCast_add] at h_; exact eq_true h_)
              have c25b1 : decide (((x3_10 ++ a0_4) ++ ((⟨#[63]⟩ : ByteArray) ++ a0_6)).size + ((⟨#[35]⟩ : ByteArray) ++ a0_8).size ≤ 9223372036854775807) = true := decide_eq_true c25
              try have c25b1n : decide ((x3_10.size + a0_4.size + (1 + a0_6.size)) + (1 + a0_8.size) ≤ 9223372036854775807) = true := by first | exact c25b1 | (have h_ := c25b1; simp only [ByteArray.size_append, Int.natCast_add] at h_; exact h_)
              try have c25b2 : (9223372036854775807 < ((x3_10 ++ a0_4) ++ ((⟨#[63]⟩ : ByteArray) ++ a0_6)).size + ((⟨#[35]⟩ : ByteArray) ++ a0_8).size) = False := eq_false (Nat.not_lt.2 c25)
              try have c25b2n : (9223372036854775807 < (x3_10.size + a0_4.size + (1 + a0_6.size)) + (1 + a0_8.size)) = False := by first | exact c25b2 | (have h_ := c25b2; simp only [ByteArray.size_append, Int.natCast_add] at h_; exact h_)
              obtain rfl := Option.some.inj H
              obtain ⟨hcz26_0, hcz26_1, hcz26_2, hcz26_3, hcz26_4, hcz26_5, hcz26_6, hcz26_7, hcz26_8⟩ := blkc9_ BK147.out; obtain ⟨hfz26_0, hfz26_1, hfz26_2, hfz26_3, hfz26_4, hfz26_5, hfz26_6, hfz26_7, hfz26_8⟩ := blkf9_ BK147.out; go_wp2
              go_ret
              exact ⟨z46_, z34_⟩
             ·rw [if_neg c25] at H
              exact absurd H (by simp)
            ·rw [if_neg c24] at H
             exact absurd H (by simp)
           ·replace c23 := Bool.eq_false_iff.mpr c23
            subst c23
            have H1 : (some ((x3_10 ++ a0_4) ++ ((⟨#[63]⟩ : ByteArray) ++ a0_6))) = some r := by rw [if_neg (show ¬ (false = true) by decide)] at H; exact H
            clear H
            have H := H1
            clear H1
            obtain rfl := Option.some.inj H
            obtain ⟨hcz27_0, hcz27_1, hcz27_2, hcz27_3, hcz27_4, hcz27_5, hcz27_6, hcz27_7, hcz27_8⟩ := blkc9_ BK147.out; obtain ⟨hfz27_0, hfz27_1, hfz27_2, hfz27_3, hfz27_4, hfz27_5, hfz27_6, hfz27_7, hfz27_8⟩ := blkf9_ BK147.out; go_wp2
            go_ret
            exact ⟨z46_, z34_⟩
          ·rw [if_neg c22] at H
           exact absurd H (by simp)
         ·rw [if_neg c21] at H
          exact absurd H (by simp)
        ·replace c20 := Bool.eq_false_iff.mpr c20
         subst c20
         have H1 : (if a0_7 = true then (if 1 + a0_8.size ≤ 9223372036854775807 then (if (x3_10 ++ a0_4).size + ((⟨#[35]⟩ : ByteArray) ++ a0_8).size ≤ 9223372036854775807 then (some ((x3_10 ++ a0_4) ++ ((⟨#[35]⟩ : ByteArray) ++ a0_8))) else (none)) else (none)) else (some (x3_10 ++ a0_4))) = some r := by rw [if_neg (show ¬ (false = true) by decide)] at H; exact H
         clear H
         have H := H1
         clear H1
         by_cases c28 : a0_7 = true
         ·subst c28
          have H1 : (if 1 + a0_8.size ≤ 9223372036854775807 then (if (x3_10 ++ a0_4).size + ((⟨#[35]⟩ : ByteArray) ++ a0_8).size ≤ 9223372036854775807 then (some ((x3_10 ++ a0_4) ++ ((⟨#[35]⟩ : ByteArray) ++ a0_8))) else (none)) else (none)) = some r := by rw [if_pos rfl] at H; exact H
          clear H
          have H := H1
          clear H1
          by_cases c29 : 1 + a0_8.size ≤ 9223372036854775807
          ·rw [if_pos c29] at H
           have c29b0 := eq_true c29; have c29b1 : decide (1 + a0_8.size ≤ 9223372036854775807) = true := decide_eq_true c29
           try have c29b2 : (9223372036854775807 < 1 + a0_8.size) = False := eq_false (Nat.not_lt.2 c29)
           try have c29c0 : (9223372036854775807 ≤ a0_8.size) = False := eq_false (by omega)
           try have c29c1 : (a0_8.size < 9223372036854775807) = True := eq_true (by omega)
           by_cases c30 : (x3_10 ++ a0_4).size + ((⟨#[35]⟩ : ByteArray) ++ a0_8).size ≤ 9223372036854775807
           ·rw [if_pos c30] at H
            have c30b0 := eq_true c30
            try have c30m : ((x3_10.size + a0_4.size) + (1 + a0_8.size) ≤ 9223372036854775807) = True := by first | exact c30b0 | (have h_ := c30; simp only [ByteArray.size_append, Int.natCast_add] at h_; exact eq_true h_)
            have c30b1 : decide ((x3_10 ++ a0_4).size + ((⟨#[35]⟩ : ByteArray) ++ a0_8).size ≤ 9223372036854775807) = true := decide_eq_true c30
            try have c30b1n : decide ((x3_10.size + a0_4.size) + (1 + a0_8.size) ≤ 9223372036854775807) = true := by first | exact c30b1 | (have h_ := c30b1; simp only [ByteArray.size_append, Int.natCast_add] at h_; exact h_)
            try have c30b2 : (9223372036854775807 < (x3_10 ++ a0_4).size + ((⟨#[35]⟩ : ByteArray) ++ a0_8).size) = False := eq_false (Nat.not_lt.2 c30)
            try have c30b2n : (9223372036854775807 < (x3_10.size + a0_4.size) + (1 + a0_8.size)) = False := by first | exact c30b2 | (have h_ := c30b2; simp only [ByteArray.size_append, Int.natCast_add] at h_; exact h_)
            obtain rfl := Option.some.inj H
            obtain ⟨hcz31_0, hcz31_1, hcz31_2, hcz31_3, hcz31_4, hcz31_5, hcz31_6, hcz31_7, hcz31_8⟩ := blkc9_ BK147.out; obtain ⟨hfz31_0, hfz31_1, hfz31_2, hfz31_3, hfz31_4, hfz31_5, hfz31_6, hfz31_7, hfz31_8⟩ := blkf9_ BK147.out; go_wp2
            go_ret
            exact ⟨z46_, z34_⟩
           ·rw [if_neg c30] at H
            exact absurd H (by simp)
          ·rw [if_neg c29] at H
           exact absurd H (by simp)
         ·replace c28 := Bool.eq_false_iff.mpr c28
          subst c28
          have H1 : (some (x3_10 ++ a0_4)) = some r := by rw [if_neg (show ¬ (false = true) by decide)] at H; exact H
          clear H
          have H := H1
          clear H1
          obtain rfl := Option.some.inj H
          obtain ⟨hcz32_0, hcz32_1, hcz32_2, hcz32_3, hcz32_4, hcz32_5, hcz32_6, hcz32_7, hcz32_8⟩ := blkc9_ BK147.out; obtain ⟨hfz32_0, hfz32_1, hfz32_2, hfz32_3, hfz32_4, hfz32_5, hfz32_6, hfz32_7, hfz32_8⟩ := blkf9_ BK147.out; go_wp2
          go_ret
          exact ⟨z46_, z34_⟩
       ·rw [if_neg c19] at H
        exact absurd H (by simp)
    ·rw [if_neg c10] at H
     exact absurd H (by simp)
 ·rw [if_neg c2] at H
  exact absurd H (by simp)

end Go.Proofs.YteemgpciheheoaaGreatDoorRRR.Hand
