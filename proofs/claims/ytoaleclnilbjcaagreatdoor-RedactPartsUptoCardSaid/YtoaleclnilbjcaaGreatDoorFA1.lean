/- What each Go function here computes, and that its call computes it, over contracts proved by hand (written by this project's xprint.py, which drives the kit's print). -/
import Derived.Test.YtoaleclnilbjcaaGreatDoorZ
import Derived.Test.YtoaleclnilbjcaaGreatDoorK
import Derived.Test.YtoaleclnilbjcaaGreatDoorLow
namespace Go.Proofs.YtoaleclnilbjcaaGreatDoor.Hand
open Go.RowKit Go.Proofs.YtoaleclnilbjcaaGreatDoorW.PrintWords Go.Proofs.YtoaleclnilbjcaaGreatDoorW.PrintLast Go.Proofs.YtoaleclnilbjcaaGreatDoorW.PrintMore
attribute [local go_sem] Instr.field asAgg max2_int min2_int max_two min_two max_three min_three max_four min_four   -- for this text's walks alone
set_option linter.unusedVariables false
set_option linter.unusedSimpArgs false

mutual
def host_label.j0 : Nat → ByteArray → Bool → Option (Bool)
 | 0, _, _ => none
 | k + 1, x0, x24 => if x24 = true then (some false) else (host_label.l0 k x0 (x0.size : Int) 0)
def host_label.l0 : Nat → ByteArray → Int → Int → Option (Bool)
 | 0, _, _, _ => none
 | k + 1, x0, x26, x27 => if x27 < x26 then (if 0 ≤ x27 then (if x27 < (x0.size : Int) then (if (bt x0 x27) < 97 then (if (bt x0 x27) < 48 then (if (bt x0 x27) = 45 then (host_label.l0 k x0 x26 (wrap64 (x27 + 1))) else (some false)) else (if (bt x0 x27) > 57 then (if (bt x0 x27) = 45 then (host_label.l0 k x0 x26 (wrap64 (x27 + 1))) else (some false)) else (host_label.l0 k x0 x26 (wrap64 (x27 + 1))))) else (if (bt x0 x27) > 122 then (if (bt x0 x27) < 48 then (if (bt x0 x27) = 45 then (host_label.l0 k x0 x26 (wrap64 (x27 + 1))) else (some false)) else (if (bt x0 x27) > 57 then (if (bt x0 x27) = 45 then (host_label.l0 k x0 x26 (wrap64 (x27 + 1))) else (some false)) else (host_label.l0 k x0 x26 (wrap64 (x27 + 1))))) else (host_label.l0 k x0 x26 (wrap64 (x27 + 1))))) else (none)) else (none)) else (some true)
end
def host_label.f (k : Nat) (a0 : ByteArray) : Option (Bool) := if a0.toList = ([] : List UInt8) then (host_label.j0 k a0 true) else (if (a0.size : Int) > 63 then (host_label.j0 k a0 true) else (if 0 < (a0.size : Int) then (if (bt a0 0) = 45 then (host_label.j0 k a0 true) else (if 0 ≤ (wrap64 ((a0.size : Int) - 1)) then (if (wrap64 ((a0.size : Int) - 1)) < (a0.size : Int) then (host_label.j0 k a0 ((bt a0 (wrap64 ((a0.size : Int) - 1))) == 45)) else (none)) else (none))) else (none)))
set_option maxHeartbeats 8000000 in
set_option maxRecDepth 100000 in
theorem host_label.calls (k : Nat) (a0 : ByteArray) (r : Bool) (w : World) (hG_ : GW w) (h : host_label.f k a0 = some r) :
  Calls Tryz.prog 144 #[.string a0] w fun e w' => e = .returned (.bool r) ∧ Drawn0 w w' := by
 have H : (if a0.toList = ([] : List UInt8) then (host_label.j0 k a0 true) else (if (a0.size : Int) > 63 then (host_label.j0 k a0 true) else (if 0 < (a0.size : Int) then (if (bt a0 0) = 45 then (host_label.j0 k a0 true) else (if 0 ≤ (wrap64 ((a0.size : Int) - 1)) then (if (wrap64 ((a0.size : Int) - 1)) < (a0.size : Int) then (host_label.j0 k a0 ((bt a0 (wrap64 ((a0.size : Int) - 1))) == 45)) else (none)) else (none))) else (none)))) = some r := h
 clear h; have HC2 := Aside0.mk H; clear H
 go_enter Tryz.func144, Tryz.ntmps144
 go_upto_region 1 with (fail)
 go_cut [24] (fun v24 wc => ∃ (kq : Nat) (x24_1 : Bool), v24 = .bool x24_1 ∧ Aside0 (host_label.j0 kq a0 x24_1 = some r) ∧ Aside0 (kq ≤ k) ∧ Drawn0 w wc)
 case first =>
  have H := HC2.out
  clear HC2
  by_cases c3 : a0.toList = ([] : List UInt8)
  ·rw [if_pos c3] at H
   have c3b0 : (a0.toList == ([] : List UInt8)) = true := beq_iff_eq.mpr c3
   try have c3e0 : a0.toList.isEmpty = true := by rw [← nil_beq]; exact c3b0
   have c3b1 : (a0.toList != ([] : List UInt8)) = false := bne_eq_false_iff_eq.mpr c3
   clear c3
   (first | rw [c3b0] | (simp only [i64_w, i32_w]; rw [c3b0]) | rw [c3e0] | skip)
   have H' := Aside0.mk H
   clear H; go_wp2; go_meet
   case rel => exact ⟨_, (true), z56_, H', ⟨z63_⟩, z58_⟩
  ·rw [if_neg c3] at H
   have c3b0 : (a0.toList == ([] : List UInt8)) = false := beq_eq_false_iff_ne.mpr c3
   try have c3e0 : a0.toList.isEmpty = false := by rw [← nil_beq]; exact c3b0
   have c3b1 : (a0.toList != ([] : List UInt8)) = true := bne_iff_ne.mpr c3
   (first | rw [c3b0] | (simp only [i64_w, i32_w]; rw [c3b0]) | rw [c3e0] | skip)
   by_cases c4 : (a0.size : Int) > 63
   ·rw [if_pos c4] at H
    have c4b0 : decide (63 < (a0.size : Int)) = true := decide_eq_true c4
    have c4b1 : decide (63 < a0.size) = true := decide_eq_true (by omega)
    clear c4
    have H' := Aside0.mk H
    clear H; go_wp2; go_meet
    case rel => exact ⟨_, (true), z56_, H', ⟨z63_⟩, z58_⟩
   ·rw [if_neg c4] at H
    have c4b0 : decide (63 < (a0.size : Int)) = false := decide_eq_false c4
    have c4b1 : decide (63 < a0.size) = false := decide_eq_false (by omega)
    clear c4
    by_cases c5 : 0 < (a0.size : Int)
    ·rw [if_pos c5] at H
     have c5b0 : decide (0 < (a0.size : Int)) = true := decide_eq_true c5
     have c5b1 : decide (0 < a0.size) = true := decide_eq_true (by omega)
     clear c5
     by_cases c7 : (bt a0 0) = 45
     ·rw [if_pos c7] at H
      have c7b0 : ((bt a0 0) == 45) = true := beq_iff_eq.mpr c7
      have c7b1 : ((bt a0 0) != 45) = false := bne_eq_false_iff_eq.mpr c7
      clear c7
      have H' := Aside0.mk H
      clear H
      have p6 : 0 ≤ (0 : Int) := (by omega)
      have q6 : 0 < a0.size := (by have : (0 : Int) < (a0.size : Int) := of_decide_eq_true z61_; omega)
      have hx6 : ∀ h : 0 < a0.size, ((a0[0]'h).toNat : Int) = bt a0 0 := bt_at a0 0
      clear p6
      have qi6 : (0 < (a0.size : Int)) = True := eq_true (of_decide_eq_true z61_)
      replace q6 := eq_true q6
      go_wp2; go_meet
      case rel => exact ⟨_, (true), z56_, H', ⟨z63_⟩, z58_⟩
     ·rw [if_neg c7] at H
      have c7b0 : ((bt a0 0) == 45) = false := beq_eq_false_iff_ne.mpr c7
      have c7b1 : ((bt a0 0) != 45) = true := bne_iff_ne.mpr c7
      obtain ⟨ji8, hji8⟩ : ∃ j_ : Int, (wrap64 ((a0.size : Int) - 1)) = j_ := ⟨_, rfl⟩
      replace H : (if 0 ≤ (ji8) then (if (ji8) < (a0.size : Int) then (host_label.j0 k a0 ((bt a0 (ji8)) == 45)) else (none)) else (none)) = some r := by first | (rw [hji8] at H; exact H) | (simp only [hji8] at H ⊢; exact H)
      have hji8w : (IntKind.i64.wrap ((a0.size : Int) - 1)) = ji8 := (i64_w _).trans hji8
      by_cases c9 : 0 ≤ (ji8)
      ·rw [if_pos c9] at H
       have c9b0 : decide (0 ≤ (ji8)) = true := decide_eq_true c9; clear c9
       by_cases c10 : (ji8) < (a0.size : Int)
       ·rw [if_pos c10] at H
        have c10b0 : decide ((ji8) < (a0.size : Int)) = true := decide_eq_true c10; clear c10
        have H' := Aside0.mk H
        clear H
        have p6 : 0 ≤ (0 : Int) := (by omega)
        have q6 : 0 < a0.size := (by have : (0 : Int) < (a0.size : Int) := of_decide_eq_true z61_; omega)
        have hx6 : ∀ h : 0 < a0.size, ((a0[0]'h).toNat : Int) = bt a0 0 := bt_at a0 0
        clear p6
        have qi6 : (0 < (a0.size : Int)) = True := eq_true (of_decide_eq_true z61_)
        replace q6 := eq_true q6
        have p11 : 0 ≤ ((ji8) : Int) := of_decide_eq_true z61_
        have q11 : (ji8) < (a0.size : Int) := of_decide_eq_true z61_
        have hx11 := bt_at a0 (ji8)
        replace p11 := eq_true p11
        replace q11 := eq_true q11
        go_wp2; go_meet
        case rel => exact ⟨_, (((bt a0 (ji8)) == 45)), (by first | rfl | (simp [nil_bne, nil_beq]; done) | (simp; done) | (simp only [← hji8] <;> (first | rfl | simp)) | (simp [*]; done)), H', ⟨z63_⟩, z58_⟩
       ·rw [if_neg c10] at H
        exact absurd H (by simp)
      ·rw [if_neg c9] at H
       exact absurd H (by simp)
    ·rw [if_neg c5] at H
     exact absurd H (by simp)
 case rest =>
  clear HC2
  obtain ⟨kq, x24_1, rfl, HA, HJ1, ⟨mc1, rfl⟩⟩ := hcut
  cases kq with
  | zero => exact absurd HA.out (by simp [host_label.j0])
  | succ kj1 =>
   have H := HA.out
   clear HA
   simp only [host_label.j0] at H
   by_cases c12 : x24_1 = true
   ·subst c12
    have H1 : (some false) = some r := by rw [if_pos rfl] at H; exact H
    clear H
    have H := H1
    clear H1
    obtain rfl := Option.some.inj H
    go_wp2
    go_ret
    exact ⟨z56_, z58_⟩
   ·replace c12 := Bool.eq_false_iff.mpr c12
    subst c12
    have H1 : (host_label.l0 kj1 a0 (a0.size : Int) 0) = some r := by rw [if_neg (show ¬ (false = true) by decide)] at H; exact H
    clear H
    have H := H1
    clear H1
    have H' := Aside0.mk H
    clear H; go_wp2
    go_loopg [27] kj1 (fun kq v27 w' => ∃ (x27_2 : Int), v27 = .int .i64 x27_2 ∧ Aside0 (host_label.l0 kq a0 (a0.size : Int) x27_2 = some r) ∧ Aside0 (kq ≤ kj1) ∧ Drawn0 w w')
    case atStart => exact ⟨(0), z56_, H', ⟨Nat.le_refl _⟩, z58_⟩
    case round =>
     clear H'; (try clear c12)
     obtain ⟨x27_2, rfl, HA, HK2, ⟨m2, rfl⟩⟩ := hrel
     cases gk with
     | zero => exact absurd HA.out (by simp [host_label.l0])
     | succ k2 =>
      have H := HA.out
      clear HA
      simp only [host_label.l0] at H
      by_cases c13 : x27_2 < (a0.size : Int)
      ·rw [if_pos c13] at H
       have c13b0 : decide (x27_2 < (a0.size : Int)) = true := decide_eq_true c13; clear c13
       by_cases c14 : 0 ≤ x27_2
       ·rw [if_pos c14] at H
        have c14b0 : decide (0 ≤ x27_2) = true := decide_eq_true c14; clear c14
        by_cases c15 : x27_2 < (a0.size : Int)
        ·rw [if_pos c15] at H
         have c15b0 : decide (x27_2 < (a0.size : Int)) = true := decide_eq_true c15; clear c15
         by_cases c17 : (bt a0 x27_2) < 97
         ·rw [if_pos c17] at H
          have c17b0 : decide ((bt a0 x27_2) < 97) = true := decide_eq_true c17; clear c17
          by_cases c18 : (bt a0 x27_2) < 48
          ·rw [if_pos c18] at H
           have c18b0 : decide ((bt a0 x27_2) < 48) = true := decide_eq_true c18; clear c18
           by_cases c19 : (bt a0 x27_2) = 45
           ·rw [if_pos c19] at H
            have c19b0 : ((bt a0 x27_2) == 45) = true := beq_iff_eq.mpr c19
            have c19b1 : ((bt a0 x27_2) != 45) = false := bne_eq_false_iff_eq.mpr c19
            clear c19
            have H' := Aside0.mk H
            clear H
            have p16 : 0 ≤ (x27_2 : Int) := of_decide_eq_true z61_
            have q16 : x27_2 < (a0.size : Int) := of_decide_eq_true z61_
            have hx16 := bt_at a0 x27_2
            replace p16 := eq_true p16
            replace q16 := eq_true q16
            go_wp2
            go_roundg k2
            case measure => have := HJ1.out; have := HK2.out; omega
            case rel => exact ⟨(wrap64 (x27_2 + 1)), z56_, H', ⟨z62_⟩, z58_⟩
           ·rw [if_neg c19] at H
            have c19b0 : ((bt a0 x27_2) == 45) = false := beq_eq_false_iff_ne.mpr c19
            have c19b1 : ((bt a0 x27_2) != 45) = true := bne_iff_ne.mpr c19
            obtain rfl := Option.some.inj H
            have p16 : 0 ≤ (x27_2 : Int) := of_decide_eq_true z61_
            have q16 : x27_2 < (a0.size : Int) := of_decide_eq_true z61_
            have hx16 := bt_at a0 x27_2
            replace p16 := eq_true p16
            replace q16 := eq_true q16
            go_wp2
            go_ret
            exact ⟨z56_, z58_⟩
          ·rw [if_neg c18] at H
           have c18b0 : decide ((bt a0 x27_2) < 48) = false := decide_eq_false c18; clear c18
           by_cases c20 : (bt a0 x27_2) > 57
           ·rw [if_pos c20] at H
            have c20b0 : decide (57 < (bt a0 x27_2)) = true := decide_eq_true c20; clear c20
            by_cases c21 : (bt a0 x27_2) = 45
            ·rw [if_pos c21] at H
             have c21b0 : ((bt a0 x27_2) == 45) = true := beq_iff_eq.mpr c21
             have c21b1 : ((bt a0 x27_2) != 45) = false := bne_eq_false_iff_eq.mpr c21
             clear c21
             have H' := Aside0.mk H
             clear H
             have p16 : 0 ≤ (x27_2 : Int) := of_decide_eq_true z61_
             have q16 : x27_2 < (a0.size : Int) := of_decide_eq_true z61_
             have hx16 := bt_at a0 x27_2
             replace p16 := eq_true p16
             replace q16 := eq_true q16
             go_wp2
             go_roundg k2
             case measure => have := HJ1.out; have := HK2.out; omega
             case rel => exact ⟨(wrap64 (x27_2 + 1)), z56_, H', ⟨z62_⟩, z58_⟩
            ·rw [if_neg c21] at H
             have c21b0 : ((bt a0 x27_2) == 45) = false := beq_eq_false_iff_ne.mpr c21
             have c21b1 : ((bt a0 x27_2) != 45) = true := bne_iff_ne.mpr c21
             obtain rfl := Option.some.inj H
             have p16 : 0 ≤ (x27_2 : Int) := of_decide_eq_true z61_
             have q16 : x27_2 < (a0.size : Int) := of_decide_eq_true z61_
             have hx16 := bt_at a0 x27_2
             replace p16 := eq_true p16
             replace q16 := eq_true q16
             go_wp2
             go_ret
             exact ⟨z56_, z58_⟩
           ·rw [if_neg c20] at H
            have c20b0 : decide (57 < (bt a0 x27_2)) = false := decide_eq_false c20; clear c20
            have H' := Aside0.mk H
            clear H
            have p16 : 0 ≤ (x27_2 : Int) := of_decide_eq_true z61_
            have q16 : x27_2 < (a0.size : Int) := of_decide_eq_true z61_
            have hx16 := bt_at a0 x27_2
            replace p16 := eq_true p16
            replace q16 := eq_true q16
            go_wp2
            go_roundg k2
            case measure => have := HJ1.out; have := HK2.out; omega
            case rel => exact ⟨(wrap64 (x27_2 + 1)), z56_, H', ⟨z62_⟩, z58_⟩
         ·rw [if_neg c17] at H
          have c17b0 : decide ((bt a0 x27_2) < 97) = false := decide_eq_false c17; clear c17
          by_cases c22 : (bt a0 x27_2) > 122
          ·rw [if_pos c22] at H
           have c22b0 : decide (122 < (bt a0 x27_2)) = true := decide_eq_true c22; clear c22
           by_cases c23 : (bt a0 x27_2) < 48
           ·rw [if_pos c23] at H
            have c23b0 : decide ((bt a0 x27_2) < 48) = true := decide_eq_true c23; clear c23
            by_cases c24 : (bt a0 x27_2) = 45
            ·rw [if_pos c24] at H
             have c24b0 : ((bt a0 x27_2) == 45) = true := beq_iff_eq.mpr c24
             have c24b1 : ((bt a0 x27_2) != 45) = false := bne_eq_false_iff_eq.mpr c24
             clear c24
             have H' := Aside0.mk H
             clear H
             have p16 : 0 ≤ (x27_2 : Int) := of_decide_eq_true z61_
             have q16 : x27_2 < (a0.size : Int) := of_decide_eq_true z61_
             have hx16 := bt_at a0 x27_2
             replace p16 := eq_true p16
             replace q16 := eq_true q16
             go_wp2
             go_roundg k2
             case measure => have := HJ1.out; have := HK2.out; omega
             case rel => exact ⟨(wrap64 (x27_2 + 1)), z56_, H', ⟨z62_⟩, z58_⟩
            ·rw [if_neg c24] at H
             have c24b0 : ((bt a0 x27_2) == 45) = false := beq_eq_false_iff_ne.mpr c24
             have c24b1 : ((bt a0 x27_2) != 45) = true := bne_iff_ne.mpr c24
             obtain rfl := Option.some.inj H
             have p16 : 0 ≤ (x27_2 : Int) := of_decide_eq_true z61_
             have q16 : x27_2 < (a0.size : Int) := of_decide_eq_true z61_
             have hx16 := bt_at a0 x27_2
             replace p16 := eq_true p16
             replace q16 := eq_true q16
             go_wp2
             go_ret
             exact ⟨z56_, z58_⟩
           ·rw [if_neg c23] at H
            have c23b0 : decide ((bt a0 x27_2) < 48) = false := decide_eq_false c23; clear c23
            by_cases c25 : (bt a0 x27_2) > 57
            ·rw [if_pos c25] at H
             have c25b0 : decide (57 < (bt a0 x27_2)) = true := decide_eq_true c25; clear c25
             by_cases c26 : (bt a0 x27_2) = 45
             ·rw [if_pos c26] at H
              have c26b0 : ((bt a0 x27_2) == 45) = true := beq_iff_eq.mpr c26
              have c26b1 : ((bt a0 x27_2) != 45) = false := bne_eq_false_iff_eq.mpr c26
              clear c26
              have H' := Aside0.mk H
              clear H
              have p16 : 0 ≤ (x27_2 : Int) := of_decide_eq_true z61_
              have q16 : x27_2 < (a0.size : Int) := of_decide_eq_true z61_
              have hx16 := bt_at a0 x27_2
              replace p16 := eq_true p16
              replace q16 := eq_true q16
              go_wp2
              go_roundg k2
              case measure => have := HJ1.out; have := HK2.out; omega
              case rel => exact ⟨(wrap64 (x27_2 + 1)), z56_, H', ⟨z62_⟩, z58_⟩
             ·rw [if_neg c26] at H
              have c26b0 : ((bt a0 x27_2) == 45) = false := beq_eq_false_iff_ne.mpr c26
              have c26b1 : ((bt a0 x27_2) != 45) = true := bne_iff_ne.mpr c26
              obtain rfl := Option.some.inj H
              have p16 : 0 ≤ (x27_2 : Int) := of_decide_eq_true z61_
              have q16 : x27_2 < (a0.size : Int) := of_decide_eq_true z61_
              have hx16 := bt_at a0 x27_2
              replace p16 := eq_true p16
              replace q16 := eq_true q16
              go_wp2
              go_ret
              exact ⟨z56_, z58_⟩
            ·rw [if_neg c25] at H
             have c25b0 : decide (57 < (bt a0 x27_2)) = false := decide_eq_false c25; clear c25
             have H' := Aside0.mk H
             clear H
             have p16 : 0 ≤ (x27_2 : Int) := of_decide_eq_true z61_
             have q16 : x27_2 < (a0.size : Int) := of_decide_eq_true z61_
             have hx16 := bt_at a0 x27_2
             replace p16 := eq_true p16
             replace q16 := eq_true q16
             go_wp2
             go_roundg k2
             case measure => have := HJ1.out; have := HK2.out; omega
             case rel => exact ⟨(wrap64 (x27_2 + 1)), z56_, H', ⟨z62_⟩, z58_⟩
          ·rw [if_neg c22] at H
           have c22b0 : decide (122 < (bt a0 x27_2)) = false := decide_eq_false c22; clear c22
           have H' := Aside0.mk H
           clear H
           have p16 : 0 ≤ (x27_2 : Int) := of_decide_eq_true z61_
           have q16 : x27_2 < (a0.size : Int) := of_decide_eq_true z61_
           have hx16 := bt_at a0 x27_2
           replace p16 := eq_true p16
           replace q16 := eq_true q16
           go_wp2
           go_roundg k2
           case measure => have := HJ1.out; have := HK2.out; omega
           case rel => exact ⟨(wrap64 (x27_2 + 1)), z56_, H', ⟨z62_⟩, z58_⟩
        ·rw [if_neg c15] at H
         exact absurd H (by simp)
       ·rw [if_neg c14] at H
        exact absurd H (by simp)
      ·rw [if_neg c13] at H
       have c13b0 : decide (x27_2 < (a0.size : Int)) = false := decide_eq_false c13; clear c13
       obtain rfl := Option.some.inj H
       go_wp2
       go_ret
       exact ⟨z56_, z58_⟩

def host_Default.f (a0 : ByteArray) : Option (Int) := if a0.toList = ([104, 116, 116, 112] : List UInt8) then (some 80) else (if a0.toList = ([104, 116, 116, 112, 115] : List UInt8) then (some 443) else (some 0))
set_option maxHeartbeats 8000000 in
set_option maxRecDepth 100000 in
theorem host_Default.calls (a0 : ByteArray) (r : Int) (w : World) (hG_ : GW w) (h : host_Default.f a0 = some r) :
  Calls Tryz.prog 106 #[.string a0] w fun e w' => e = .returned (.int .i64 r) ∧ Drawn0 w w' := by
 have H : (if a0.toList = ([104, 116, 116, 112] : List UInt8) then (some 80) else (if a0.toList = ([104, 116, 116, 112, 115] : List UInt8) then (some 443) else (some 0))) = some r := h
 clear h
 by_cases c2 : a0.toList = ([104, 116, 116, 112] : List UInt8)
 ·rw [if_pos c2] at H
  have c2b0 : (a0.toList == ([104, 116, 116, 112] : List UInt8)) = true := beq_iff_eq.mpr c2
  have c2b1 : (a0.toList != ([104, 116, 116, 112] : List UInt8)) = false := bne_eq_false_iff_eq.mpr c2
  clear c2
  obtain rfl := Option.some.inj H
  go_enter Tryz.func106, Tryz.ntmps106
  go_wp2
  go_ret
  exact ⟨z56_, z58_⟩
 ·rw [if_neg c2] at H
  have c2b0 : (a0.toList == ([104, 116, 116, 112] : List UInt8)) = false := beq_eq_false_iff_ne.mpr c2
  have c2b1 : (a0.toList != ([104, 116, 116, 112] : List UInt8)) = true := bne_iff_ne.mpr c2
  by_cases c3 : a0.toList = ([104, 116, 116, 112, 115] : List UInt8)
  ·rw [if_pos c3] at H
   have c3b0 : (a0.toList == ([104, 116, 116, 112, 115] : List UInt8)) = true := beq_iff_eq.mpr c3
   have c3b1 : (a0.toList != ([104, 116, 116, 112, 115] : List UInt8)) = false := bne_eq_false_iff_eq.mpr c3
   clear c3
   obtain rfl := Option.some.inj H
   go_enter Tryz.func106, Tryz.ntmps106
   go_wp2
   go_ret
   exact ⟨z56_, z58_⟩
  ·rw [if_neg c3] at H
   have c3b0 : (a0.toList == ([104, 116, 116, 112, 115] : List UInt8)) = false := beq_eq_false_iff_ne.mpr c3
   have c3b1 : (a0.toList != ([104, 116, 116, 112, 115] : List UInt8)) = true := bne_iff_ne.mpr c3
   obtain rfl := Option.some.inj H
   go_enter Tryz.func106, Tryz.ntmps106
   go_wp2
   go_ret
   exact ⟨z56_, z58_⟩

def pursuivantref05_letter.f (a0 : Int) : Option (Bool) := if a0 ≥ 97 then (if a0 ≤ 122 then (some true) else (if a0 ≥ 48 then (if a0 ≤ 57 then (some true) else (some (a0 == 45))) else (some (a0 == 45)))) else (if a0 ≥ 48 then (if a0 ≤ 57 then (some true) else (some (a0 == 45))) else (some (a0 == 45)))
set_option maxHeartbeats 8000000 in
set_option maxRecDepth 100000 in
theorem pursuivantref05_letter.calls (a0 : Int) (r : Bool) (w : World) (hG_ : GW w) (h : pursuivantref05_letter.f a0 = some r) :
  Calls Tryz.prog 110 #[.int .u8 a0] w fun e w' => e = .returned (.bool r) ∧ Drawn0 w w' := by
 have H : (if a0 ≥ 97 then (if a0 ≤ 122 then (some true) else (if a0 ≥ 48 then (if a0 ≤ 57 then (some true) else (some (a0 == 45))) else (some (a0 == 45)))) else (if a0 ≥ 48 then (if a0 ≤ 57 then (some true) else (some (a0 == 45))) else (some (a0 == 45)))) = some r := h
 clear h
 by_cases c2 : a0 ≥ 97
 ·rw [if_pos c2] at H
  have c2b0 : decide (97 ≤ a0) = true := decide_eq_true c2; clear c2
  by_cases c3 : a0 ≤ 122
  ·rw [if_pos c3] at H
   have c3b0 : decide (a0 ≤ 122) = true := decide_eq_true c3; clear c3
   obtain rfl := Option.some.inj H
   go_enter Tryz.func110, Tryz.ntmps110
   go_wp2
   go_ret
   exact ⟨z56_, z58_⟩
  ·rw [if_neg c3] at H
   have c3b0 : decide (a0 ≤ 122) = false := decide_eq_false c3; clear c3
   by_cases c4 : a0 ≥ 48
   ·rw [if_pos c4] at H
    have c4b0 : decide (48 ≤ a0) = true := decide_eq_true c4; clear c4
    by_cases c5 : a0 ≤ 57
    ·rw [if_pos c5] at H
     have c5b0 : decide (a0 ≤ 57) = true := decide_eq_true c5; clear c5
     obtain rfl := Option.some.inj H
     go_enter Tryz.func110, Tryz.ntmps110
     go_wp2
     go_ret
     exact ⟨z56_, z58_⟩
    ·rw [if_neg c5] at H
     have c5b0 : decide (a0 ≤ 57) = false := decide_eq_false c5; clear c5
     obtain rfl := Option.some.inj H
     go_enter Tryz.func110, Tryz.ntmps110
     go_wp2
     go_ret
     exact ⟨z56_, z58_⟩
   ·rw [if_neg c4] at H
    have c4b0 : decide (48 ≤ a0) = false := decide_eq_false c4; clear c4
    obtain rfl := Option.some.inj H
    go_enter Tryz.func110, Tryz.ntmps110
    go_wp2
    go_ret
    exact ⟨z56_, z58_⟩
 ·rw [if_neg c2] at H
  have c2b0 : decide (97 ≤ a0) = false := decide_eq_false c2; clear c2
  by_cases c6 : a0 ≥ 48
  ·rw [if_pos c6] at H
   have c6b0 : decide (48 ≤ a0) = true := decide_eq_true c6; clear c6
   by_cases c7 : a0 ≤ 57
   ·rw [if_pos c7] at H
    have c7b0 : decide (a0 ≤ 57) = true := decide_eq_true c7; clear c7
    obtain rfl := Option.some.inj H
    go_enter Tryz.func110, Tryz.ntmps110
    go_wp2
    go_ret
    exact ⟨z56_, z58_⟩
   ·rw [if_neg c7] at H
    have c7b0 : decide (a0 ≤ 57) = false := decide_eq_false c7; clear c7
    obtain rfl := Option.some.inj H
    go_enter Tryz.func110, Tryz.ntmps110
    go_wp2
    go_ret
    exact ⟨z56_, z58_⟩
  ·rw [if_neg c6] at H
   have c6b0 : decide (48 ≤ a0) = false := decide_eq_false c6; clear c6
   obtain rfl := Option.some.inj H
   go_enter Tryz.func110, Tryz.ntmps110
   go_wp2
   go_ret
   exact ⟨z56_, z58_⟩

mutual
def pursuivantref05_Good.l0 : Nat → ByteArray → Int → Int → Option (Bool)
 | 0, _, _, _ => none
 | k + 1, x0, x3, x4 => if x4 ≤ (x0.size : Int) then (if x4 < (x0.size : Int) then (if 0 ≤ x4 then (pursuivantref05_Good.j1 k x0 x3 x4 ((bt x0 x4) != 46)) else (none)) else (pursuivantref05_Good.j1 k x0 x3 x4 false)) else (some true)
def pursuivantref05_Good.j1 : Nat → ByteArray → Int → Int → Bool → Option (Bool)
 | 0, _, _, _, _ => none
 | k + 1, x0, x3, x4, x23 => if x23 = true then (if 0 ≤ x4 then (if x4 < (x0.size : Int) then ((pursuivantref05_letter.f (bt x0 x4)).bind fun t101 => (if t101 = true then (pursuivantref05_Good.l0 k x0 x3 (wrap64 (x4 + 1))) else (some false))) else (none)) else (none)) else (if x4 = x3 then (some false) else (if (wrap64 (x4 - x3)) > 63 then (some false) else (if 0 ≤ x3 then (if x3 < (x0.size : Int) then (if (bt x0 x3) = 45 then (some false) else (if 0 ≤ (wrap64 (x4 - 1)) then (if (wrap64 (x4 - 1)) < (x0.size : Int) then (if (bt x0 (wrap64 (x4 - 1))) = 45 then (some false) else (pursuivantref05_Good.l0 k x0 (wrap64 (x4 + 1)) (wrap64 (x4 + 1)))) else (none)) else (none))) else (none)) else (none))))
end
def pursuivantref05_Good.f (k : Nat) (a0 : ByteArray) : Option (Bool) := if (a0.size : Int) > 253 then (some false) else (pursuivantref05_Good.l0 k a0 0 0)
set_option maxHeartbeats 8000000 in
set_option maxRecDepth 100000 in
theorem pursuivantref05_Good.calls (k : Nat) (a0 : ByteArray) (r : Bool) (w : World) (hG_ : GW w) (h : pursuivantref05_Good.f k a0 = some r) :
  Calls Tryz.prog 70 #[.string a0] w fun e w' => e = .returned (.bool r) ∧ Drawn0 w w' := by
 have H : (if (a0.size : Int) > 253 then (some false) else (pursuivantref05_Good.l0 k a0 0 0)) = some r := h
 clear h
 by_cases c2 : (a0.size : Int) > 253
 ·rw [if_pos c2] at H
  have c2b0 : decide (253 < (a0.size : Int)) = true := decide_eq_true c2
  have c2b1 : decide (253 < a0.size) = true := decide_eq_true (by omega)
  clear c2
  obtain rfl := Option.some.inj H
  go_enter Tryz.func70, Tryz.ntmps70
  go_wp2
  go_ret
  exact ⟨z56_, z58_⟩
 ·rw [if_neg c2] at H
  have c2b0 : decide (253 < (a0.size : Int)) = false := decide_eq_false c2
  have c2b1 : decide (253 < a0.size) = false := decide_eq_false (by omega)
  clear c2
  have H' := Aside0.mk H
  clear H
  go_enter Tryz.func70, Tryz.ntmps70
  go_wp2
  go_loopg [3, 4] k (fun kq v3 v4 w' => ∃ (x3_1 x4_1 : Int), v3 = .int .i64 x3_1 ∧ v4 = .int .i64 x4_1 ∧ Aside0 (pursuivantref05_Good.l0 kq a0 x3_1 x4_1 = some r) ∧ Aside0 (kq ≤ k) ∧ Drawn0 w w')
  case atStart => exact ⟨(0), (0), z56_, z56_, H', ⟨Nat.le_refl _⟩, z58_⟩
  case round =>
   clear H'; (try clear c2); (try clear c2b0); (try clear c2b1)
   obtain ⟨x3_1, x4_1, rfl, rfl, HA, HK1, ⟨m1, rfl⟩⟩ := hrel
   cases gk with
   | zero => exact absurd HA.out (by simp [pursuivantref05_Good.l0])
   | succ k1 =>
    have H := HA.out
    clear HA
    simp only [pursuivantref05_Good.l0] at H
    by_cases c3 : x4_1 ≤ (a0.size : Int)
    ·rw [if_pos c3] at H
     have c3b0 : decide (x4_1 ≤ (a0.size : Int)) = true := decide_eq_true c3; clear c3; have HC4 := Aside0.mk H; clear H
     go_upto_region 7 with (fail)
     go_cut [23] (fun v23 wc => ∃ (kq : Nat) (x23_3 : Bool), v23 = .bool x23_3 ∧ Aside0 (pursuivantref05_Good.j1 kq a0 x3_1 x4_1 x23_3 = some r) ∧ Aside0 (kq ≤ k1) ∧ Drawn0 w wc)
     case first =>
      have H := HC4.out
      clear HC4
      by_cases c5 : x4_1 < (a0.size : Int)
      ·rw [if_pos c5] at H
       have c5b0 : decide (x4_1 < (a0.size : Int)) = true := decide_eq_true c5; clear c5
       (first | rw [c5b0] | (simp only [i64_w, i32_w]; rw [c5b0]) | skip)
       by_cases c6 : 0 ≤ x4_1
       ·rw [if_pos c6] at H
        have c6b0 : decide (0 ≤ x4_1) = true := decide_eq_true c6; clear c6
        have H' := Aside0.mk H
        clear H
        have p7 : 0 ≤ (x4_1 : Int) := of_decide_eq_true z61_
        have q7 : x4_1 < (a0.size : Int) := of_decide_eq_true z61_
        have hx7 := bt_at a0 x4_1
        replace p7 := eq_true p7
        replace q7 := eq_true q7
        go_wp2; go_meet
        case rel => exact ⟨_, (((bt a0 x4_1) != 46)), z56_, H', ⟨z59_⟩, z58_⟩
       ·rw [if_neg c6] at H
        exact absurd H (by simp)
      ·rw [if_neg c5] at H
       have c5b0 : decide (x4_1 < (a0.size : Int)) = false := decide_eq_false c5; clear c5
       (first | rw [c5b0] | (simp only [i64_w, i32_w]; rw [c5b0]) | skip)
       have H' := Aside0.mk H
       clear H; go_wp2; go_meet
       case rel => exact ⟨_, (false), z56_, H', ⟨z59_⟩, z58_⟩
     case rest =>
      clear HC4; (try clear c2); (try clear c2b0); (try clear c2b1); (try clear c3); (try clear c3b0)
      obtain ⟨kq, x23_3, rfl, HA, HJ3, ⟨mc3, rfl⟩⟩ := hcut
      cases kq with
      | zero => exact absurd HA.out (by simp [pursuivantref05_Good.j1])
      | succ kj3 =>
       have H := HA.out
       clear HA
       simp only [pursuivantref05_Good.j1] at H
       by_cases c8 : x23_3 = true
       ·subst c8
        have H1 : (if 0 ≤ x4_1 then (if x4_1 < (a0.size : Int) then ((pursuivantref05_letter.f (bt a0 x4_1)).bind fun t101 => (if t101 = true then (pursuivantref05_Good.l0 kj3 a0 x3_1 (wrap64 (x4_1 + 1))) else (some false))) else (none)) else (none)) = some r := by rw [if_pos rfl] at H; exact H
        clear H
        have H := H1
        clear H1
        by_cases c9 : 0 ≤ x4_1
        ·rw [if_pos c9] at H
         have c9b0 : decide (0 ≤ x4_1) = true := decide_eq_true c9; clear c9
         by_cases c10 : x4_1 < (a0.size : Int)
         ·rw [if_pos c10] at H
          have c10b0 : decide (x4_1 < (a0.size : Int)) = true := decide_eq_true c10; clear c10
          replace H := Option.bind_eq_some_iff.mp H
          obtain ⟨t101, A120, H⟩ := H
          replace H : (if t101 = true then (pursuivantref05_Good.l0 kj3 a0 x3_1 (wrap64 (x4_1 + 1))) else (some false)) = some r := H
          have A12 := Aside0.mk A120; clear A120
          by_cases c13 : t101 = true
          ·subst c13
           have H1 : (pursuivantref05_Good.l0 kj3 a0 x3_1 (wrap64 (x4_1 + 1))) = some r := by rw [if_pos rfl] at H; exact H
           clear H
           have H := H1
           clear H1
           have H' := Aside0.mk H
           clear H
           have p11 : 0 ≤ (x4_1 : Int) := of_decide_eq_true z61_
           have q11 : x4_1 < (a0.size : Int) := of_decide_eq_true z61_
           have hx11 := bt_at a0 x4_1
           replace p11 := eq_true p11
           replace q11 := eq_true q11
           go_wp2_with (first | ((with_reducible refine gate_callee (f := 110) rfl ?_); refine goesL_ (some 27) rfl rfl Tryz.func110 (by kernel_rfl) rfl #[.int .u8 (bt a0 x4_1)] rfl z22_ ?_; (with_reducible refine (pursuivantref05_letter.calls (bt a0 x4_1) true _ ?gw1_ A12.out).mono ?_); (case gw1_ => exact z5_); rintro e w' ⟨rfl, ⟨nd, rfl⟩⟩; refine ⟨_, rfl, ?_⟩))
           go_roundg kj3
           case measure => have := HK1.out; have := HJ3.out; omega
           case rel => exact ⟨(x3_1), (wrap64 (x4_1 + 1)), z56_, z56_, H', ⟨by have := HK1.out; have := HJ3.out; omega⟩, z58_⟩
          ·replace c13 := Bool.eq_false_iff.mpr c13
           subst c13
           have H1 : (some false) = some r := by rw [if_neg (show ¬ (false = true) by decide)] at H; exact H
           clear H
           have H := H1
           clear H1
           obtain rfl := Option.some.inj H
           have p11 : 0 ≤ (x4_1 : Int) := of_decide_eq_true z61_
           have q11 : x4_1 < (a0.size : Int) := of_decide_eq_true z61_
           have hx11 := bt_at a0 x4_1
           replace p11 := eq_true p11
           replace q11 := eq_true q11
           go_wp2_with (first | ((with_reducible refine gate_callee (f := 110) rfl ?_); refine goesL_ (some 27) rfl rfl Tryz.func110 (by kernel_rfl) rfl #[.int .u8 (bt a0 x4_1)] rfl z22_ ?_; (with_reducible refine (pursuivantref05_letter.calls (bt a0 x4_1) false _ ?gw2_ A12.out).mono ?_); (case gw2_ => exact z5_); rintro e w' ⟨rfl, ⟨nd, rfl⟩⟩; refine ⟨_, rfl, ?_⟩))
           go_ret
           exact ⟨z56_, z58_⟩
         ·rw [if_neg c10] at H
          exact absurd H (by simp)
        ·rw [if_neg c9] at H
         exact absurd H (by simp)
       ·replace c8 := Bool.eq_false_iff.mpr c8
        subst c8
        have H1 : (if x4_1 = x3_1 then (some false) else (if (wrap64 (x4_1 - x3_1)) > 63 then (some false) else (if 0 ≤ x3_1 then (if x3_1 < (a0.size : Int) then (if (bt a0 x3_1) = 45 then (some false) else (if 0 ≤ (wrap64 (x4_1 - 1)) then (if (wrap64 (x4_1 - 1)) < (a0.size : Int) then (if (bt a0 (wrap64 (x4_1 - 1))) = 45 then (some false) else (pursuivantref05_Good.l0 kj3 a0 (wrap64 (x4_1 + 1)) (wrap64 (x4_1 + 1)))) else (none)) else (none))) else (none)) else (none)))) = some r := by rw [if_neg (show ¬ (false = true) by decide)] at H; exact H
        clear H
        have H := H1
        clear H1
        by_cases c14 : x4_1 = x3_1
        ·rw [if_pos c14] at H
         have c14b0 : (x4_1 == x3_1) = true := beq_iff_eq.mpr c14
         have c14b1 : (x4_1 != x3_1) = false := bne_eq_false_iff_eq.mpr c14
         clear c14
         obtain rfl := Option.some.inj H
         go_wp2
         go_ret
         exact ⟨z56_, z58_⟩
        ·rw [if_neg c14] at H
         have c14b0 : (x4_1 == x3_1) = false := beq_eq_false_iff_ne.mpr c14
         have c14b1 : (x4_1 != x3_1) = true := bne_iff_ne.mpr c14
         by_cases c15 : (wrap64 (x4_1 - x3_1)) > 63
         ·rw [if_pos c15] at H
          have c15b0 : decide (63 < (wrap64 (x4_1 - x3_1))) = true := decide_eq_true c15; clear c15
          obtain rfl := Option.some.inj H
          go_wp2
          go_ret
          exact ⟨z56_, z58_⟩
         ·rw [if_neg c15] at H
          have c15b0 : decide (63 < (wrap64 (x4_1 - x3_1))) = false := decide_eq_false c15; clear c15
          by_cases c16 : 0 ≤ x3_1
          ·rw [if_pos c16] at H
           have c16b0 : decide (0 ≤ x3_1) = true := decide_eq_true c16; clear c16
           by_cases c17 : x3_1 < (a0.size : Int)
           ·rw [if_pos c17] at H
            have c17b0 : decide (x3_1 < (a0.size : Int)) = true := decide_eq_true c17; clear c17
            by_cases c19 : (bt a0 x3_1) = 45
            ·rw [if_pos c19] at H
             have c19b0 : ((bt a0 x3_1) == 45) = true := beq_iff_eq.mpr c19
             have c19b1 : ((bt a0 x3_1) != 45) = false := bne_eq_false_iff_eq.mpr c19
             clear c19
             obtain rfl := Option.some.inj H
             have p18 : 0 ≤ (x3_1 : Int) := of_decide_eq_true z61_
             have q18 : x3_1 < (a0.size : Int) := of_decide_eq_true z61_
             have hx18 := bt_at a0 x3_1
             replace p18 := eq_true p18
             replace q18 := eq_true q18
             go_wp2
             go_ret
             exact ⟨z56_, z58_⟩
            ·rw [if_neg c19] at H
             have c19b0 : ((bt a0 x3_1) == 45) = false := beq_eq_false_iff_ne.mpr c19
             have c19b1 : ((bt a0 x3_1) != 45) = true := bne_iff_ne.mpr c19
             obtain ⟨ji20, hji20⟩ : ∃ j_ : Int, (wrap64 (x4_1 - 1)) = j_ := ⟨_, rfl⟩
             replace H : (if 0 ≤ (ji20) then (if (ji20) < (a0.size : Int) then (if (bt a0 (ji20)) = 45 then (some false) else (pursuivantref05_Good.l0 kj3 a0 (wrap64 (x4_1 + 1)) (wrap64 (x4_1 + 1)))) else (none)) else (none)) = some r := by first | (rw [hji20] at H; exact H) | (simp only [hji20] at H ⊢; exact H)
             have hji20w : (IntKind.i64.wrap (x4_1 - 1)) = ji20 := (i64_w _).trans hji20
             by_cases c21 : 0 ≤ (ji20)
             ·rw [if_pos c21] at H
              have c21b0 : decide (0 ≤ (ji20)) = true := decide_eq_true c21; clear c21
              by_cases c22 : (ji20) < (a0.size : Int)
              ·rw [if_pos c22] at H
               have c22b0 : decide ((ji20) < (a0.size : Int)) = true := decide_eq_true c22; clear c22
               by_cases c24 : (bt a0 (ji20)) = 45
               ·rw [if_pos c24] at H
                have c24b0 : ((bt a0 (ji20)) == 45) = true := beq_iff_eq.mpr c24
                have c24b1 : ((bt a0 (ji20)) != 45) = false := bne_eq_false_iff_eq.mpr c24
                clear c24
                obtain rfl := Option.some.inj H
                have p18 : 0 ≤ (x3_1 : Int) := of_decide_eq_true z61_
                have q18 : x3_1 < (a0.size : Int) := of_decide_eq_true z61_
                have hx18 := bt_at a0 x3_1
                replace p18 := eq_true p18
                replace q18 := eq_true q18
                have p23 : 0 ≤ ((ji20) : Int) := of_decide_eq_true z61_
                have q23 : (ji20) < (a0.size : Int) := of_decide_eq_true z61_
                have hx23 := bt_at a0 (ji20)
                replace p23 := eq_true p23
                replace q23 := eq_true q23
                go_wp2
                go_ret
                exact ⟨by first | rfl | (simp [nil_bne, nil_beq]; done) | (simp; done) | (simp only [← hji20] <;> (first | rfl | simp)) | (simp [*]; done), z58_⟩
               ·rw [if_neg c24] at H
                have c24b0 : ((bt a0 (ji20)) == 45) = false := beq_eq_false_iff_ne.mpr c24
                have c24b1 : ((bt a0 (ji20)) != 45) = true := bne_iff_ne.mpr c24
                have H' := Aside0.mk H
                clear H
                have p18 : 0 ≤ (x3_1 : Int) := of_decide_eq_true z61_
                have q18 : x3_1 < (a0.size : Int) := of_decide_eq_true z61_
                have hx18 := bt_at a0 x3_1
                replace p18 := eq_true p18
                replace q18 := eq_true q18
                have p23 : 0 ≤ ((ji20) : Int) := of_decide_eq_true z61_
                have q23 : (ji20) < (a0.size : Int) := of_decide_eq_true z61_
                have hx23 := bt_at a0 (ji20)
                replace p23 := eq_true p23
                replace q23 := eq_true q23
                go_wp2
                go_roundg kj3
                case measure => have := HK1.out; have := HJ3.out; omega
                case rel => exact ⟨(wrap64 (x4_1 + 1)), (wrap64 (x4_1 + 1)), z56_, z56_, H', ⟨by have := HK1.out; have := HJ3.out; omega⟩, z58_⟩
              ·rw [if_neg c22] at H
               exact absurd H (by simp)
             ·rw [if_neg c21] at H
              exact absurd H (by simp)
           ·rw [if_neg c17] at H
            exact absurd H (by simp)
          ·rw [if_neg c16] at H
           exact absurd H (by simp)
    ·rw [if_neg c3] at H
     have c3b0 : decide (x4_1 ≤ (a0.size : Int)) = false := decide_eq_false c3; clear c3
     obtain rfl := Option.some.inj H
     go_wp2
     go_ret
     exact ⟨z56_, z58_⟩

def pursuivantref05_Default.f (a0 : ByteArray) : Option (Int) := if a0.toList = ([104, 116, 116, 112] : List UInt8) then (some 80) else (if a0.toList = ([104, 116, 116, 112, 115] : List UInt8) then (some 443) else (some 0))
set_option maxHeartbeats 8000000 in
set_option maxRecDepth 100000 in
theorem pursuivantref05_Default.calls (a0 : ByteArray) (r : Int) (w : World) (hG_ : GW w) (h : pursuivantref05_Default.f a0 = some r) :
  Calls Tryz.prog 69 #[.string a0] w fun e w' => e = .returned (.int .i64 r) ∧ Drawn0 w w' := by
 have H : (if a0.toList = ([104, 116, 116, 112] : List UInt8) then (some 80) else (if a0.toList = ([104, 116, 116, 112, 115] : List UInt8) then (some 443) else (some 0))) = some r := h
 clear h
 by_cases c2 : a0.toList = ([104, 116, 116, 112] : List UInt8)
 ·rw [if_pos c2] at H
  have c2b0 : (a0.toList == ([104, 116, 116, 112] : List UInt8)) = true := beq_iff_eq.mpr c2
  have c2b1 : (a0.toList != ([104, 116, 116, 112] : List UInt8)) = false := bne_eq_false_iff_eq.mpr c2
  clear c2
  obtain rfl := Option.some.inj H
  go_enter Tryz.func69, Tryz.ntmps69
  go_wp2
  go_ret
  exact ⟨z56_, z58_⟩
 ·rw [if_neg c2] at H
  have c2b0 : (a0.toList == ([104, 116, 116, 112] : List UInt8)) = false := beq_eq_false_iff_ne.mpr c2
  have c2b1 : (a0.toList != ([104, 116, 116, 112] : List UInt8)) = true := bne_iff_ne.mpr c2
  by_cases c3 : a0.toList = ([104, 116, 116, 112, 115] : List UInt8)
  ·rw [if_pos c3] at H
   have c3b0 : (a0.toList == ([104, 116, 116, 112, 115] : List UInt8)) = true := beq_iff_eq.mpr c3
   have c3b1 : (a0.toList != ([104, 116, 116, 112, 115] : List UInt8)) = false := bne_eq_false_iff_eq.mpr c3
   clear c3
   obtain rfl := Option.some.inj H
   go_enter Tryz.func69, Tryz.ntmps69
   go_wp2
   go_ret
   exact ⟨z56_, z58_⟩
  ·rw [if_neg c3] at H
   have c3b0 : (a0.toList == ([104, 116, 116, 112, 115] : List UInt8)) = false := beq_eq_false_iff_ne.mpr c3
   have c3b1 : (a0.toList != ([104, 116, 116, 112, 115] : List UInt8)) = true := bne_iff_ne.mpr c3
   obtain rfl := Option.some.inj H
   go_enter Tryz.func69, Tryz.ntmps69
   go_wp2
   go_ret
   exact ⟨z56_, z58_⟩

def url_clean.l0 : Nat → ByteArray → ByteArray → Int → Int → Option (Bool)
 | 0, _, _, _, _ => none
 | k + 1, x0, x1, x7, x8 => if x8 < x7 then (if 0 ≤ x8 then (if x8 < (x0.size : Int) then (if (bt x0 x8) < 33 then (some false) else (if (bt x0 x8) > 126 then (some false) else ((strings_IndexByte.f x1 (bt x0 x8)).bind fun t102 => (if t102 ≥ 0 then (some false) else (url_clean.l0 k x0 x1 x7 (wrap64 (x8 + 1))))))) else (none)) else (none)) else (some true)
def url_clean.f (k : Nat) (a0 a1 : ByteArray) : Option (Bool) := url_clean.l0 k a0 a1 (a0.size : Int) 0
set_option maxHeartbeats 8000000 in
set_option maxRecDepth 100000 in
theorem url_clean.calls (k : Nat) (a0 a1 : ByteArray) (r : Bool) (w : World) (hG_ : GW w) (h : url_clean.f k a0 a1 = some r) :
  Calls Tryz.prog 108 #[.string a0, .string a1] w fun e w' => e = .returned (.bool r) ∧ Drawn0 w w' := by
 have H : (url_clean.l0 k a0 a1 (a0.size : Int) 0) = some r := h
 clear h
 have H' := Aside0.mk H
 clear H
 go_enter Tryz.func108, Tryz.ntmps108
 go_wp2
 go_loopg [8] k (fun kq v8 w' => ∃ (x8_1 : Int), v8 = .int .i64 x8_1 ∧ Aside0 (url_clean.l0 kq a0 a1 (a0.size : Int) x8_1 = some r) ∧ Aside0 (kq ≤ k) ∧ Drawn0 w w')
 case atStart => exact ⟨(0), z56_, H', ⟨Nat.le_refl _⟩, z58_⟩
 case round =>
  clear H'
  obtain ⟨x8_1, rfl, HA, HK1, ⟨m1, rfl⟩⟩ := hrel
  cases gk with
  | zero => exact absurd HA.out (by simp [url_clean.l0])
  | succ k1 =>
   have H := HA.out
   clear HA
   simp only [url_clean.l0] at H
   by_cases c3 : x8_1 < (a0.size : Int)
   ·rw [if_pos c3] at H
    have c3b0 : decide (x8_1 < (a0.size : Int)) = true := decide_eq_true c3; clear c3
    by_cases c4 : 0 ≤ x8_1
    ·rw [if_pos c4] at H
     have c4b0 : decide (0 ≤ x8_1) = true := decide_eq_true c4; clear c4
     by_cases c5 : x8_1 < (a0.size : Int)
     ·rw [if_pos c5] at H
      have c5b0 : decide (x8_1 < (a0.size : Int)) = true := decide_eq_true c5; clear c5
      by_cases c7 : (bt a0 x8_1) < 33
      ·rw [if_pos c7] at H
       have c7b0 : decide ((bt a0 x8_1) < 33) = true := decide_eq_true c7; clear c7
       obtain rfl := Option.some.inj H
       have p6 : 0 ≤ (x8_1 : Int) := of_decide_eq_true z61_
       have q6 : x8_1 < (a0.size : Int) := of_decide_eq_true z61_
       have hx6 := bt_at a0 x8_1
       replace p6 := eq_true p6
       replace q6 := eq_true q6
       go_wp2
       go_ret
       exact ⟨z56_, z58_⟩
      ·rw [if_neg c7] at H
       have c7b0 : decide ((bt a0 x8_1) < 33) = false := decide_eq_false c7; clear c7
       by_cases c9 : (bt a0 x8_1) > 126
       ·rw [if_pos c9] at H
        have c9b0 : decide (126 < (bt a0 x8_1)) = true := decide_eq_true c9; clear c9
        obtain rfl := Option.some.inj H
        have p6 : 0 ≤ (x8_1 : Int) := of_decide_eq_true z61_
        have q6 : x8_1 < (a0.size : Int) := of_decide_eq_true z61_
        have hx6 := bt_at a0 x8_1
        replace p6 := eq_true p6
        replace q6 := eq_true q6
        have p8 : 0 ≤ (x8_1 : Int) := of_decide_eq_true z61_
        have q8 : x8_1 < (a0.size : Int) := of_decide_eq_true z61_
        have hx8 := bt_at a0 x8_1
        replace p8 := eq_true p8
        replace q8 := eq_true q8
        go_wp2
        go_ret
        exact ⟨z56_, z58_⟩
       ·rw [if_neg c9] at H
        have c9b0 : decide (126 < (bt a0 x8_1)) = false := decide_eq_false c9; clear c9
        replace H := Option.bind_eq_some_iff.mp H
        obtain ⟨t102, A110, H⟩ := H
        replace H : (if t102 ≥ 0 then (some false) else (url_clean.l0 k1 a0 a1 (a0.size : Int) (wrap64 (x8_1 + 1)))) = some r := H
        have A11 := Aside0.mk A110; clear A110
        by_cases c12 : t102 ≥ 0
        ·rw [if_pos c12] at H
         have c12b0 : decide (0 ≤ t102) = true := decide_eq_true c12; clear c12
         obtain rfl := Option.some.inj H
         have p6 : 0 ≤ (x8_1 : Int) := of_decide_eq_true z61_
         have q6 : x8_1 < (a0.size : Int) := of_decide_eq_true z61_
         have hx6 := bt_at a0 x8_1
         replace p6 := eq_true p6
         replace q6 := eq_true q6
         have p8 : 0 ≤ (x8_1 : Int) := of_decide_eq_true z61_
         have q8 : x8_1 < (a0.size : Int) := of_decide_eq_true z61_
         have hx8 := bt_at a0 x8_1
         replace p8 := eq_true p8
         replace q8 := eq_true q8
         have p10 : 0 ≤ (x8_1 : Int) := of_decide_eq_true z61_
         have q10 : x8_1 < (a0.size : Int) := of_decide_eq_true z61_
         have hx10 := bt_at a0 x8_1
         replace p10 := eq_true p10
         replace q10 := eq_true q10
         go_wp2_with (first | (go_at_call 102; (fail_if_success (have z_ := U_1)); have U_1 := trivial; (with_reducible refine (strings_IndexByte.calls a1 (bt a0 x8_1) t102 _ ?gw3_ A11.out).mono ?_); (case gw3_ => exact z5_); rintro e w' ⟨rfl, ⟨nd, rfl⟩⟩))
         go_ret
         exact ⟨z56_, z58_⟩
        ·rw [if_neg c12] at H
         have c12b0 : decide (0 ≤ t102) = false := decide_eq_false c12; clear c12
         have H' := Aside0.mk H
         clear H
         have p6 : 0 ≤ (x8_1 : Int) := of_decide_eq_true z61_
         have q6 : x8_1 < (a0.size : Int) := of_decide_eq_true z61_
         have hx6 := bt_at a0 x8_1
         replace p6 := eq_true p6
         replace q6 := eq_true q6
         have p8 : 0 ≤ (x8_1 : Int) := of_decide_eq_true z61_
         have q8 : x8_1 < (a0.size : Int) := of_decide_eq_true z61_
         have hx8 := bt_at a0 x8_1
         replace p8 := eq_true p8
         replace q8 := eq_true q8
         have p10 : 0 ≤ (x8_1 : Int) := of_decide_eq_true z61_
         have q10 : x8_1 < (a0.size : Int) := of_decide_eq_true z61_
         have hx10 := bt_at a0 x8_1
         replace p10 := eq_true p10
         replace q10 := eq_true q10
         go_wp2_with (first | (go_at_call 102; (fail_if_success (have z_ := U_2)); have U_2 := trivial; (with_reducible refine (strings_IndexByte.calls a1 (bt a0 x8_1) t102 _ ?gw4_ A11.out).mono ?_); (case gw4_ => exact z5_); rintro e w' ⟨rfl, ⟨nd, rfl⟩⟩))
         go_roundg k1
         case measure => have := HK1.out; omega
         case rel => exact ⟨(wrap64 (x8_1 + 1)), z56_, H', ⟨z66_⟩, z58_⟩
     ·rw [if_neg c5] at H
      exact absurd H (by simp)
    ·rw [if_neg c4] at H
     exact absurd H (by simp)
   ·rw [if_neg c3] at H
    have c3b0 : decide (x8_1 < (a0.size : Int)) = false := decide_eq_false c3; clear c3
    obtain rfl := Option.some.inj H
    go_wp2
    go_ret
    exact ⟨z56_, z58_⟩

mutual
def url_text.j0 : Nat → ByteArray → ByteArray → ByteArray → ByteArray → Int → ByteArray → Bool → ByteArray → Bool → ByteArray → Option (ByteArray)
 | 0, _, _, _, _, _, _, _, _, _, _ => none
 | k + 1, x3, x104000, x104001, x104002, x104003, x104004, x104005, x104006, x104007, x104008 => if x3.size + x104002.size ≤ 9223372036854775807 then (if x104003 = 0 then (url_text.j1 k (x3 ++ x104002) x104000 x104001 x104002 x104003 x104004 x104005 x104006 x104007 x104008) else ((strconv_Itoa.f x104003).bind fun t104 => (if 1 + t104.size ≤ 9223372036854775807 then (if (x3 ++ x104002).size + ((⟨#[58]⟩ : ByteArray) ++ t104).size ≤ 9223372036854775807 then (url_text.j1 k ((x3 ++ x104002) ++ ((⟨#[58]⟩ : ByteArray) ++ t104)) x104000 x104001 x104002 x104003 x104004 x104005 x104006 x104007 x104008) else (none)) else (none)))) else (none)
def url_text.j1 : Nat → ByteArray → ByteArray → ByteArray → ByteArray → Int → ByteArray → Bool → ByteArray → Bool → ByteArray → Option (ByteArray)
 | 0, _, _, _, _, _, _, _, _, _, _ => none
 | k + 1, x3, x104000, x104001, x104002, x104003, x104004, x104005, x104006, x104007, x104008 => if x3.size + x104004.size ≤ 9223372036854775807 then (if x104005 = true then (if 1 + x104006.size ≤ 9223372036854775807 then (if (x3 ++ x104004).size + ((⟨#[63]⟩ : ByteArray) ++ x104006).size ≤ 9223372036854775807 then (if x104007 = true then (if 1 + x104008.size ≤ 9223372036854775807 then (if ((x3 ++ x104004) ++ ((⟨#[63]⟩ : ByteArray) ++ x104006)).size + ((⟨#[35]⟩ : ByteArray) ++ x104008).size ≤ 9223372036854775807 then (some (((x3 ++ x104004) ++ ((⟨#[63]⟩ : ByteArray) ++ x104006)) ++ ((⟨#[35]⟩ : ByteArray) ++ x104008))) else (none)) else (none)) else (some ((x3 ++ x104004) ++ ((⟨#[63]⟩ : ByteArray) ++ x104006)))) else (none)) else (none)) else (if x104007 = true then (if 1 + x104008.size ≤ 9223372036854775807 then (if (x3 ++ x104004).size + ((⟨#[35]⟩ : ByteArray) ++ x104008).size ≤ 9223372036854775807 then (some ((x3 ++ x104004) ++ ((⟨#[35]⟩ : ByteArray) ++ x104008))) else (none)) else (none)) else (some (x3 ++ x104004)))) else (none)
end
def url_text.f (k : Nat) (a0_0 a0_1 a0_2 : ByteArray) (a0_3 : Int) (a0_4 : ByteArray) (a0_5 : Bool) (a0_6 : ByteArray) (a0_7 : Bool) (a0_8 : ByteArray) : Option (ByteArray) := if a0_0.size + 3 ≤ 9223372036854775807 then (if a0_1.toList = ([] : List UInt8) then (url_text.j0 k (a0_0 ++ (⟨#[58, 47, 47]⟩ : ByteArray)) a0_0 a0_1 a0_2 a0_3 a0_4 a0_5 a0_6 a0_7 a0_8) else (if a0_1.size + 1 ≤ 9223372036854775807 then (if (a0_0 ++ (⟨#[58, 47, 47]⟩ : ByteArray)).size + (a0_1 ++ (⟨#[64]⟩ : ByteArray)).size ≤ 9223372036854775807 then (url_text.j0 k ((a0_0 ++ (⟨#[58, 47, 47]⟩ : ByteArray)) ++ (a0_1 ++ (⟨#[64]⟩ : ByteArray))) a0_0 a0_1 a0_2 a0_3 a0_4 a0_5 a0_6 a0_7 a0_8) else (none)) else (none))) else (none)
set_option maxHeartbeats 8000000 in
set_option maxRecDepth 100000 in
theorem url_text.calls (k : Nat) (a0_0 a0_1 a0_2 : ByteArray) (a0_3 : Int) (a0_4 : ByteArray) (a0_5 : Bool) (a0_6 : ByteArray) (a0_7 : Bool) (a0_8 r : ByteArray) (w : World) (hG_ : GW w) (h : url_text.f k a0_0 a0_1 a0_2 a0_3 a0_4 a0_5 a0_6 a0_7 a0_8 = some r) :
  Calls Tryz.prog 109 #[.agg #[.string a0_0, .string a0_1, .string a0_2, .int .i64 a0_3, .string a0_4, .bool a0_5, .string a0_6, .bool a0_7, .string a0_8]] w fun e w' => e = .returned (.string r) ∧ Below w.heap.size w w' := by
 have hu67 := Tryz.underlying67
 have HB := Aside0.mk (Below.refl w.heap.size w)
 have H : (if a0_0.size + 3 ≤ 9223372036854775807 then (if a0_1.toList = ([] : List UInt8) then (url_text.j0 k (a0_0 ++ (⟨#[58, 47, 47]⟩ : ByteArray)) a0_0 a0_1 a0_2 a0_3 a0_4 a0_5 a0_6 a0_7 a0_8) else (if a0_1.size + 1 ≤ 9223372036854775807 then (if (a0_0 ++ (⟨#[58, 47, 47]⟩ : ByteArray)).size + (a0_1 ++ (⟨#[64]⟩ : ByteArray)).size ≤ 9223372036854775807 then (url_text.j0 k ((a0_0 ++ (⟨#[58, 47, 47]⟩ : ByteArray)) ++ (a0_1 ++ (⟨#[64]⟩ : ByteArray))) a0_0 a0_1 a0_2 a0_3 a0_4 a0_5 a0_6 a0_7 a0_8) else (none)) else (none))) else (none)) = some r := h
 clear h
 by_cases c2 : a0_0.size + 3 ≤ 9223372036854775807
 ·rw [if_pos c2] at H
  have c2b0 := eq_true c2; have c2b1 : decide (a0_0.size + 3 ≤ 9223372036854775807) = true := decide_eq_true c2
  try have c2b2 : (9223372036854775807 < a0_0.size + 3) = False := eq_false (Nat.not_lt.2 c2)
  have HC3 := Aside0.mk H; clear H
  go_enter Tryz.func109, Tryz.ntmps109
  go_upto_if 9 with (first | ((with_reducible refine gate_dst (N := 1) rfl ?_); refine box_event ?hg (N := 1) ?hd (cs := #[.string a0_0, .string a0_1, .string a0_2, .int .i64 a0_3, .string a0_4, .bool a0_5, .string a0_6, .bool a0_7, .string a0_8]) (t := 67) ?hr ?_; (case hd => rfl); (case hg => rfl); (case hr => first | (go_simp; done) | (go_simp; rfl)); intro gb103 hg w4 hbox hb; have n0_ := Aside0.mk (below_step z23_ hb); have n1_ := Aside0.mk (hbox); have n2_ := Aside0.mk ((by rw [hg]; exact (below_size z23_) : w.heap.size ≤ gb103)); have n3_ := Aside0.mk ((by rw [hg]; exact (below_size z23_) : w.heap.size ≤ gb103)); clear HB; have HB := n0_; have BK103 := n1_; have GW103 := n2_; have GE103 := n3_; clear n0_ n1_ n2_ n3_; clear hb hbox hg; have hcz5_0 : w4.cell? ⟨gb103, 0, none⟩ = some (.string a0_0) := (blk_cell BK103.out 0).trans rfl; have hcz5_1 : w4.cell? ⟨gb103, 1, none⟩ = some (.string a0_1) := (blk_cell BK103.out 1).trans rfl; have hcz5_2 : w4.cell? ⟨gb103, 2, none⟩ = some (.string a0_2) := (blk_cell BK103.out 2).trans rfl; have hcz5_3 : w4.cell? ⟨gb103, 3, none⟩ = some (.int .i64 a0_3) := (blk_cell BK103.out 3).trans rfl; have hcz5_4 : w4.cell? ⟨gb103, 4, none⟩ = some (.string a0_4) := (blk_cell BK103.out 4).trans rfl; have hcz5_5 : w4.cell? ⟨gb103, 5, none⟩ = some (.bool a0_5) := (blk_cell BK103.out 5).trans rfl; have hcz5_6 : w4.cell? ⟨gb103, 6, none⟩ = some (.string a0_6) := (blk_cell BK103.out 6).trans rfl; have hcz5_7 : w4.cell? ⟨gb103, 7, none⟩ = some (.bool a0_7) := (blk_cell BK103.out 7).trans rfl; have hcz5_8 : w4.cell? ⟨gb103, 8, none⟩ = some (.string a0_8) := (blk_cell BK103.out 8).trans rfl; have hfz5_0 := blk_frozen BK103.out 0; have hfz5_1 := blk_frozen BK103.out 1; have hfz5_2 := blk_frozen BK103.out 2; have hfz5_3 := blk_frozen BK103.out 3; have hfz5_4 := blk_frozen BK103.out 4; have hfz5_5 := blk_frozen BK103.out 5; have hfz5_6 := blk_frozen BK103.out 6; have hfz5_7 := blk_frozen BK103.out 7; have hfz5_8 := blk_frozen BK103.out 8))
  (try simp only [Act.put, List.setIfInBounds_toArray, List.set_cons_zero, List.set_cons_succ])
  go_cut [3] (fun v3 wc => ∃ (kq : Nat) (x3_2 : ByteArray), v3 = .string x3_2 ∧ Aside0 (url_text.j0 kq x3_2 a0_0 a0_1 a0_2 a0_3 a0_4 a0_5 a0_6 a0_7 a0_8 = some r) ∧ Aside0 (kq ≤ k) ∧ Aside0 (wc.heap[gb103]? = some (.cells #[.string a0_0, .string a0_1, .string a0_2, .int .i64 a0_3, .string a0_4, .bool a0_5, .string a0_6, .bool a0_7, .string a0_8] 67 (0, 0))) ∧ Aside0 (Below w.heap.size w wc))
  case first =>
   have H := HC3.out
   clear HC3
   by_cases c6 : a0_1.toList = ([] : List UInt8)
   ·rw [if_pos c6] at H
    have c6b0 : (a0_1.toList == ([] : List UInt8)) = true := beq_iff_eq.mpr c6
    try have c6e0 : a0_1.toList.isEmpty = true := by rw [← nil_beq]; exact c6b0
    have c6b1 : (a0_1.toList != ([] : List UInt8)) = false := bne_eq_false_iff_eq.mpr c6
    clear c6
    (first | rw [c6b0] | (simp only [i64_w, i32_w]; rw [c6b0]) | rw [c6e0] | skip)
    have H' := Aside0.mk H
    clear H; go_wp2; go_meet
    case rel => exact ⟨_, (a0_0 ++ (⟨#[58, 47, 47]⟩ : ByteArray)), z56_, H', ⟨z63_⟩, ⟨z31_⟩, ⟨z14_⟩⟩
   ·rw [if_neg c6] at H
    have c6b0 : (a0_1.toList == ([] : List UInt8)) = false := beq_eq_false_iff_ne.mpr c6
    try have c6e0 : a0_1.toList.isEmpty = false := by rw [← nil_beq]; exact c6b0
    have c6b1 : (a0_1.toList != ([] : List UInt8)) = true := bne_iff_ne.mpr c6
    (first | rw [c6b0] | (simp only [i64_w, i32_w]; rw [c6b0]) | rw [c6e0] | skip)
    by_cases c7 : a0_1.size + 1 ≤ 9223372036854775807
    ·rw [if_pos c7] at H
     have c7b0 := eq_true c7; have c7b1 : decide (a0_1.size + 1 ≤ 9223372036854775807) = true := decide_eq_true c7
     try have c7b2 : (9223372036854775807 < a0_1.size + 1) = False := eq_false (Nat.not_lt.2 c7)
     try have c7c0 : (9223372036854775807 ≤ a0_1.size) = False := eq_false (by omega)
     try have c7c1 : (a0_1.size < 9223372036854775807) = True := eq_true (by omega)
     by_cases c8 : (a0_0 ++ (⟨#[58, 47, 47]⟩ : ByteArray)).size + (a0_1 ++ (⟨#[64]⟩ : ByteArray)).size ≤ 9223372036854775807
     ·rw [if_pos c8] at H
      have c8b0 := eq_true c8
      try have c8m : ((a0_0.size + 3) + (a0_1.size + 1) ≤ 9223372036854775807) = True := by first | exact c8b0 | (have h_ := c8; simp only [ByteArray.size_append, Int.natCast_add] at h_; exact eq_true h_)
      have c8b1 : decide ((a0_0 ++ (⟨#[58, 47, 47]⟩ : ByteArray)).size + (a0_1 ++ (⟨#[64]⟩ : ByteArray)).size ≤ 9223372036854775807) = true := decide_eq_true c8
      try have c8b1n : decide ((a0_0.size + 3) + (a0_1.size + 1) ≤ 9223372036854775807) = true := by first | exact c8b1 | (have h_ := c8b1; simp only [ByteArray.size_append, Int.natCast_add] at h_; exact h_)
      try have c8b2 : (9223372036854775807 < (a0_0 ++ (⟨#[58, 47, 47]⟩ : ByteArray)).size + (a0_1 ++ (⟨#[64]⟩ : ByteArray)).size) = False := eq_false (Nat.not_lt.2 c8)
      try have c8b2n : (9223372036854775807 < (a0_0.size + 3) + (a0_1.size + 1)) = False := by first | exact c8b2 | (have h_ := c8b2; simp only [ByteArray.size_append, Int.natCast_add] at h_; exact h_)
      have H' := Aside0.mk H
      clear H; obtain ⟨hcz9_0, hcz9_1, hcz9_2, hcz9_3, hcz9_4, hcz9_5, hcz9_6, hcz9_7, hcz9_8⟩ := blkc9_ BK103.out; obtain ⟨hfz9_0, hfz9_1, hfz9_2, hfz9_3, hfz9_4, hfz9_5, hfz9_6, hfz9_7, hfz9_8⟩ := blkf9_ BK103.out; go_wp2; go_meet
      case rel => exact ⟨_, ((a0_0 ++ (⟨#[58, 47, 47]⟩ : ByteArray)) ++ (a0_1 ++ (⟨#[64]⟩ : ByteArray))), z56_, H', ⟨z63_⟩, ⟨z31_⟩, ⟨z14_⟩⟩
     ·rw [if_neg c8] at H
      exact absurd H (by simp)
    ·rw [if_neg c7] at H
     exact absurd H (by simp)
  case rest =>
   clear HC3; (try clear c2); (try clear c2b0); (try clear c2b1); (try clear c2b2); (try clear hcz5_0 hcz5_1 hcz5_2 hcz5_3 hcz5_4 hcz5_5 hcz5_6 hcz5_7 hcz5_8); (try clear hfz5_0 hfz5_1 hfz5_2 hfz5_3 hfz5_4 hfz5_5 hfz5_6 hfz5_7 hfz5_8)
   obtain ⟨kq, x3_2, rfl, HA, HJ2, BK103, HB⟩ := hcut
   cases kq with
   | zero => exact absurd HA.out (by simp [url_text.j0])
   | succ kj2 =>
    have H := HA.out
    clear HA
    simp only [url_text.j0] at H
    by_cases c10 : x3_2.size + a0_2.size ≤ 9223372036854775807
    ·rw [if_pos c10] at H
     have c10b0 := eq_true c10; have c10b1 : decide (x3_2.size + a0_2.size ≤ 9223372036854775807) = true := decide_eq_true c10
     try have c10b2 : (9223372036854775807 < x3_2.size + a0_2.size) = False := eq_false (Nat.not_lt.2 c10)
     have HC11 := Aside0.mk H; clear H; obtain ⟨hcz12_0, hcz12_1, hcz12_2, hcz12_3, hcz12_4, hcz12_5, hcz12_6, hcz12_7, hcz12_8⟩ := blkc9_ BK103.out; obtain ⟨hfz12_0, hfz12_1, hfz12_2, hfz12_3, hfz12_4, hfz12_5, hfz12_6, hfz12_7, hfz12_8⟩ := blkf9_ BK103.out
     go_upto_if 21 with (fail)
     go_cut [3] (fun v3 wc => ∃ (kq : Nat) (x3_10 : ByteArray), v3 = .string x3_10 ∧ Aside0 (url_text.j1 kq x3_10 a0_0 a0_1 a0_2 a0_3 a0_4 a0_5 a0_6 a0_7 a0_8 = some r) ∧ Aside0 (kq ≤ kj2) ∧ Aside0 (wc.heap[gb103]? = some (.cells #[.string a0_0, .string a0_1, .string a0_2, .int .i64 a0_3, .string a0_4, .bool a0_5, .string a0_6, .bool a0_7, .string a0_8] 67 (0, 0))) ∧ Aside0 (Below w.heap.size w wc))
     case first =>
      have H := HC11.out
      clear HC11
      by_cases c13 : a0_3 = 0
      ·rw [if_pos c13] at H
       have c13b0 : (a0_3 == 0) = true := beq_iff_eq.mpr c13
       have c13b1 : (a0_3 != 0) = false := bne_eq_false_iff_eq.mpr c13
       clear c13
       (first | rw [c13b0] | (simp only [i64_w, i32_w]; rw [c13b0]) | skip)
       have H' := Aside0.mk H
       clear H; go_wp2; go_meet
       case rel => exact ⟨_, (x3_2 ++ a0_2), z56_, H', ⟨z60_⟩, ⟨z31_⟩, ⟨z14_⟩⟩
      ·rw [if_neg c13] at H
       have c13b0 : (a0_3 == 0) = false := beq_eq_false_iff_ne.mpr c13
       have c13b1 : (a0_3 != 0) = true := bne_iff_ne.mpr c13
       (first | rw [c13b0] | (simp only [i64_w, i32_w]; rw [c13b0]) | skip)
       replace H := Option.bind_eq_some_iff.mp H
       obtain ⟨t104, A140, H⟩ := H
       replace H : (if 1 + t104.size ≤ 9223372036854775807 then (if (x3_2 ++ a0_2).size + ((⟨#[58]⟩ : ByteArray) ++ t104).size ≤ 9223372036854775807 then (url_text.j1 kj2 ((x3_2 ++ a0_2) ++ ((⟨#[58]⟩ : ByteArray) ++ t104)) a0_0 a0_1 a0_2 a0_3 a0_4 a0_5 a0_6 a0_7 a0_8) else (none)) else (none)) = some r := H
       have A14 := Aside0.mk A140; clear A140
       by_cases c15 : 1 + t104.size ≤ 9223372036854775807
       ·rw [if_pos c15] at H
        have c15b0 := eq_true c15; have c15b1 : decide (1 + t104.size ≤ 9223372036854775807) = true := decide_eq_true c15
        try have c15b2 : (9223372036854775807 < 1 + t104.size) = False := eq_false (Nat.not_lt.2 c15)
        try have c15c0 : (9223372036854775807 ≤ t104.size) = False := eq_false (by omega)
        try have c15c1 : (t104.size < 9223372036854775807) = True := eq_true (by omega)
        by_cases c16 : (x3_2 ++ a0_2).size + ((⟨#[58]⟩ : ByteArray) ++ t104).size ≤ 9223372036854775807
        ·rw [if_pos c16] at H
         have c16b0 := eq_true c16
         try have c16m : ((x3_2.size + a0_2.size) + (1 + t104.size) ≤ 9223372036854775807) = True := by first | exact c16b0 | (have h_ := c16; simp only [ByteArray.size_append, Int.natCast_add] at h_; exact eq_true h_)
         have c16b1 : decide ((x3_2 ++ a0_2).size + ((⟨#[58]⟩ : ByteArray) ++ t104).size ≤ 9223372036854775807) = true := decide_eq_true c16
         try have c16b1n : decide ((x3_2.size + a0_2.size) + (1 + t104.size) ≤ 9223372036854775807) = true := by first | exact c16b1 | (have h_ := c16b1; simp only [ByteArray.size_append, Int.natCast_add] at h_; exact h_)
         try have c16b2 : (9223372036854775807 < (x3_2 ++ a0_2).size + ((⟨#[58]⟩ : ByteArray) ++ t104).size) = False := eq_false (Nat.not_lt.2 c16)
         try have c16b2n : (9223372036854775807 < (x3_2.size + a0_2.size) + (1 + t104.size)) = False := by first | exact c16b2 | (have h_ := c16b2; simp only [ByteArray.size_append, Int.natCast_add] at h_; exact h_)
         have H' := Aside0.mk H
         clear H; obtain ⟨hcz17_0, hcz17_1, hcz17_2, hcz17_3, hcz17_4, hcz17_5, hcz17_6, hcz17_7, hcz17_8⟩ := blkc9_ BK103.out; obtain ⟨hfz17_0, hfz17_1, hfz17_2, hfz17_3, hfz17_4, hfz17_5, hfz17_6, hfz17_7, hfz17_8⟩ := blkf9_ BK103.out
         go_wp2_with (first | ((with_reducible refine gate_callee (f := 145) rfl ?_); refine goesL_ (some 25) rfl rfl Tryz.func145 (by kernel_rfl) rfl #[.int .i64 a0_3] rfl z22_ ?_; (with_reducible refine (strconv_Itoa.calls a0_3 t104 _ ?gw5_ A14.out).mono ?_); (case gw5_ => first | (with_reducible exact hG_) | ((with_reducible refine GW.below hG_ ?_); (repeat (first | (with_reducible exact HB.out) | (with_reducible apply below_alloc) | (with_reducible apply pw_below_drewN) | (with_reducible apply below_drew1) | (with_reducible apply below_drew) | (with_reducible exact Below.refl _ _) | (with_reducible refine below_set ?_ GE103.out))); done) | exact hG_ | (refine GW.below hG_ ?_; first | (with_reducible exact HB.out) | (repeat (first | (with_reducible first | exact HB.out | apply below_alloc | apply pw_below_drewN | apply below_drew1 | apply below_drew | exact Below.refl _ _) | exact HB.out))) | (apply GW.drewN; exact hG_) | (apply GW.drew; exact hG_)); rintro e w18 ⟨rfl, hb⟩; refine ⟨_, rfl, ?_⟩; have n0_ := Aside0.mk (blk_below (g := gb103) (o := .cells #[.string a0_0, .string a0_1, .string a0_2, .int .i64 a0_3, .string a0_4, .bool a0_5, .string a0_6, .bool a0_7, .string a0_8] 67 (0, 0)) z31_ hb); have n1_ := Aside0.mk (below_step z14_ hb); clear BK103; clear HB; have BK103 := n0_; have HB := n1_; clear n0_ n1_; (try clear hb); (try clear hb2); (try clear hk); (try clear hi)))
         go_meet
         case rel => exact ⟨_, ((x3_2 ++ a0_2) ++ ((⟨#[58]⟩ : ByteArray) ++ t104)), z56_, H', ⟨z60_⟩, ⟨z31_⟩, ⟨z14_⟩⟩
        ·rw [if_neg c16] at H
         exact absurd H (by simp)
       ·rw [if_neg c15] at H
        exact absurd H (by simp)
     case rest =>
      clear HC11; (try clear c2); (try clear c2b0); (try clear c2b1); (try clear c2b2); (try clear c10); (try clear c10b0); (try clear c10b1); (try clear c10b2); (try clear hcz12_0 hcz12_1 hcz12_2 hcz12_3 hcz12_4 hcz12_5 hcz12_6 hcz12_7 hcz12_8); (try clear hcz5_0 hcz5_1 hcz5_2 hcz5_3 hcz5_4 hcz5_5 hcz5_6 hcz5_7 hcz5_8); (try clear hfz12_0 hfz12_1 hfz12_2 hfz12_3 hfz12_4 hfz12_5 hfz12_6 hfz12_7 hfz12_8); (try clear hfz5_0 hfz5_1 hfz5_2 hfz5_3 hfz5_4 hfz5_5 hfz5_6 hfz5_7 hfz5_8)
      obtain ⟨kq, x3_10, rfl, HA, HJ10, BK103, HB⟩ := hcut
      cases kq with
      | zero => exact absurd HA.out (by simp [url_text.j1])
      | succ kj10 =>
       have H := HA.out
       clear HA
       simp only [url_text.j1] at H
       by_cases c19 : x3_10.size + a0_4.size ≤ 9223372036854775807
       ·rw [if_pos c19] at H
        have c19b0 := eq_true c19; have c19b1 : decide (x3_10.size + a0_4.size ≤ 9223372036854775807) = true := decide_eq_true c19
        try have c19b2 : (9223372036854775807 < x3_10.size + a0_4.size) = False := eq_false (Nat.not_lt.2 c19)
        by_cases c20 : a0_5 = true
        ·subst c20
         have H1 : (if 1 + a0_6.size ≤ 9223372036854775807 then (if (x3_10 ++ a0_4).size + ((⟨#[63]⟩ : ByteArray) ++ a0_6).size ≤ 9223372036854775807 then (if a0_7 = true then (if 1 + a0_8.size ≤ 9223372036854775807 then (if ((x3_10 ++ a0_4) ++ ((⟨#[63]⟩ : ByteArray) ++ a0_6)).size + ((⟨#[35]⟩ : ByteArray) ++ a0_8).size ≤ 9223372036854775807 then (some (((x3_10 ++ a0_4) ++ ((⟨#[63]⟩ : ByteArray) ++ a0_6)) ++ ((⟨#[35]⟩ : ByteArray) ++ a0_8))) else (none)) else (none)) else (some ((x3_10 ++ a0_4) ++ ((⟨#[63]⟩ : ByteArray) ++ a0_6)))) else (none)) else (none)) = some r := by rw [if_pos rfl] at H; exact H
         clear H
         have H := H1
         clear H1
         by_cases c21 : 1 + a0_6.size ≤ 9223372036854775807
         ·rw [if_pos c21] at H
          have c21b0 := eq_true c21; have c21b1 : decide (1 + a0_6.size ≤ 9223372036854775807) = true := decide_eq_true c21
          try have c21b2 : (9223372036854775807 < 1 + a0_6.size) = False := eq_false (Nat.not_lt.2 c21)
          try have c21c0 : (9223372036854775807 ≤ a0_6.size) = False := eq_false (by omega)
          try have c21c1 : (a0_6.size < 9223372036854775807) = True := eq_true (by omega)
          by_cases c22 : (x3_10 ++ a0_4).size + ((⟨#[63]⟩ : ByteArray) ++ a0_6).size ≤ 9223372036854775807
          ·rw [if_pos c22] at H
           have c22b0 := eq_true c22
           try have c22m : ((x3_10.size + a0_4.size) + (1 + a0_6.size) ≤ 9223372036854775807) = True := by first | exact c22b0 | (have h_ := c22; simp only [ByteArray.size_append, Int.natCast_add] at h_; exact eq_true h_)
           have c22b1 : decide ((x3_10 ++ a0_4).size + ((⟨#[63]⟩ : ByteArray) ++ a0_6).size ≤ 9223372036854775807) = true := decide_eq_true c22
           try have c22b1n : decide ((x3_10.size + a0_4.size) + (1 + a0_6.size) ≤ 9223372036854775807) = true := by first | exact c22b1 | (have h_ := c22b1; simp only [ByteArray.size_append, Int.natCast_add] at h_; exact h_)
           try have c22b2 : (9223372036854775807 < (x3_10 ++ a0_4).size + ((⟨#[63]⟩ : ByteArray) ++ a0_6).size) = False := eq_false (Nat.not_lt.2 c22)
           try have c22b2n : (9223372036854775807 < (x3_10.size + a0_4.size) + (1 + a0_6.size)) = False := by first | exact c22b2 | (have h_ := c22b2; simp only [ByteArray.size_append, Int.natCast_add] at h_; exact h_)
           by_cases c23 : a0_7 = true
           ·subst c23
            have H1 : (if 1 + a0_8.size ≤ 9223372036854775807 then (if ((x3_10 ++ a0_4) ++ ((⟨#[63]⟩ : ByteArray) ++ a0_6)).size + ((⟨#[35]⟩ : ByteArray) ++ a0_8).size ≤ 9223372036854775807 then (some (((x3_10 ++ a0_4) ++ ((⟨#[63]⟩ : ByteArray) ++ a0_6)) ++ ((⟨#[35]⟩ : ByteArray) ++ a0_8))) else (none)) else (none)) = some r := by rw [if_pos rfl] at H; exact H
            clear H
            have H := H1
            clear H1
            by_cases c24 : 1 + a0_8.size ≤ 9223372036854775807
            ·rw [if_pos c24] at H
             have c24b0 := eq_true c24; have c24b1 : decide (1 + a0_8.size ≤ 9223372036854775807) = true := decide_eq_true c24
             try have c24b2 : (9223372036854775807 < 1 + a0_8.size) = False := eq_false (Nat.not_lt.2 c24)
             try have c24c0 : (9223372036854775807 ≤ a0_8.size) = False := eq_false (by omega)
             try have c24c1 : (a0_8.size < 9223372036854775807) = True := eq_true (by omega)
             by_cases c25 : ((x3_10 ++ a0_4) ++ ((⟨#[63]⟩ : ByteArray) ++ a0_6)).size + ((⟨#[35]⟩ : ByteArray) ++ a0_8).size ≤ 9223372036854775807
             ·rw [if_pos c25] at H
              have c25b0 := eq_true c25
              try have c25m : ((x3_10.size + a0_4.size + (1 + a0_6.size)) + (1 + a0_8.size) ≤ 9223372036854775807) = True := by first | exact c25b0 | (have h_ := c25; simp only [ByteArray.size_append, Int.natCast_add] at h_; exact eq_true h_)
              have c25b1 : decide (((x3_10 ++ a0_4) ++ ((⟨#[63]⟩ : ByteArray) ++ a0_6)).size + ((⟨#[35]⟩ : ByteArray) ++ a0_8).size ≤ 9223372036854775807) = true := decide_eq_true c25
              try have c25b1n : decide ((x3_10.size + a0_4.size + (1 + a0_6.size)) + (1 + a0_8.size) ≤ 9223372036854775807) = true := by first | exact c25b1 | (have h_ := c25b1; simp only [ByteArray.size_append, Int.natCast_add] at h_; exact h_)
              try have c25b2 : (9223372036854775807 < ((x3_10 ++ a0_4) ++ ((⟨#[63]⟩ : ByteArray) ++ a0_6)).size + ((⟨#[35]⟩ : ByteArray) ++ a0_8).size) = False := eq_false (Nat.not_lt.2 c25)
              try have c25b2n : (9223372036854775807 < (x3_10.size + a0_4.size + (1 + a0_6.size)) + (1 + a0_8.size)) = False := by first | exact c25b2 | (have h_ := c25b2; simp only [ByteArray.size_append, Int.natCast_add] at h_; exact h_)
              obtain rfl := Option.some.inj H
              obtain ⟨hcz26_0, hcz26_1, hcz26_2, hcz26_3, hcz26_4, hcz26_5, hcz26_6, hcz26_7, hcz26_8⟩ := blkc9_ BK103.out; obtain ⟨hfz26_0, hfz26_1, hfz26_2, hfz26_3, hfz26_4, hfz26_5, hfz26_6, hfz26_7, hfz26_8⟩ := blkf9_ BK103.out; go_wp2
              go_ret
              exact ⟨z25_, z14_⟩
             ·rw [if_neg c25] at H
              exact absurd H (by simp)
            ·rw [if_neg c24] at H
             exact absurd H (by simp)
           ·replace c23 := Bool.eq_false_iff.mpr c23
            subst c23
            have H1 : (some ((x3_10 ++ a0_4) ++ ((⟨#[63]⟩ : ByteArray) ++ a0_6))) = some r := by rw [if_neg (show ¬ (false = true) by decide)] at H; exact H
            clear H
            have H := H1
            clear H1
            obtain rfl := Option.some.inj H
            obtain ⟨hcz27_0, hcz27_1, hcz27_2, hcz27_3, hcz27_4, hcz27_5, hcz27_6, hcz27_7, hcz27_8⟩ := blkc9_ BK103.out; obtain ⟨hfz27_0, hfz27_1, hfz27_2, hfz27_3, hfz27_4, hfz27_5, hfz27_6, hfz27_7, hfz27_8⟩ := blkf9_ BK103.out; go_wp2
            go_ret
            exact ⟨z25_, z14_⟩
          ·rw [if_neg c22] at H
           exact absurd H (by simp)
         ·rw [if_neg c21] at H
          exact absurd H (by simp)
        ·replace c20 := Bool.eq_false_iff.mpr c20
         subst c20
         have H1 : (if a0_7 = true then (if 1 + a0_8.size ≤ 9223372036854775807 then (if (x3_10 ++ a0_4).size + ((⟨#[35]⟩ : ByteArray) ++ a0_8).size ≤ 9223372036854775807 then (some ((x3_10 ++ a0_4) ++ ((⟨#[35]⟩ : ByteArray) ++ a0_8))) else (none)) else (none)) else (some (x3_10 ++ a0_4))) = some r := by rw [if_neg (show ¬ (false = true) by decide)] at H; exact H
         clear H
         have H := H1
         clear H1
         by_cases c28 : a0_7 = true
         ·subst c28
          have H1 : (if 1 + a0_8.size ≤ 9223372036854775807 then (if (x3_10 ++ a0_4).size + ((⟨#[35]⟩ : ByteArray) ++ a0_8).size ≤ 9223372036854775807 then (some ((x3_10 ++ a0_4) ++ ((⟨#[35]⟩ : ByteArray) ++ a0_8))) else (none)) else (none)) = some r := by rw [if_pos rfl] at H; exact H
          clear H
          have H := H1
          clear H1
          by_cases c29 : 1 + a0_8.size ≤ 9223372036854775807
          ·rw [if_pos c29] at H
           have c29b0 := eq_true c29; have c29b1 : decide (1 + a0_8.size ≤ 9223372036854775807) = true := decide_eq_true c29
           try have c29b2 : (9223372036854775807 < 1 + a0_8.size) = False := eq_false (Nat.not_lt.2 c29)
           try have c29c0 : (9223372036854775807 ≤ a0_8.size) = False := eq_false (by omega)
           try have c29c1 : (a0_8.size < 9223372036854775807) = True := eq_true (by omega)
           by_cases c30 : (x3_10 ++ a0_4).size + ((⟨#[35]⟩ : ByteArray) ++ a0_8).size ≤ 9223372036854775807
           ·rw [if_pos c30] at H
            have c30b0 := eq_true c30
            try have c30m : ((x3_10.size + a0_4.size) + (1 + a0_8.size) ≤ 9223372036854775807) = True := by first | exact c30b0 | (have h_ := c30; simp only [ByteArray.size_append, Int.natCast_add] at h_; exact eq_true h_)
            have c30b1 : decide ((x3_10 ++ a0_4).size + ((⟨#[35]⟩ : ByteArray) ++ a0_8).size ≤ 9223372036854775807) = true := decide_eq_true c30
            try have c30b1n : decide ((x3_10.size + a0_4.size) + (1 + a0_8.size) ≤ 9223372036854775807) = true := by first | exact c30b1 | (have h_ := c30b1; simp only [ByteArray.size_append, Int.natCast_add] at h_; exact h_)
            try have c30b2 : (9223372036854775807 < (x3_10 ++ a0_4).size + ((⟨#[35]⟩ : ByteArray) ++ a0_8).size) = False := eq_false (Nat.not_lt.2 c30)
            try have c30b2n : (9223372036854775807 < (x3_10.size + a0_4.size) + (1 + a0_8.size)) = False := by first | exact c30b2 | (have h_ := c30b2; simp only [ByteArray.size_append, Int.natCast_add] at h_; exact h_)
            obtain rfl := Option.some.inj H
            obtain ⟨hcz31_0, hcz31_1, hcz31_2, hcz31_3, hcz31_4, hcz31_5, hcz31_6, hcz31_7, hcz31_8⟩ := blkc9_ BK103.out; obtain ⟨hfz31_0, hfz31_1, hfz31_2, hfz31_3, hfz31_4, hfz31_5, hfz31_6, hfz31_7, hfz31_8⟩ := blkf9_ BK103.out; go_wp2
            go_ret
            exact ⟨z25_, z14_⟩
           ·rw [if_neg c30] at H
            exact absurd H (by simp)
          ·rw [if_neg c29] at H
           exact absurd H (by simp)
         ·replace c28 := Bool.eq_false_iff.mpr c28
          subst c28
          have H1 : (some (x3_10 ++ a0_4)) = some r := by rw [if_neg (show ¬ (false = true) by decide)] at H; exact H
          clear H
          have H := H1
          clear H1
          obtain rfl := Option.some.inj H
          obtain ⟨hcz32_0, hcz32_1, hcz32_2, hcz32_3, hcz32_4, hcz32_5, hcz32_6, hcz32_7, hcz32_8⟩ := blkc9_ BK103.out; obtain ⟨hfz32_0, hfz32_1, hfz32_2, hfz32_3, hfz32_4, hfz32_5, hfz32_6, hfz32_7, hfz32_8⟩ := blkf9_ BK103.out; go_wp2
          go_ret
          exact ⟨z25_, z14_⟩
       ·rw [if_neg c19] at H
        exact absurd H (by simp)
    ·rw [if_neg c10] at H
     exact absurd H (by simp)
 ·rw [if_neg c2] at H
  exact absurd H (by simp)

def pursuivantref04_Lower.l0 : Nat → ByteArray → List Int → Int → Option (ByteArray)
 | 0, _, _, _ => none
 | k + 1, x0, x3, x4 => if x4 < (x0.size : Int) then (if 0 ≤ x4 then (if (bt x0 x4) ≥ 65 then (if (bt x0 x4) ≤ 90 then (if x3.length < 140737488355328 then (pursuivantref04_Lower.l0 k x0 (x3 ++ [((bt x0 x4) + 32) % 256]) (wrap64 (x4 + 1))) else (none)) else (if x3.length < 140737488355328 then (pursuivantref04_Lower.l0 k x0 (x3 ++ [bt x0 x4]) (wrap64 (x4 + 1))) else (none))) else (if x3.length < 140737488355328 then (pursuivantref04_Lower.l0 k x0 (x3 ++ [bt x0 x4]) (wrap64 (x4 + 1))) else (none))) else (none)) else (some (strOfNums x3))
def pursuivantref04_Lower.f (k : Nat) (a0 : ByteArray) : Option (ByteArray) := pursuivantref04_Lower.l0 k a0 (([] : List Int)) 0
set_option maxHeartbeats 8000000 in
set_option maxRecDepth 100000 in
theorem pursuivantref04_Lower.calls (k : Nat) (a0 r : ByteArray) (w : World) (hG_ : GW w) (h : pursuivantref04_Lower.f k a0 = some r) :
  Calls Tryz.prog 37 #[.string a0] w fun e w' => e = .returned (.string r) ∧ Below w.heap.size w w' := by
 have HB := Aside0.mk (Below.refl w.heap.size w)
 have H : (pursuivantref04_Lower.l0 k a0 (([] : List Int)) 0) = some r := h
 clear h
 obtain ⟨y105, hy105⟩ : ∃ y_ : List Int, y_ = (([] : List Int)) := ⟨_, rfl⟩
 replace H : (pursuivantref04_Lower.l0 k a0 y105 0) = some r := by first | (rw [hy105]; with_reducible exact H) | (have H2_ := (Option.bind_some _ _).symm.trans H; rw [hy105]; with_reducible exact H2_) | (have H2_ := (Option.bind_some _ _).symm.trans H; with_reducible exact H2_) | with_reducible exact H | (rw [hy105]; exact H) | exact H
 have Ny105 := Aside0.mk hy105; clear hy105
 have H' := Aside0.mk H
 clear H
 go_enter Tryz.func37, Tryz.ntmps37
 go_wp2_with (first | ((with_reducible refine gate_dst (N := 6) rfl ?_); refine Kd.R_lit (Kd.int .u8) _ 5 ?hg (N := 6) ?hd (xs := ([] : List Int)) (inner := []) (ok := fun _ => True) (okp := fun _ => True) ?hr ?hp (fun _ hk => hk) trivial (Below.refl _ _) (Nat.le_refl _) (by simp) ?_; (case hd => rfl); (case hg => rfl); (case hr => first | (go_simp; done) | (go_simp; rfl)); (case hp => exact (Reps.none _ _)); intro v106 w2 ho3 hb hg_ hnew_; clear hg_ hnew_; (first | rw [← Ny105.out] at ho3 | (simp only [Int.reduceToNat] at ho3; rw [← Ny105.out] at ho3)); have n0_ := Aside0.mk (Kd.R_lower ho3 (below_size z23_)); have n1_ := Aside0.mk (below_step z23_ hb); clear HB; have HO107 := n0_; have HB := n1_; clear n0_ n1_; clear hb ho3))
 go_loopg [3, 4] k (fun kq v3 v4 w' => ∃ (x3_1 : List Int) (x4_1 : Int), v4 = .int .i64 x4_1 ∧ Aside0 (pursuivantref04_Lower.l0 kq a0 x3_1 x4_1 = some r) ∧ Aside0 (kq ≤ k) ∧ Aside0 (Kd.R (Kd.int .u8) 5 w' w.heap.size (fun _ => True) v3 x3_1) ∧ Aside0 (Below w.heap.size w w'))
 case atStart => exact ⟨(y105), (0), z56_, H', ⟨Nat.le_refl _⟩, ⟨by (with_reducible repeat (first | apply Kd.R_alloc | apply Kd.R_drewN | apply Kd.R_drew)); exact HO107.out⟩, ⟨z23_⟩⟩
 case round =>
  clear H'
  obtain ⟨x3_1, x4_1, rfl, HA, HK1, HO_3, HB⟩ := hrel
  cases gk with
  | zero => exact absurd HA.out (by simp [pursuivantref04_Lower.l0])
  | succ k1 =>
   have H := HA.out
   clear HA
   simp only [pursuivantref04_Lower.l0] at H
   by_cases c4 : x4_1 < (a0.size : Int)
   ·rw [if_pos c4] at H
    have c4b0 : decide (x4_1 < (a0.size : Int)) = true := decide_eq_true c4; clear c4
    by_cases c5 : 0 ≤ x4_1
    ·rw [if_pos c5] at H
     have c5b0 : decide (0 ≤ x4_1) = true := decide_eq_true c5; clear c5
     by_cases c7 : (bt a0 x4_1) ≥ 65
     ·rw [if_pos c7] at H
      have c7b0 : decide (65 ≤ (bt a0 x4_1)) = true := decide_eq_true c7; clear c7
      by_cases c8 : (bt a0 x4_1) ≤ 90
      ·rw [if_pos c8] at H
       have c8b0 : decide ((bt a0 x4_1) ≤ 90) = true := decide_eq_true c8; clear c8
       by_cases c9 : x3_1.length < 140737488355328
       ·rw [if_pos c9] at H
        have LMc9 := Aside0.mk c9; clear c9
        obtain ⟨y108, hy108⟩ : ∃ y_ : List Int, y_ = (x3_1 ++ [((bt a0 x4_1) + 32) % 256]) := ⟨_, rfl⟩
        replace H : (pursuivantref04_Lower.l0 k1 a0 y108 (wrap64 (x4_1 + 1))) = some r := by first | (rw [hy108]; with_reducible exact H) | (have H2_ := (Option.bind_some _ _).symm.trans H; rw [hy108]; with_reducible exact H2_) | (have H2_ := (Option.bind_some _ _).symm.trans H; with_reducible exact H2_) | with_reducible exact H | (rw [hy108]; exact H) | exact H
        have Ny108 := Aside0.mk hy108; clear hy108
        have H' := Aside0.mk H
        clear H
        have p6 : 0 ≤ (x4_1 : Int) := of_decide_eq_true z61_
        have q6 : x4_1 < (a0.size : Int) := of_decide_eq_true z61_
        have hx6 := bt_at a0 x4_1
        replace p6 := eq_true p6
        replace q6 := eq_true q6
        go_wp2_with (first | ((with_reducible refine gate_builtin (b := .append) (xs := #[.tmp 24, .tmp 26]) rfl ?_); at_builtin; refine Kd.R_append (Kd.int .u8) (w0 := w) w.heap.size rfl (.tmp 24) (.tmp 26) 22 5 (.int .u8 0) 1 rfl Tryz.underlying22 info5 rfl (by decide) (by omega) u3 x3_1 (((bt a0 x4_1) + 32) % 256) [.int .u8 (((bt a0 x4_1) + 32) % 256)] (fun _ => True) (fun _ => False) rfl rfl ?aP (fun _ hk => hk.elim) ?aF ?aO ?aB ?aS ?aL ?_; (case aP => exact rfl); (case aB => exact z23_); (case aF => exact (fun _ _ => trivial)); (case aO => exact z54_); (case aS => exact (below_size z23_)); (case aL => have := LMc9.out; omega); intro v109 w10 ho hb hg hat; rw [← Ny108.out] at ho; have n0_ := Aside0.mk (hb); have n1_ := Aside0.mk (ho); clear HB; clear HO_3; have HB := n0_; have HO110 := n1_; clear n0_ n1_; clear ho hb hg hat))
        go_roundg k1
        case measure => have := HK1.out; omega
        case rel => exact ⟨(y108), (wrap64 (x4_1 + 1)), z56_, H', ⟨z66_⟩, ⟨z41_⟩, ⟨z23_⟩⟩
       ·rw [if_neg c9] at H
        exact absurd H (by simp)
      ·rw [if_neg c8] at H
       have c8b0 : decide ((bt a0 x4_1) ≤ 90) = false := decide_eq_false c8; clear c8
       by_cases c11 : x3_1.length < 140737488355328
       ·rw [if_pos c11] at H
        have LMc11 := Aside0.mk c11; clear c11
        obtain ⟨y111, hy111⟩ : ∃ y_ : List Int, y_ = (x3_1 ++ [bt a0 x4_1]) := ⟨_, rfl⟩
        replace H : (pursuivantref04_Lower.l0 k1 a0 y111 (wrap64 (x4_1 + 1))) = some r := by first | (rw [hy111]; with_reducible exact H) | (have H2_ := (Option.bind_some _ _).symm.trans H; rw [hy111]; with_reducible exact H2_) | (have H2_ := (Option.bind_some _ _).symm.trans H; with_reducible exact H2_) | with_reducible exact H | (rw [hy111]; exact H) | exact H
        have Ny111 := Aside0.mk hy111; clear hy111
        have H' := Aside0.mk H
        clear H
        have p6 : 0 ≤ (x4_1 : Int) := of_decide_eq_true z61_
        have q6 : x4_1 < (a0.size : Int) := of_decide_eq_true z61_
        have hx6 := bt_at a0 x4_1
        replace p6 := eq_true p6
        replace q6 := eq_true q6
        go_wp2_with (first | ((with_reducible refine gate_builtin (b := .append) (xs := #[.tmp 24, .tmp 26]) rfl ?_); at_builtin; refine Kd.R_append (Kd.int .u8) (w0 := w) w.heap.size rfl (.tmp 24) (.tmp 26) 22 5 (.int .u8 0) 1 rfl Tryz.underlying22 info5 rfl (by decide) (by omega) u3 x3_1 (bt a0 x4_1) [.int .u8 (bt a0 x4_1)] (fun _ => True) (fun _ => False) rfl rfl ?aP (fun _ hk => hk.elim) ?aF ?aO ?aB ?aS ?aL ?_; (case aP => exact rfl); (case aB => exact z23_); (case aF => exact (fun _ _ => trivial)); (case aO => exact z54_); (case aS => exact (below_size z23_)); (case aL => have := LMc11.out; omega); intro v112 w12 ho hb hg hat; rw [← Ny111.out] at ho; have n0_ := Aside0.mk (hb); have n1_ := Aside0.mk (ho); clear HB; clear HO_3; have HB := n0_; have HO113 := n1_; clear n0_ n1_; clear ho hb hg hat))
        go_roundg k1
        case measure => have := HK1.out; omega
        case rel => exact ⟨(y111), (wrap64 (x4_1 + 1)), z56_, H', ⟨z66_⟩, ⟨by (with_reducible repeat (first | apply Kd.R_alloc | apply Kd.R_drewN | apply Kd.R_drew)); exact HO113.out⟩, ⟨z23_⟩⟩
       ·rw [if_neg c11] at H
        exact absurd H (by simp)
     ·rw [if_neg c7] at H
      have c7b0 : decide (65 ≤ (bt a0 x4_1)) = false := decide_eq_false c7; clear c7
      by_cases c13 : x3_1.length < 140737488355328
      ·rw [if_pos c13] at H
       have LMc13 := Aside0.mk c13; clear c13
       obtain ⟨y114, hy114⟩ : ∃ y_ : List Int, y_ = (x3_1 ++ [bt a0 x4_1]) := ⟨_, rfl⟩
       replace H : (pursuivantref04_Lower.l0 k1 a0 y114 (wrap64 (x4_1 + 1))) = some r := by first | (rw [hy114]; with_reducible exact H) | (have H2_ := (Option.bind_some _ _).symm.trans H; rw [hy114]; with_reducible exact H2_) | (have H2_ := (Option.bind_some _ _).symm.trans H; with_reducible exact H2_) | with_reducible exact H | (rw [hy114]; exact H) | exact H
       have Ny114 := Aside0.mk hy114; clear hy114
       have H' := Aside0.mk H
       clear H
       have p6 : 0 ≤ (x4_1 : Int) := of_decide_eq_true z61_
       have q6 : x4_1 < (a0.size : Int) := of_decide_eq_true z61_
       have hx6 := bt_at a0 x4_1
       replace p6 := eq_true p6
       replace q6 := eq_true q6
       go_wp2_with (first | ((with_reducible refine gate_builtin (b := .append) (xs := #[.tmp 24, .tmp 26]) rfl ?_); at_builtin; refine Kd.R_append (Kd.int .u8) (w0 := w) w.heap.size rfl (.tmp 24) (.tmp 26) 22 5 (.int .u8 0) 1 rfl Tryz.underlying22 info5 rfl (by decide) (by omega) u3 x3_1 (bt a0 x4_1) [.int .u8 (bt a0 x4_1)] (fun _ => True) (fun _ => False) rfl rfl ?aP (fun _ hk => hk.elim) ?aF ?aO ?aB ?aS ?aL ?_; (case aP => exact rfl); (case aB => exact z23_); (case aF => exact (fun _ _ => trivial)); (case aO => exact z54_); (case aS => exact (below_size z23_)); (case aL => have := LMc13.out; omega); intro v115 w14 ho hb hg hat; rw [← Ny114.out] at ho; have n0_ := Aside0.mk (hb); have n1_ := Aside0.mk (ho); clear HB; clear HO_3; have HB := n0_; have HO116 := n1_; clear n0_ n1_; clear ho hb hg hat))
       go_roundg k1
       case measure => have := HK1.out; omega
       case rel => exact ⟨(y114), (wrap64 (x4_1 + 1)), z56_, H', ⟨z66_⟩, ⟨by (with_reducible repeat (first | apply Kd.R_alloc | apply Kd.R_drewN | apply Kd.R_drew)); exact HO116.out⟩, ⟨z23_⟩⟩
      ·rw [if_neg c13] at H
       exact absurd H (by simp)
    ·rw [if_neg c5] at H
     exact absurd H (by simp)
   ·rw [if_neg c4] at H
    have c4b0 : decide (x4_1 < (a0.size : Int)) = false := decide_eq_false c4; clear c4
    obtain rfl := Option.some.inj H
    have hcv15 := own_string (P := Tryz.prog) Tryz.underlying22 Tryz.underlying5 Tryz.underlying9 (Kd.own_of_R HO_3.out)
    go_wp2
    go_ret
    exact ⟨z25_, z23_⟩

def pursuivantref06_bad.j0 : Nat → Int → Int → Bool → Option (Bool)
 | 0, _, _, _ => none
 | k + 1, x0, x1, x5 => if x5 = true then (some true) else (if x0 = 35 then (some (decide (x1 < 3))) else (if x0 = 63 then (some (decide (x1 < 2))) else (if x1 = 0 then (if x0 = 47 then (some true) else (some (x0 == 64))) else (some false))))
def pursuivantref06_bad.f (k : Nat) (a0 a1 : Int) : Option (Bool) := if a0 < 33 then (pursuivantref06_bad.j0 k a0 a1 true) else (if a0 > 126 then (pursuivantref06_bad.j0 k a0 a1 true) else (if a0 = 34 then (pursuivantref06_bad.j0 k a0 a1 true) else (if a0 = 60 then (pursuivantref06_bad.j0 k a0 a1 true) else (if a0 = 62 then (pursuivantref06_bad.j0 k a0 a1 true) else (if a0 = 92 then (pursuivantref06_bad.j0 k a0 a1 true) else (if a0 = 94 then (pursuivantref06_bad.j0 k a0 a1 true) else (if a0 = 96 then (pursuivantref06_bad.j0 k a0 a1 true) else (if a0 = 123 then (pursuivantref06_bad.j0 k a0 a1 true) else (if a0 = 124 then (pursuivantref06_bad.j0 k a0 a1 true) else (pursuivantref06_bad.j0 k a0 a1 (a0 == 125)))))))))))
theorem pursuivantref06_bad.mono_l : ∀ k, (∀ y0 y1 y2, LeO (pursuivantref06_bad.j0 k y0 y1 y2) (pursuivantref06_bad.j0 (k + 1) y0 y1 y2))
 | 0 => fun _ _ _ r h => by simp [pursuivantref06_bad.j0] at h
 | k + 1 => by
  have ih0 := pursuivantref06_bad.mono_l k
  ·intro y0 y1 y2
   unfold pursuivantref06_bad.j0
   repeat' first
   | (with_reducible exact ih0 _ _ _)
   | (with_reducible exact LeO.refl _)
   | (with_reducible exact LeO.none _)
   | (with_reducible refine LeO.ite ?_ ?_)
   | (with_reducible refine LeO.bind ?_ (fun _ => ?_))
   | exact ih0 _ _ _
   | exact LeO.none _
   | refine LeO.ite ?_ ?_
   | refine LeO.bind ?_ (fun _ => ?_)
theorem pursuivantref06_bad.mono : ∀ a0 a1 k, LeO (pursuivantref06_bad.f k a0 a1) (pursuivantref06_bad.f (k + 1) a0 a1) := by
 intro a0 a1 k
 have ih0 := pursuivantref06_bad.mono_l k
 unfold pursuivantref06_bad.f
 repeat' first
   | (with_reducible exact ih0 _ _ _)
   | (with_reducible exact LeO.refl _)
   | (with_reducible exact LeO.none _)
   | (with_reducible refine LeO.ite ?_ ?_)
   | (with_reducible refine LeO.bind ?_ (fun _ => ?_))
   | exact ih0 _ _ _
   | exact LeO.none _
   | refine LeO.ite ?_ ?_
   | refine LeO.bind ?_ (fun _ => ?_)
set_option maxHeartbeats 8000000 in
set_option maxRecDepth 100000 in
theorem pursuivantref06_bad.calls (k : Nat) (a0 a1 : Int) (r : Bool) (w : World) (hG_ : GW w) (h : pursuivantref06_bad.f k a0 a1 = some r) :
  Calls Tryz.prog 111 #[.int .u8 a0, .int .i64 a1] w fun e w' => e = .returned (.bool r) ∧ Drawn0 w w' := by
 have H : (if a0 < 33 then (pursuivantref06_bad.j0 k a0 a1 true) else (if a0 > 126 then (pursuivantref06_bad.j0 k a0 a1 true) else (if a0 = 34 then (pursuivantref06_bad.j0 k a0 a1 true) else (if a0 = 60 then (pursuivantref06_bad.j0 k a0 a1 true) else (if a0 = 62 then (pursuivantref06_bad.j0 k a0 a1 true) else (if a0 = 92 then (pursuivantref06_bad.j0 k a0 a1 true) else (if a0 = 94 then (pursuivantref06_bad.j0 k a0 a1 true) else (if a0 = 96 then (pursuivantref06_bad.j0 k a0 a1 true) else (if a0 = 123 then (pursuivantref06_bad.j0 k a0 a1 true) else (if a0 = 124 then (pursuivantref06_bad.j0 k a0 a1 true) else (pursuivantref06_bad.j0 k a0 a1 (a0 == 125)))))))))))) = some r := h
 clear h; have HC3 := Aside0.mk H; clear H
 go_enter Tryz.func111, Tryz.ntmps111
 go_upto_region 1 with (fail)
 go_cut [5] (fun v5 wc => ∃ (kq : Nat) (x5_2 : Bool), v5 = .bool x5_2 ∧ Aside0 (pursuivantref06_bad.j0 kq a0 a1 x5_2 = some r) ∧ Aside0 (kq ≤ k) ∧ Drawn0 w wc)
 case first =>
  have H := HC3.out
  clear HC3
  by_cases c4 : a0 < 33
  ·rw [if_pos c4] at H
   have c4b0 : decide (a0 < 33) = true := decide_eq_true c4; clear c4
   (first | rw [c4b0] | (simp only [i64_w, i32_w]; rw [c4b0]) | skip)
   have H' := Aside0.mk H
   clear H; go_wp2; go_meet
   case rel => exact ⟨_, (true), z56_, H', ⟨z63_⟩, z58_⟩
  ·rw [if_neg c4] at H
   have c4b0 : decide (a0 < 33) = false := decide_eq_false c4; clear c4
   (first | rw [c4b0] | (simp only [i64_w, i32_w]; rw [c4b0]) | skip)
   by_cases c5 : a0 > 126
   ·rw [if_pos c5] at H
    have c5b0 : decide (126 < a0) = true := decide_eq_true c5; clear c5
    have H' := Aside0.mk H
    clear H; go_wp2; go_meet
    case rel => exact ⟨_, (true), z56_, H', ⟨z63_⟩, z58_⟩
   ·rw [if_neg c5] at H
    have c5b0 : decide (126 < a0) = false := decide_eq_false c5; clear c5
    by_cases c6 : a0 = 34
    ·rw [if_pos c6] at H
     have c6b0 : (a0 == 34) = true := beq_iff_eq.mpr c6
     have c6b1 : (a0 != 34) = false := bne_eq_false_iff_eq.mpr c6
     clear c6
     have H' := Aside0.mk H
     clear H; go_wp2; go_meet
     case rel => exact ⟨_, (true), z56_, H', ⟨z63_⟩, z58_⟩
    ·rw [if_neg c6] at H
     have c6b0 : (a0 == 34) = false := beq_eq_false_iff_ne.mpr c6
     have c6b1 : (a0 != 34) = true := bne_iff_ne.mpr c6
     by_cases c7 : a0 = 60
     ·rw [if_pos c7] at H
      have c7b0 : (a0 == 60) = true := beq_iff_eq.mpr c7
      have c7b1 : (a0 != 60) = false := bne_eq_false_iff_eq.mpr c7
      clear c7
      have H' := Aside0.mk H
      clear H; go_wp2; go_meet
      case rel => exact ⟨_, (true), z56_, H', ⟨z63_⟩, z58_⟩
     ·rw [if_neg c7] at H
      have c7b0 : (a0 == 60) = false := beq_eq_false_iff_ne.mpr c7
      have c7b1 : (a0 != 60) = true := bne_iff_ne.mpr c7
      by_cases c8 : a0 = 62
      ·rw [if_pos c8] at H
       have c8b0 : (a0 == 62) = true := beq_iff_eq.mpr c8
       have c8b1 : (a0 != 62) = false := bne_eq_false_iff_eq.mpr c8
       clear c8
       have H' := Aside0.mk H
       clear H; go_wp2; go_meet
       case rel => exact ⟨_, (true), z56_, H', ⟨z63_⟩, z58_⟩
      ·rw [if_neg c8] at H
       have c8b0 : (a0 == 62) = false := beq_eq_false_iff_ne.mpr c8
       have c8b1 : (a0 != 62) = true := bne_iff_ne.mpr c8
       by_cases c9 : a0 = 92
       ·rw [if_pos c9] at H
        have c9b0 : (a0 == 92) = true := beq_iff_eq.mpr c9
        have c9b1 : (a0 != 92) = false := bne_eq_false_iff_eq.mpr c9
        clear c9
        have H' := Aside0.mk H
        clear H; go_wp2; go_meet
        case rel => exact ⟨_, (true), z56_, H', ⟨z63_⟩, z58_⟩
       ·rw [if_neg c9] at H
        have c9b0 : (a0 == 92) = false := beq_eq_false_iff_ne.mpr c9
        have c9b1 : (a0 != 92) = true := bne_iff_ne.mpr c9
        by_cases c10 : a0 = 94
        ·rw [if_pos c10] at H
         have c10b0 : (a0 == 94) = true := beq_iff_eq.mpr c10
         have c10b1 : (a0 != 94) = false := bne_eq_false_iff_eq.mpr c10
         clear c10
         have H' := Aside0.mk H
         clear H; go_wp2; go_meet
         case rel => exact ⟨_, (true), z56_, H', ⟨z63_⟩, z58_⟩
        ·rw [if_neg c10] at H
         have c10b0 : (a0 == 94) = false := beq_eq_false_iff_ne.mpr c10
         have c10b1 : (a0 != 94) = true := bne_iff_ne.mpr c10
         by_cases c11 : a0 = 96
         ·rw [if_pos c11] at H
          have c11b0 : (a0 == 96) = true := beq_iff_eq.mpr c11
          have c11b1 : (a0 != 96) = false := bne_eq_false_iff_eq.mpr c11
          clear c11
          have H' := Aside0.mk H
          clear H; go_wp2; go_meet
          case rel => exact ⟨_, (true), z56_, H', ⟨z63_⟩, z58_⟩
         ·rw [if_neg c11] at H
          have c11b0 : (a0 == 96) = false := beq_eq_false_iff_ne.mpr c11
          have c11b1 : (a0 != 96) = true := bne_iff_ne.mpr c11
          by_cases c12 : a0 = 123
          ·rw [if_pos c12] at H
           have c12b0 : (a0 == 123) = true := beq_iff_eq.mpr c12
           have c12b1 : (a0 != 123) = false := bne_eq_false_iff_eq.mpr c12
           clear c12
           have H' := Aside0.mk H
           clear H; go_wp2; go_meet
           case rel => exact ⟨_, (true), z56_, H', ⟨z63_⟩, z58_⟩
          ·rw [if_neg c12] at H
           have c12b0 : (a0 == 123) = false := beq_eq_false_iff_ne.mpr c12
           have c12b1 : (a0 != 123) = true := bne_iff_ne.mpr c12
           by_cases c13 : a0 = 124
           ·rw [if_pos c13] at H
            have c13b0 : (a0 == 124) = true := beq_iff_eq.mpr c13
            have c13b1 : (a0 != 124) = false := bne_eq_false_iff_eq.mpr c13
            clear c13
            have H' := Aside0.mk H
            clear H; go_wp2; go_meet
            case rel => exact ⟨_, (true), z56_, H', ⟨z63_⟩, z58_⟩
           ·rw [if_neg c13] at H
            have c13b0 : (a0 == 124) = false := beq_eq_false_iff_ne.mpr c13
            have c13b1 : (a0 != 124) = true := bne_iff_ne.mpr c13
            have H' := Aside0.mk H
            clear H; go_wp2; go_meet
            case rel => exact ⟨_, ((a0 == 125)), z56_, H', ⟨z63_⟩, z58_⟩
 case rest =>
  clear HC3
  obtain ⟨kq, x5_2, rfl, HA, HJ2, ⟨mc2, rfl⟩⟩ := hcut
  cases kq with
  | zero => exact absurd HA.out (by simp [pursuivantref06_bad.j0])
  | succ kj2 =>
   have H := HA.out
   clear HA
   simp only [pursuivantref06_bad.j0] at H
   by_cases c14 : x5_2 = true
   ·subst c14
    have H1 : (some true) = some r := by rw [if_pos rfl] at H; exact H
    clear H
    have H := H1
    clear H1
    obtain rfl := Option.some.inj H
    go_wp2
    go_ret
    exact ⟨z56_, z58_⟩
   ·replace c14 := Bool.eq_false_iff.mpr c14
    subst c14
    have H1 : (if a0 = 35 then (some (decide (a1 < 3))) else (if a0 = 63 then (some (decide (a1 < 2))) else (if a1 = 0 then (if a0 = 47 then (some true) else (some (a0 == 64))) else (some false)))) = some r := by rw [if_neg (show ¬ (false = true) by decide)] at H; exact H
    clear H
    have H := H1
    clear H1
    by_cases c15 : a0 = 35
    ·rw [if_pos c15] at H
     have c15b0 : (a0 == 35) = true := beq_iff_eq.mpr c15
     have c15b1 : (a0 != 35) = false := bne_eq_false_iff_eq.mpr c15
     clear c15
     obtain rfl := Option.some.inj H
     go_wp2
     go_ret
     exact ⟨z56_, z58_⟩
    ·rw [if_neg c15] at H
     have c15b0 : (a0 == 35) = false := beq_eq_false_iff_ne.mpr c15
     have c15b1 : (a0 != 35) = true := bne_iff_ne.mpr c15
     by_cases c16 : a0 = 63
     ·rw [if_pos c16] at H
      have c16b0 : (a0 == 63) = true := beq_iff_eq.mpr c16
      have c16b1 : (a0 != 63) = false := bne_eq_false_iff_eq.mpr c16
      clear c16
      obtain rfl := Option.some.inj H
      go_wp2
      go_ret
      exact ⟨z56_, z58_⟩
     ·rw [if_neg c16] at H
      have c16b0 : (a0 == 63) = false := beq_eq_false_iff_ne.mpr c16
      have c16b1 : (a0 != 63) = true := bne_iff_ne.mpr c16
      by_cases c17 : a1 = 0
      ·rw [if_pos c17] at H
       have c17b0 : (a1 == 0) = true := beq_iff_eq.mpr c17
       have c17b1 : (a1 != 0) = false := bne_eq_false_iff_eq.mpr c17
       clear c17
       by_cases c18 : a0 = 47
       ·rw [if_pos c18] at H
        have c18b0 : (a0 == 47) = true := beq_iff_eq.mpr c18
        have c18b1 : (a0 != 47) = false := bne_eq_false_iff_eq.mpr c18
        clear c18
        obtain rfl := Option.some.inj H
        go_wp2
        go_ret
        exact ⟨z56_, z58_⟩
       ·rw [if_neg c18] at H
        have c18b0 : (a0 == 47) = false := beq_eq_false_iff_ne.mpr c18
        have c18b1 : (a0 != 47) = true := bne_iff_ne.mpr c18
        obtain rfl := Option.some.inj H
        go_wp2
        go_ret
        exact ⟨z56_, z58_⟩
      ·rw [if_neg c17] at H
       have c17b0 : (a1 == 0) = false := beq_eq_false_iff_ne.mpr c17
       have c17b1 : (a1 != 0) = true := bne_iff_ne.mpr c17
       obtain rfl := Option.some.inj H
       go_wp2
       go_ret
       exact ⟨z56_, z58_⟩

def pursuivantref06_clean.l0 : Nat → ByteArray → Int → Int → Option (Bool)
 | 0, _, _, _ => none
 | k + 1, x0, x1, x5 => if x5 < (x0.size : Int) then (if 0 ≤ x5 then ((pursuivantref06_bad.f k (bt x0 x5) x1).bind fun t117 => (if t117 = true then (some false) else (pursuivantref06_clean.l0 k x0 x1 (wrap64 (x5 + 1))))) else (none)) else (some true)
def pursuivantref06_clean.f (k : Nat) (a0 : ByteArray) (a1 : Int) : Option (Bool) := pursuivantref06_clean.l0 k a0 a1 0
set_option maxHeartbeats 8000000 in
set_option maxRecDepth 100000 in
theorem pursuivantref06_clean.calls (k : Nat) (a0 : ByteArray) (a1 : Int) (r : Bool) (w : World) (hG_ : GW w) (h : pursuivantref06_clean.f k a0 a1 = some r) :
  Calls Tryz.prog 71 #[.string a0, .int .i64 a1] w fun e w' => e = .returned (.bool r) ∧ Drawn0 w w' := by
 have H : (pursuivantref06_clean.l0 k a0 a1 0) = some r := h
 clear h
 have H' := Aside0.mk H
 clear H
 go_enter Tryz.func71, Tryz.ntmps71
 go_wp2
 go_loopg [5] k (fun kq v5 w' => ∃ (x5_1 : Int), v5 = .int .i64 x5_1 ∧ Aside0 (pursuivantref06_clean.l0 kq a0 a1 x5_1 = some r) ∧ Aside0 (kq ≤ k) ∧ Drawn0 w w')
 case atStart => exact ⟨(0), z56_, H', ⟨Nat.le_refl _⟩, z58_⟩
 case round =>
  clear H'
  obtain ⟨x5_1, rfl, HA, HK1, ⟨m1, rfl⟩⟩ := hrel
  cases gk with
  | zero => exact absurd HA.out (by simp [pursuivantref06_clean.l0])
  | succ k1 =>
   have H := HA.out
   clear HA
   simp only [pursuivantref06_clean.l0] at H
   by_cases c3 : x5_1 < (a0.size : Int)
   ·rw [if_pos c3] at H
    have c3b0 : decide (x5_1 < (a0.size : Int)) = true := decide_eq_true c3; clear c3
    by_cases c4 : 0 ≤ x5_1
    ·rw [if_pos c4] at H
     have c4b0 : decide (0 ≤ x5_1) = true := decide_eq_true c4; clear c4
     replace H := Option.bind_eq_some_iff.mp H
     obtain ⟨t117, A60, H⟩ := H
     replace H : (if t117 = true then (some false) else (pursuivantref06_clean.l0 k1 a0 a1 (wrap64 (x5_1 + 1)))) = some r := H
     have A6 := Aside0.mk A60; clear A60
     by_cases c7 : t117 = true
     ·subst c7
      have H1 : (some false) = some r := by rw [if_pos rfl] at H; exact H
      clear H
      have H := H1
      clear H1
      obtain rfl := Option.some.inj H
      have p5 : 0 ≤ (x5_1 : Int) := of_decide_eq_true z61_
      have q5 : x5_1 < (a0.size : Int) := of_decide_eq_true z61_
      have hx5 := bt_at a0 x5_1
      replace p5 := eq_true p5
      replace q5 := eq_true q5
      go_wp2_with (first | ((with_reducible refine gate_callee (f := 111) rfl ?_); refine goesL_ (some 16) rfl rfl Tryz.func111 (by kernel_rfl) rfl #[.int .u8 (bt a0 x5_1), .int .i64 a1] rfl z22_ ?_; (with_reducible refine (pursuivantref06_bad.calls k1 (bt a0 x5_1) a1 true _ ?gw6_ A6.out).mono ?_); (case gw6_ => exact z5_); rintro e w' ⟨rfl, ⟨nd, rfl⟩⟩; refine ⟨_, rfl, ?_⟩))
      go_ret
      exact ⟨z56_, z58_⟩
     ·replace c7 := Bool.eq_false_iff.mpr c7
      subst c7
      have H1 : (pursuivantref06_clean.l0 k1 a0 a1 (wrap64 (x5_1 + 1))) = some r := by rw [if_neg (show ¬ (false = true) by decide)] at H; exact H
      clear H
      have H := H1
      clear H1
      have H' := Aside0.mk H
      clear H
      have p5 : 0 ≤ (x5_1 : Int) := of_decide_eq_true z61_
      have q5 : x5_1 < (a0.size : Int) := of_decide_eq_true z61_
      have hx5 := bt_at a0 x5_1
      replace p5 := eq_true p5
      replace q5 := eq_true q5
      go_wp2_with (first | ((with_reducible refine gate_callee (f := 111) rfl ?_); refine goesL_ (some 16) rfl rfl Tryz.func111 (by kernel_rfl) rfl #[.int .u8 (bt a0 x5_1), .int .i64 a1] rfl z22_ ?_; (with_reducible refine (pursuivantref06_bad.calls k1 (bt a0 x5_1) a1 false _ ?gw7_ A6.out).mono ?_); (case gw7_ => exact z5_); rintro e w' ⟨rfl, ⟨nd, rfl⟩⟩; refine ⟨_, rfl, ?_⟩))
      go_roundg k1
      case measure => have := HK1.out; omega
      case rel => exact ⟨(wrap64 (x5_1 + 1)), z56_, H', ⟨z66_⟩, z58_⟩
    ·rw [if_neg c4] at H
     exact absurd H (by simp)
   ·rw [if_neg c3] at H
    have c3b0 : decide (x5_1 < (a0.size : Int)) = false := decide_eq_false c3; clear c3
    obtain rfl := Option.some.inj H
    go_wp2
    go_ret
    exact ⟨z56_, z58_⟩

def pursuivantref06_Digits.f : Nat → Int → Option (ByteArray)
 | 0, _ => none
 | k + 1, a0 => if a0 < 10 then (some (strOfNums (([(wrap64 (48 + a0)) % 256] : List Int)))) else ((pursuivantref06_Digits.f k (wrap64 (Int.tdiv a0 10))).bind fun t121 => ((some (([(wrap64 (48 + (Int.tmod a0 10))) % 256] : List Int) : List Int)).bind fun y122 => (if t121.size + (strOfNums y122).size ≤ 9223372036854775807 then (some (t121 ++ (strOfNums y122))) else (none))))
def pursuivantref06_Digits.T3 : Bool × List (List Nat × List Nat) := (true, [([], []), ([0], [0]), ([1], [1]), ([], []), ([3], [3]), ([4], [4]), ([5], [5]), ([6], [6]), ([7], [7]), ([2, 8], [2, 8]), ([9, 2, 0, 1, 2, 3, 4, 5, 6, 7, 8, 9], [9])])
def pursuivantref06_Digits.B3 : List Nat := [0, 1, 3, 0, 8, 24, 56, 120, 248, 511, 1023]
theorem pursuivantref06_Digits.tab3 : rtab .any (opsOf Tryz.f112 3) = pursuivantref06_Digits.T3 := by kernel_rfl
theorem pursuivantref06_Digits.bits3 : waitsOk pursuivantref06_Digits.T3.2 pursuivantref06_Digits.B3 = true := by kernel_rfl
set_option maxHeartbeats 8000000 in
set_option maxRecDepth 100000 in
theorem pursuivantref06_Digits.calls (k : Nat) : ∀ (a0 : Int) (r : ByteArray) (w : World) (hG_ : GW w) (h : pursuivantref06_Digits.f k a0 = some r),
  Calls Tryz.prog 112 #[.int .i64 a0] w fun e w' => e = .returned (.string r) ∧ Below w.heap.size w w' := by
 induction k using Nat.strongRecOn with
 | _ k ih =>
 intro a0 r w hG_ h
 cases k with
 | zero => exact absurd h (by simp [pursuivantref06_Digits.f])
 | succ k =>
 simp only [pursuivantref06_Digits.f] at h
 have HB := Aside0.mk (Below.refl w.heap.size w)
 have H : (if a0 < 10 then (some (strOfNums (([(wrap64 (48 + a0)) % 256] : List Int)))) else ((pursuivantref06_Digits.f k (wrap64 (Int.tdiv a0 10))).bind fun t121 => ((some (([(wrap64 (48 + (Int.tmod a0 10))) % 256] : List Int) : List Int)).bind fun y122 => (if t121.size + (strOfNums y122).size ≤ 9223372036854775807 then (some (t121 ++ (strOfNums y122))) else (none))))) = some r := h
 clear h
 by_cases c2 : a0 < 10
 ·rw [if_pos c2] at H
  have c2b0 : decide (a0 < 10) = true := decide_eq_true c2; clear c2
  obtain ⟨y118, hy118⟩ : ∃ y_ : List Int, y_ = (([(wrap64 (48 + a0)) % 256] : List Int)) := ⟨_, rfl⟩
  replace H : (some (strOfNums y118)) = some r := by first | (rw [hy118]; with_reducible exact H) | (have H2_ := (Option.bind_some _ _).symm.trans H; rw [hy118]; with_reducible exact H2_) | (have H2_ := (Option.bind_some _ _).symm.trans H; with_reducible exact H2_) | with_reducible exact H | (rw [hy118]; exact H) | exact H
  have Ny118 := Aside0.mk hy118; clear hy118
  obtain rfl := Option.some.inj H
  go_enter Tryz.func112, Tryz.ntmps112
  go_wp2_with (first | ((with_reducible refine gate_dst (N := 8) rfl ?_); refine Kd.R_lit (Kd.int .u8) _ 5 ?hg (N := 8) ?hd (xs := ([(wrap64 (48 + a0)) % 256] : List Int)) (inner := [.int .u8 ((wrap64 (48 + a0)) % 256)]) (ok := fun _ => True) (okp := fun _ => True) ?hr ?hp (fun _ hk => hk) trivial (Below.refl _ _) (Nat.le_refl _) (by simp) ?_; (case hd => rfl); (case hg => rfl); (case hr => first | (go_simp; done) | (go_simp; rfl)); (case hp => exact (Reps.one (show Kd.M (Kd.int .u8) _ _ _ ((wrap64 (48 + a0)) % 256) [.int .u8 ((wrap64 (48 + a0)) % 256)] from rfl) (Reps.none _ _))); intro v119 w3 ho4 hb hg_ hnew_; clear hg_ hnew_; (first | rw [← Ny118.out] at ho4 | (simp only [Int.reduceToNat] at ho4; rw [← Ny118.out] at ho4)); have n0_ := Aside0.mk (Kd.R_lower ho4 (below_size z23_)); have n1_ := Aside0.mk (below_step z23_ hb); clear HB; have HO120 := n0_; have HB := n1_; clear n0_ n1_; clear hb ho4; have hcv5 := own_string (P := Tryz.prog) Tryz.underlying22 Tryz.underlying5 Tryz.underlying9 (Kd.own_of_R HO120.out)))
  go_ret
  exact ⟨z25_, z23_⟩
 ·rw [if_neg c2] at H
  have c2b0 : decide (a0 < 10) = false := decide_eq_false c2; clear c2
  replace H := Option.bind_eq_some_iff.mp H
  obtain ⟨t121, A60, H⟩ := H
  replace H : ((some (([(wrap64 (48 + (Int.tmod a0 10))) % 256] : List Int) : List Int)).bind fun y122 => (if t121.size + (strOfNums y122).size ≤ 9223372036854775807 then (some (t121 ++ (strOfNums y122))) else (none))) = some r := H
  have A6 := Aside0.mk A60; clear A60
  obtain ⟨y122, hy122⟩ : ∃ y_ : List Int, y_ = (([(wrap64 (48 + (Int.tmod a0 10))) % 256] : List Int)) := ⟨_, rfl⟩
  replace H : (if t121.size + (strOfNums y122).size ≤ 9223372036854775807 then (some (t121 ++ (strOfNums y122))) else (none)) = some r := by first | (rw [hy122]; with_reducible exact H) | (have H2_ := (Option.bind_some _ _).symm.trans H; rw [hy122]; with_reducible exact H2_) | (have H2_ := (Option.bind_some _ _).symm.trans H; with_reducible exact H2_) | with_reducible exact H | (rw [hy122]; exact H) | exact H
  have Ny122 := Aside0.mk hy122; clear hy122
  by_cases c7 : t121.size + (strOfNums y122).size ≤ 9223372036854775807
  ·rw [if_pos c7] at H
   have c7b0 := eq_true c7; have c7b1 : decide (t121.size + (strOfNums y122).size ≤ 9223372036854775807) = true := decide_eq_true c7
   try have c7b2 : (9223372036854775807 < t121.size + (strOfNums y122).size) = False := eq_false (Nat.not_lt.2 c7)
   obtain rfl := Option.some.inj H
   go_enter Tryz.func112, Tryz.ntmps112
   try go_wp2
   have n0_ := Aside0.mk (below_drew1 HB.out)
   clear HB
   have HB := n0_
   clear n0_
   refine start_ (n := 11) (S := fun w' => True) (ds := []) #[false, false, false, false, false, false, false, false, false, false, false] (by kernel_rfl) rfl rfl trivial (fun hHeld => ?_); refine with_tabW pursuivantref06_Digits.tab3 pursuivantref06_Digits.bits3 (fun HT_ HW_ => ?_)
   generalize w.drew = w8 at HB hHeld ⊢
   refine pure_ (i := 0) (N := some 10) (v := ?_) (a' := ?_) #[true, false, false, false, false, false, false, false, false, false, false] rfl rfl (any_of HT_.out (by kernel_rfl)) (fun _ _ _ h => h) (Or.inl ⟨by rfl, ?_⟩) ?_ ?_
   rotate_left
   ·intro w'
    go_simp
    with_reducible rfl
   rotate_left
   ·simp only [Act.put, List.setIfInBounds_toArray, List.set_cons_zero, List.set_cons_succ, i64_w, i32_w]
    rfl
   refine pure_ (i := 1) (N := some 11) (v := ?_) (a' := ?_) #[true, true, false, false, false, false, false, false, false, false, false] rfl rfl (any_of HT_.out (by kernel_rfl)) (fun _ _ _ h => h) (Or.inl ⟨by rfl, ?_⟩) ?_ ?_
   rotate_left
   ·intro w'
    go_simp
    with_reducible rfl
   rotate_left
   ·simp only [Act.put, List.setIfInBounds_toArray, List.set_cons_zero, List.set_cons_succ, i64_w, i32_w]
    rfl
   refine pure_ (i := 3) (N := some 13) (v := ?_) (a' := ?_) #[true, true, false, true, false, false, false, false, false, false, false] rfl rfl (any_of HT_.out (by kernel_rfl)) (fun _ _ _ h => h) (Or.inl ⟨by rfl, ?_⟩) ?_ ?_
   rotate_left
   ·intro w'
    go_simp
    with_reducible rfl
   rotate_left
   ·simp only [Act.put, List.setIfInBounds_toArray, List.set_cons_zero, List.set_cons_succ, i64_w, i32_w]
    rfl
   refine pure_ (i := 4) (N := some 14) (v := ?_) (a' := ?_) #[true, true, false, true, true, false, false, false, false, false, false] rfl rfl (any_of HT_.out (by kernel_rfl)) (fun _ _ _ h => h) (Or.inl ⟨by rfl, ?_⟩) ?_ ?_
   rotate_left
   ·intro w'
    go_simp
    with_reducible rfl
   rotate_left
   ·simp only [Act.put, List.setIfInBounds_toArray, List.set_cons_zero, List.set_cons_succ, i64_w, i32_w]
    rfl
   refine pure_ (i := 5) (N := some 15) (v := ?_) (a' := ?_) #[true, true, false, true, true, true, false, false, false, false, false] rfl rfl (any_of HT_.out (by kernel_rfl)) (fun _ _ _ h => h) (Or.inl ⟨by rfl, ?_⟩) ?_ ?_
   rotate_left
   ·intro w'
    go_simp
    with_reducible rfl
   rotate_left
   ·simp only [Act.put, List.setIfInBounds_toArray, List.set_cons_zero, List.set_cons_succ, i64_w, i32_w]
    rfl
   refine pure_ (i := 6) (N := some 16) (v := ?_) (a' := ?_) #[true, true, false, true, true, true, true, false, false, false, false] rfl rfl (any_of HT_.out (by kernel_rfl)) (fun _ _ _ h => h) (Or.inl ⟨by rfl, ?_⟩) ?_ ?_
   rotate_left
   ·intro w'
    go_simp
    with_reducible rfl
   rotate_left
   ·simp only [Act.put, List.setIfInBounds_toArray, List.set_cons_zero, List.set_cons_succ, i64_w, i32_w]
    rfl
   refine join_ (σ := Value) 2 #[true, true, true, true, true, true, true, true, true, false, false] (fun s_ => [(12, .string t121), (17, s_), (18, .string (strOfNums y122))]) (fun s_ w' => (Kd.R (Kd.int .u8) 5 w' w.heap.size (fun _ => True) s_ y122) ∧ (Below w.heap.size w w')) ?_ ?_
   rotate_left
   ·intro hCont
    refine two_ (i := 2) (j := 7) (Ni := some 12) (Nj := some 17) #[true, true, true, true, true, true, true, false, false, false, false] #[true, true, false, true, true, true, true, true, false, false, false] rfl rfl rfl rfl (two_of HT_.out (by kernel_rfl)) (by decide) (by decide) (fun K hK => ?_) (fun K hK => ?_)
    ·skip
     refine goes_ Tryz.func112 (by kernel_rfl) rfl #[.int .i64 (wrap64 (Int.tdiv a0 10))] (by rfl) rfl rfl z22_ ?_
     with_reducible refine (ih k (by omega) (wrap64 (Int.tdiv a0 10)) t121 _ ?gw10_ A6.out).mono ?_
     case gw10_ => exact z5_
     rintro e w9 ⟨rfl, hb⟩
     refine ⟨_, rfl, ?_⟩
     have n0_ := Aside0.mk (below_step z23_ hb)
     clear HB
     have HB := n0_
     clear n0_
     (try clear hb)
     (try clear hb2)
     (try clear hk)
     (try clear hi)
     refine hK.out _ _ trivial (fun hHeld => ?_)
     clear hK K
     refine norm_ (a' := ?_) ?_ ?_
     rotate_left
     ·show Act.put _ (some 12) _ = _
      simp only [Act.put, List.setIfInBounds_toArray, List.set_cons_zero, List.set_cons_succ, i64_w, i32_w]
      rfl
     refine one_ (i := 7) (N := some 17) #[true, true, true, true, true, true, true, true, false, false, false] rfl rfl (one_of HT_.out (by kernel_rfl)) (by decide) (fun K hK => ?_)
     refine Kd.R_lit_step (Kd.int .u8) _ 5 ?hg (N := 17) ?hd (xs := ([(wrap64 (48 + (Int.tmod a0 10))) % 256] : List Int)) (inner := [.int .u8 ((wrap64 (48 + (Int.tmod a0 10))) % 256)]) (ok := fun _ => True) (okp := fun _ => True) ?hr ?hp (fun _ hk => hk) trivial (Below.refl _ _) (Nat.le_refl _) (by simp) ?_; (case hd => rfl); (case hg => rfl); (case hr => first | (go_simp; done) | (go_simp; rfl)); (case hp => exact (Reps.one (show Kd.M (Kd.int .u8) _ _ _ ((wrap64 (48 + (Int.tmod a0 10))) % 256) [.int .u8 ((wrap64 (48 + (Int.tmod a0 10))) % 256)] from rfl) (Reps.none _ _)))
     intro v123 w10 ho11 hb hg_ hnew_
     clear hg_ hnew_
     (first | rw [← Ny122.out] at ho11 | (simp only [Int.reduceToNat] at ho11; rw [← Ny122.out] at ho11))
     have n0_ := Aside0.mk (Kd.R_lower ho11 (below_size z23_))
     have n1_ := Aside0.mk (below_step z23_ hb)
     clear HB
     have HO124 := n0_
     have HB := n1_
     clear n0_ n1_; clear hb ho11
     refine hK.out _ _ trivial (fun hHeld => ?_)
     clear hK K
     refine norm_ (a' := ?_) ?_ ?_
     rotate_left
     ·show Act.put _ (some 17) _ = _
      simp only [Act.put, List.setIfInBounds_toArray, List.set_cons_zero, List.set_cons_succ, i64_w, i32_w]
      rfl
     refine one_ (i := 8) (N := some 18) #[true, true, true, true, true, true, true, true, true, false, false] rfl rfl (one_of HT_.out (by kernel_rfl)) (by decide) (fun K hK => ?_)
     have hcv12 := own_string (P := Tryz.prog) Tryz.underlying22 Tryz.underlying5 Tryz.underlying9 (Kd.own_of_R HO124.out)
     refine value_ (w1 := ?_) (v := ?_) (by rfl) rfl ?_ ?_
     rotate_left 2
     ·go_simp
      constructor
      ·rfl
      ·rfl
     clear hcv12
     refine hK.out _ _ trivial (fun hHeld => ?_)
     clear hK K
     refine norm_ (a' := ?_) ?_ ?_
     rotate_left
     ·show Act.put _ (some 18) _ = _
      simp only [Act.put, List.setIfInBounds_toArray, List.set_cons_zero, List.set_cons_succ, i64_w, i32_w]
      rfl
     exact norm_ z55_ (hCont (v123) _ ⟨z42_, z23_⟩)
    ·skip
     refine Kd.R_lit_step (Kd.int .u8) _ 5 ?hg (N := 17) ?hd (xs := ([(wrap64 (48 + (Int.tmod a0 10))) % 256] : List Int)) (inner := [.int .u8 ((wrap64 (48 + (Int.tmod a0 10))) % 256)]) (ok := fun _ => True) (okp := fun _ => True) ?hr ?hp (fun _ hk => hk) trivial (Below.refl _ _) (Nat.le_refl _) (by simp) ?_; (case hd => rfl); (case hg => rfl); (case hr => first | (go_simp; done) | (go_simp; rfl)); (case hp => exact (Reps.one (show Kd.M (Kd.int .u8) _ _ _ ((wrap64 (48 + (Int.tmod a0 10))) % 256) [.int .u8 ((wrap64 (48 + (Int.tmod a0 10))) % 256)] from rfl) (Reps.none _ _)))
     intro v123 w9 ho10 hb hg_ hnew_
     clear hg_ hnew_
     (first | rw [← Ny122.out] at ho10 | (simp only [Int.reduceToNat] at ho10; rw [← Ny122.out] at ho10))
     have n0_ := Aside0.mk (Kd.R_lower ho10 (below_size z23_))
     have n1_ := Aside0.mk (below_step z23_ hb)
     clear HB
     have HO124 := n0_
     have HB := n1_
     clear n0_ n1_; clear hb ho10
     refine hK.out _ _ trivial (fun hHeld => ?_)
     clear hK K
     refine norm_ (a' := ?_) ?_ ?_
     rotate_left
     ·show Act.put _ (some 17) _ = _
      simp only [Act.put, List.setIfInBounds_toArray, List.set_cons_zero, List.set_cons_succ, i64_w, i32_w]
      rfl
     refine two_ (i := 2) (j := 8) (Ni := some 12) (Nj := some 18) #[true, true, true, true, true, true, true, true, false, false, false] #[true, true, false, true, true, true, true, true, true, false, false] rfl rfl rfl rfl (two_of HT_.out (by kernel_rfl)) (by decide) (by decide) (fun K hK => ?_) (fun K hK => ?_)
     ·skip
      refine goes_ Tryz.func112 (by kernel_rfl) rfl #[.int .i64 (wrap64 (Int.tdiv a0 10))] (by rfl) rfl rfl z22_ ?_
      with_reducible refine (ih k (by omega) (wrap64 (Int.tdiv a0 10)) t121 _ ?gw11_ A6.out).mono ?_
      case gw11_ => exact z5_
      rintro e w11 ⟨rfl, hb⟩
      refine ⟨_, rfl, ?_⟩
      have n0_ := Aside0.mk (Kd.R_below z42_ hb)
      have n1_ := Aside0.mk (below_step z23_ hb)
      clear HO124; clear HB
      have HO124 := n0_
      have HB := n1_
      clear n0_ n1_
      (try clear hb)
      (try clear hb2)
      (try clear hk)
      (try clear hi)
      refine hK.out _ _ trivial (fun hHeld => ?_)
      clear hK K
      refine norm_ (a' := ?_) ?_ ?_
      rotate_left
      ·show Act.put _ (some 12) _ = _
       simp only [Act.put, List.setIfInBounds_toArray, List.set_cons_zero, List.set_cons_succ, i64_w, i32_w]
       rfl
      refine one_ (i := 8) (N := some 18) #[true, true, true, true, true, true, true, true, true, false, false] rfl rfl (one_of HT_.out (by kernel_rfl)) (by decide) (fun K hK => ?_)
      have hcv12 := own_string (P := Tryz.prog) Tryz.underlying22 Tryz.underlying5 Tryz.underlying9 (Kd.own_of_R HO124.out)
      refine value_ (w1 := ?_) (v := ?_) (by rfl) rfl ?_ ?_
      rotate_left 2
      ·go_simp
       constructor
       ·rfl
       ·rfl
      clear hcv12
      refine hK.out _ _ trivial (fun hHeld => ?_)
      clear hK K
      refine norm_ (a' := ?_) ?_ ?_
      rotate_left
      ·show Act.put _ (some 18) _ = _
       simp only [Act.put, List.setIfInBounds_toArray, List.set_cons_zero, List.set_cons_succ, i64_w, i32_w]
       rfl
      exact norm_ z55_ (hCont (v123) _ ⟨z42_, z23_⟩)
     ·skip
      have hcv11 := own_string (P := Tryz.prog) Tryz.underlying22 Tryz.underlying5 Tryz.underlying9 (Kd.own_of_R HO124.out)
      refine value_ (w1 := ?_) (v := ?_) (by rfl) rfl ?_ ?_
      rotate_left 2
      ·go_simp
       constructor
       ·rfl
       ·rfl
      clear hcv11
      refine hK.out _ _ trivial (fun hHeld => ?_)
      clear hK K
      refine norm_ (a' := ?_) ?_ ?_
      rotate_left
      ·show Act.put _ (some 18) _ = _
       simp only [Act.put, List.setIfInBounds_toArray, List.set_cons_zero, List.set_cons_succ, i64_w, i32_w]
       rfl
      refine one_ (i := 2) (N := some 12) #[true, true, true, true, true, true, true, true, true, false, false] rfl rfl (one_of HT_.out (by kernel_rfl)) (by decide) (fun K hK => ?_)
      refine goes_ Tryz.func112 (by kernel_rfl) rfl #[.int .i64 (wrap64 (Int.tdiv a0 10))] (by rfl) rfl rfl z22_ ?_
      with_reducible refine (ih k (by omega) (wrap64 (Int.tdiv a0 10)) t121 _ ?gw12_ A6.out).mono ?_
      case gw12_ => exact z5_
      rintro e w12 ⟨rfl, hb⟩
      refine ⟨_, rfl, ?_⟩
      have n0_ := Aside0.mk (Kd.R_below z42_ hb)
      have n1_ := Aside0.mk (below_step z23_ hb)
      clear HO124; clear HB
      have HO124 := n0_
      have HB := n1_
      clear n0_ n1_
      (try clear hb)
      (try clear hb2)
      (try clear hk)
      (try clear hi)
      refine hK.out _ _ trivial (fun hHeld => ?_)
      clear hK K
      refine norm_ (a' := ?_) ?_ ?_
      rotate_left
      ·show Act.put _ (some 12) _ = _
       simp only [Act.put, List.setIfInBounds_toArray, List.set_cons_zero, List.set_cons_succ, i64_w, i32_w]
       rfl
      exact norm_ z55_ (hCont (v123) _ ⟨z42_, z23_⟩)
   rintro v123 w13 ⟨h0_, h1_⟩
   have n0_ : Aside0 (Kd.R (Kd.int .u8) 5 w13 w.heap.size (fun _ => True) v123 y122) := ⟨h0_⟩
   have n1_ : Aside0 (Below w.heap.size w w13) := ⟨h1_⟩
   clear HB; clear h0_ h1_
   have HO124 := n0_
   have HB := n1_
   clear n0_ n1_
   have hHeld := trivial
   refine norm_ (a' := ?_) ?_ ?_
   rotate_left
   ·simp only [putAll, Act.put, List.setIfInBounds_toArray, List.set_cons_zero, List.set_cons_succ]
    rfl
   refine pure_ (i := 9) (N := some 19) (v := ?_) (a' := ?_) #[true, true, true, true, true, true, true, true, true, true, false] rfl rfl (any_of HT_.out (by kernel_rfl)) (fun _ _ _ h => h) (Or.inl ⟨by rfl, ?_⟩) ?_ ?_
   rotate_left
   ·intro w'
    go_simp
    with_reducible rfl
   rotate_left
   ·simp only [Act.put, List.setIfInBounds_toArray, List.set_cons_zero, List.set_cons_succ, i64_w, i32_w]
    rfl
   refine pure_ (i := 10) (N := some 2) (v := ?_) (a' := ?_) #[true, true, true, true, true, true, true, true, true, true, true] rfl rfl (any_of HT_.out (by kernel_rfl)) (fun _ _ _ h => h) (Or.inl ⟨by rfl, ?_⟩) ?_ ?_
   rotate_left
   ·intro w'
    go_simp
    with_reducible rfl
   rotate_left
   ·simp only [Act.put, List.setIfInBounds_toArray, List.set_cons_zero, List.set_cons_succ, i64_w, i32_w]
    rfl
   refine done_ (done_of HT_.out (by kernel_rfl)) ?_
   try go_wp2
   go_ret
   exact ⟨z25_, z23_⟩
  ·rw [if_neg c7] at H
   exact absurd H (by simp)

mutual
def pursuivantref06_whole.j0 : Nat → ByteArray → ByteArray → ByteArray → ByteArray → Int → ByteArray → Bool → ByteArray → Bool → ByteArray → Option (ByteArray)
 | 0, _, _, _, _, _, _, _, _, _, _ => none
 | k + 1, x3, x126000, x126001, x126002, x126003, x126004, x126005, x126006, x126007, x126008 => if x3.size + x126002.size ≤ 9223372036854775807 then (if x126003 > 0 then ((pursuivantref06_Digits.f k x126003).bind fun t126 => (if 1 + t126.size ≤ 9223372036854775807 then (if (x3 ++ x126002).size + ((⟨#[58]⟩ : ByteArray) ++ t126).size ≤ 9223372036854775807 then (pursuivantref06_whole.j1 k ((x3 ++ x126002) ++ ((⟨#[58]⟩ : ByteArray) ++ t126)) x126000 x126001 x126002 x126003 x126004 x126005 x126006 x126007 x126008) else (none)) else (none))) else (pursuivantref06_whole.j1 k (x3 ++ x126002) x126000 x126001 x126002 x126003 x126004 x126005 x126006 x126007 x126008)) else (none)
def pursuivantref06_whole.j1 : Nat → ByteArray → ByteArray → ByteArray → ByteArray → Int → ByteArray → Bool → ByteArray → Bool → ByteArray → Option (ByteArray)
 | 0, _, _, _, _, _, _, _, _, _, _ => none
 | k + 1, x3, x126000, x126001, x126002, x126003, x126004, x126005, x126006, x126007, x126008 => if x3.size + x126004.size ≤ 9223372036854775807 then (if x126005 = true then (if 1 + x126006.size ≤ 9223372036854775807 then (if (x3 ++ x126004).size + ((⟨#[63]⟩ : ByteArray) ++ x126006).size ≤ 9223372036854775807 then (if x126007 = true then (if 1 + x126008.size ≤ 9223372036854775807 then (if ((x3 ++ x126004) ++ ((⟨#[63]⟩ : ByteArray) ++ x126006)).size + ((⟨#[35]⟩ : ByteArray) ++ x126008).size ≤ 9223372036854775807 then (some (((x3 ++ x126004) ++ ((⟨#[63]⟩ : ByteArray) ++ x126006)) ++ ((⟨#[35]⟩ : ByteArray) ++ x126008))) else (none)) else (none)) else (some ((x3 ++ x126004) ++ ((⟨#[63]⟩ : ByteArray) ++ x126006)))) else (none)) else (none)) else (if x126007 = true then (if 1 + x126008.size ≤ 9223372036854775807 then (if (x3 ++ x126004).size + ((⟨#[35]⟩ : ByteArray) ++ x126008).size ≤ 9223372036854775807 then (some ((x3 ++ x126004) ++ ((⟨#[35]⟩ : ByteArray) ++ x126008))) else (none)) else (none)) else (some (x3 ++ x126004)))) else (none)
end
def pursuivantref06_whole.f (k : Nat) (a0_0 a0_1 a0_2 : ByteArray) (a0_3 : Int) (a0_4 : ByteArray) (a0_5 : Bool) (a0_6 : ByteArray) (a0_7 : Bool) (a0_8 : ByteArray) : Option (ByteArray) := if a0_0.size + 3 ≤ 9223372036854775807 then (if a0_1.toList = ([] : List UInt8) then (pursuivantref06_whole.j0 k (a0_0 ++ (⟨#[58, 47, 47]⟩ : ByteArray)) a0_0 a0_1 a0_2 a0_3 a0_4 a0_5 a0_6 a0_7 a0_8) else (if a0_1.size + 1 ≤ 9223372036854775807 then (if (a0_0 ++ (⟨#[58, 47, 47]⟩ : ByteArray)).size + (a0_1 ++ (⟨#[64]⟩ : ByteArray)).size ≤ 9223372036854775807 then (pursuivantref06_whole.j0 k ((a0_0 ++ (⟨#[58, 47, 47]⟩ : ByteArray)) ++ (a0_1 ++ (⟨#[64]⟩ : ByteArray))) a0_0 a0_1 a0_2 a0_3 a0_4 a0_5 a0_6 a0_7 a0_8) else (none)) else (none))) else (none)
set_option maxHeartbeats 8000000 in
set_option maxRecDepth 100000 in
theorem pursuivantref06_whole.calls (k : Nat) (a0_0 a0_1 a0_2 : ByteArray) (a0_3 : Int) (a0_4 : ByteArray) (a0_5 : Bool) (a0_6 : ByteArray) (a0_7 : Bool) (a0_8 r : ByteArray) (w : World) (hG_ : GW w) (h : pursuivantref06_whole.f k a0_0 a0_1 a0_2 a0_3 a0_4 a0_5 a0_6 a0_7 a0_8 = some r) :
  Calls Tryz.prog 72 #[.agg #[.string a0_0, .string a0_1, .string a0_2, .int .i64 a0_3, .string a0_4, .bool a0_5, .string a0_6, .bool a0_7, .string a0_8]] w fun e w' => e = .returned (.string r) ∧ Below w.heap.size w w' := by
 have hu67 := Tryz.underlying67
 have HB := Aside0.mk (Below.refl w.heap.size w)
 have H : (if a0_0.size + 3 ≤ 9223372036854775807 then (if a0_1.toList = ([] : List UInt8) then (pursuivantref06_whole.j0 k (a0_0 ++ (⟨#[58, 47, 47]⟩ : ByteArray)) a0_0 a0_1 a0_2 a0_3 a0_4 a0_5 a0_6 a0_7 a0_8) else (if a0_1.size + 1 ≤ 9223372036854775807 then (if (a0_0 ++ (⟨#[58, 47, 47]⟩ : ByteArray)).size + (a0_1 ++ (⟨#[64]⟩ : ByteArray)).size ≤ 9223372036854775807 then (pursuivantref06_whole.j0 k ((a0_0 ++ (⟨#[58, 47, 47]⟩ : ByteArray)) ++ (a0_1 ++ (⟨#[64]⟩ : ByteArray))) a0_0 a0_1 a0_2 a0_3 a0_4 a0_5 a0_6 a0_7 a0_8) else (none)) else (none))) else (none)) = some r := h
 clear h
 by_cases c2 : a0_0.size + 3 ≤ 9223372036854775807
 ·rw [if_pos c2] at H
  have c2b0 := eq_true c2; have c2b1 : decide (a0_0.size + 3 ≤ 9223372036854775807) = true := decide_eq_true c2
  try have c2b2 : (9223372036854775807 < a0_0.size + 3) = False := eq_false (Nat.not_lt.2 c2)
  have HC3 := Aside0.mk H; clear H
  go_enter Tryz.func72, Tryz.ntmps72
  go_upto_if 9 with (first | ((with_reducible refine gate_dst (N := 1) rfl ?_); refine box_event ?hg (N := 1) ?hd (cs := #[.string a0_0, .string a0_1, .string a0_2, .int .i64 a0_3, .string a0_4, .bool a0_5, .string a0_6, .bool a0_7, .string a0_8]) (t := 67) ?hr ?_; (case hd => rfl); (case hg => rfl); (case hr => first | (go_simp; done) | (go_simp; rfl)); intro gb125 hg w4 hbox hb; have n0_ := Aside0.mk (below_step z23_ hb); have n1_ := Aside0.mk (hbox); have n2_ := Aside0.mk ((by rw [hg]; exact (below_size z23_) : w.heap.size ≤ gb125)); have n3_ := Aside0.mk ((by rw [hg]; exact (below_size z23_) : w.heap.size ≤ gb125)); clear HB; have HB := n0_; have BK125 := n1_; have GW125 := n2_; have GE125 := n3_; clear n0_ n1_ n2_ n3_; clear hb hbox hg; have hcz5_0 : w4.cell? ⟨gb125, 0, none⟩ = some (.string a0_0) := (blk_cell BK125.out 0).trans rfl; have hcz5_1 : w4.cell? ⟨gb125, 1, none⟩ = some (.string a0_1) := (blk_cell BK125.out 1).trans rfl; have hcz5_2 : w4.cell? ⟨gb125, 2, none⟩ = some (.string a0_2) := (blk_cell BK125.out 2).trans rfl; have hcz5_3 : w4.cell? ⟨gb125, 3, none⟩ = some (.int .i64 a0_3) := (blk_cell BK125.out 3).trans rfl; have hcz5_4 : w4.cell? ⟨gb125, 4, none⟩ = some (.string a0_4) := (blk_cell BK125.out 4).trans rfl; have hcz5_5 : w4.cell? ⟨gb125, 5, none⟩ = some (.bool a0_5) := (blk_cell BK125.out 5).trans rfl; have hcz5_6 : w4.cell? ⟨gb125, 6, none⟩ = some (.string a0_6) := (blk_cell BK125.out 6).trans rfl; have hcz5_7 : w4.cell? ⟨gb125, 7, none⟩ = some (.bool a0_7) := (blk_cell BK125.out 7).trans rfl; have hcz5_8 : w4.cell? ⟨gb125, 8, none⟩ = some (.string a0_8) := (blk_cell BK125.out 8).trans rfl; have hfz5_0 := blk_frozen BK125.out 0; have hfz5_1 := blk_frozen BK125.out 1; have hfz5_2 := blk_frozen BK125.out 2; have hfz5_3 := blk_frozen BK125.out 3; have hfz5_4 := blk_frozen BK125.out 4; have hfz5_5 := blk_frozen BK125.out 5; have hfz5_6 := blk_frozen BK125.out 6; have hfz5_7 := blk_frozen BK125.out 7; have hfz5_8 := blk_frozen BK125.out 8))
  (try simp only [Act.put, List.setIfInBounds_toArray, List.set_cons_zero, List.set_cons_succ])
  go_cut [3] (fun v3 wc => ∃ (kq : Nat) (x3_2 : ByteArray), v3 = .string x3_2 ∧ Aside0 (pursuivantref06_whole.j0 kq x3_2 a0_0 a0_1 a0_2 a0_3 a0_4 a0_5 a0_6 a0_7 a0_8 = some r) ∧ Aside0 (kq ≤ k) ∧ Aside0 (wc.heap[gb125]? = some (.cells #[.string a0_0, .string a0_1, .string a0_2, .int .i64 a0_3, .string a0_4, .bool a0_5, .string a0_6, .bool a0_7, .string a0_8] 67 (0, 0))) ∧ Aside0 (Below w.heap.size w wc))
  case first =>
   have H := HC3.out
   clear HC3
   by_cases c6 : a0_1.toList = ([] : List UInt8)
   ·rw [if_pos c6] at H
    have c6b0 : (a0_1.toList == ([] : List UInt8)) = true := beq_iff_eq.mpr c6
    try have c6e0 : a0_1.toList.isEmpty = true := by rw [← nil_beq]; exact c6b0
    have c6b1 : (a0_1.toList != ([] : List UInt8)) = false := bne_eq_false_iff_eq.mpr c6
    clear c6
    (first | rw [c6b0] | (simp only [i64_w, i32_w]; rw [c6b0]) | rw [c6e0] | skip)
    have H' := Aside0.mk H
    clear H; go_wp2; go_meet
    case rel => exact ⟨_, (a0_0 ++ (⟨#[58, 47, 47]⟩ : ByteArray)), z56_, H', ⟨z63_⟩, ⟨z32_⟩, ⟨z15_⟩⟩
   ·rw [if_neg c6] at H
    have c6b0 : (a0_1.toList == ([] : List UInt8)) = false := beq_eq_false_iff_ne.mpr c6
    try have c6e0 : a0_1.toList.isEmpty = false := by rw [← nil_beq]; exact c6b0
    have c6b1 : (a0_1.toList != ([] : List UInt8)) = true := bne_iff_ne.mpr c6
    (first | rw [c6b0] | (simp only [i64_w, i32_w]; rw [c6b0]) | rw [c6e0] | skip)
    by_cases c7 : a0_1.size + 1 ≤ 9223372036854775807
    ·rw [if_pos c7] at H
     have c7b0 := eq_true c7; have c7b1 : decide (a0_1.size + 1 ≤ 9223372036854775807) = true := decide_eq_true c7
     try have c7b2 : (9223372036854775807 < a0_1.size + 1) = False := eq_false (Nat.not_lt.2 c7)
     try have c7c0 : (9223372036854775807 ≤ a0_1.size) = False := eq_false (by omega)
     try have c7c1 : (a0_1.size < 9223372036854775807) = True := eq_true (by omega)
     by_cases c8 : (a0_0 ++ (⟨#[58, 47, 47]⟩ : ByteArray)).size + (a0_1 ++ (⟨#[64]⟩ : ByteArray)).size ≤ 9223372036854775807
     ·rw [if_pos c8] at H
      have c8b0 := eq_true c8
      try have c8m : ((a0_0.size + 3) + (a0_1.size + 1) ≤ 9223372036854775807) = True := by first | exact c8b0 | (have h_ := c8; simp only [ByteArray.size_append, Int.natCast_add] at h_; exact eq_true h_)
      have c8b1 : decide ((a0_0 ++ (⟨#[58, 47, 47]⟩ : ByteArray)).size + (a0_1 ++ (⟨#[64]⟩ : ByteArray)).size ≤ 9223372036854775807) = true := decide_eq_true c8
      try have c8b1n : decide ((a0_0.size + 3) + (a0_1.size + 1) ≤ 9223372036854775807) = true := by first | exact c8b1 | (have h_ := c8b1; simp only [ByteArray.size_append, Int.natCast_add] at h_; exact h_)
      try have c8b2 : (9223372036854775807 < (a0_0 ++ (⟨#[58, 47, 47]⟩ : ByteArray)).size + (a0_1 ++ (⟨#[64]⟩ : ByteArray)).size) = False := eq_false (Nat.not_lt.2 c8)
      try have c8b2n : (9223372036854775807 < (a0_0.size + 3) + (a0_1.size + 1)) = False := by first | exact c8b2 | (have h_ := c8b2; simp only [ByteArray.size_append, Int.natCast_add] at h_; exact h_)
      have H' := Aside0.mk H
      clear H; obtain ⟨hcz9_0, hcz9_1, hcz9_2, hcz9_3, hcz9_4, hcz9_5, hcz9_6, hcz9_7, hcz9_8⟩ := blkc9_ BK125.out; obtain ⟨hfz9_0, hfz9_1, hfz9_2, hfz9_3, hfz9_4, hfz9_5, hfz9_6, hfz9_7, hfz9_8⟩ := blkf9_ BK125.out; go_wp2; go_meet
      case rel => exact ⟨_, ((a0_0 ++ (⟨#[58, 47, 47]⟩ : ByteArray)) ++ (a0_1 ++ (⟨#[64]⟩ : ByteArray))), z56_, H', ⟨z63_⟩, ⟨z32_⟩, ⟨z15_⟩⟩
     ·rw [if_neg c8] at H
      exact absurd H (by simp)
    ·rw [if_neg c7] at H
     exact absurd H (by simp)
  case rest =>
   clear HC3; (try clear c2); (try clear c2b0); (try clear c2b1); (try clear c2b2); (try clear hcz5_0 hcz5_1 hcz5_2 hcz5_3 hcz5_4 hcz5_5 hcz5_6 hcz5_7 hcz5_8); (try clear hfz5_0 hfz5_1 hfz5_2 hfz5_3 hfz5_4 hfz5_5 hfz5_6 hfz5_7 hfz5_8)
   obtain ⟨kq, x3_2, rfl, HA, HJ2, BK125, HB⟩ := hcut
   cases kq with
   | zero => exact absurd HA.out (by simp [pursuivantref06_whole.j0])
   | succ kj2 =>
    have H := HA.out
    clear HA
    simp only [pursuivantref06_whole.j0] at H
    by_cases c10 : x3_2.size + a0_2.size ≤ 9223372036854775807
    ·rw [if_pos c10] at H
     have c10b0 := eq_true c10; have c10b1 : decide (x3_2.size + a0_2.size ≤ 9223372036854775807) = true := decide_eq_true c10
     try have c10b2 : (9223372036854775807 < x3_2.size + a0_2.size) = False := eq_false (Nat.not_lt.2 c10)
     have HC11 := Aside0.mk H; clear H; obtain ⟨hcz12_0, hcz12_1, hcz12_2, hcz12_3, hcz12_4, hcz12_5, hcz12_6, hcz12_7, hcz12_8⟩ := blkc9_ BK125.out; obtain ⟨hfz12_0, hfz12_1, hfz12_2, hfz12_3, hfz12_4, hfz12_5, hfz12_6, hfz12_7, hfz12_8⟩ := blkf9_ BK125.out
     go_upto_if 21 with (fail)
     go_cut [3] (fun v3 wc => ∃ (kq : Nat) (x3_10 : ByteArray), v3 = .string x3_10 ∧ Aside0 (pursuivantref06_whole.j1 kq x3_10 a0_0 a0_1 a0_2 a0_3 a0_4 a0_5 a0_6 a0_7 a0_8 = some r) ∧ Aside0 (kq ≤ kj2) ∧ Aside0 (wc.heap[gb125]? = some (.cells #[.string a0_0, .string a0_1, .string a0_2, .int .i64 a0_3, .string a0_4, .bool a0_5, .string a0_6, .bool a0_7, .string a0_8] 67 (0, 0))) ∧ Aside0 (Below w.heap.size w wc))
     case first =>
      have H := HC11.out
      clear HC11
      by_cases c13 : a0_3 > 0
      ·rw [if_pos c13] at H
       have c13b0 : decide (0 < a0_3) = true := decide_eq_true c13; clear c13
       (first | rw [c13b0] | (simp only [i64_w, i32_w]; rw [c13b0]) | skip)
       replace H := Option.bind_eq_some_iff.mp H
       obtain ⟨t126, A140, H⟩ := H
       replace H : (if 1 + t126.size ≤ 9223372036854775807 then (if (x3_2 ++ a0_2).size + ((⟨#[58]⟩ : ByteArray) ++ t126).size ≤ 9223372036854775807 then (pursuivantref06_whole.j1 kj2 ((x3_2 ++ a0_2) ++ ((⟨#[58]⟩ : ByteArray) ++ t126)) a0_0 a0_1 a0_2 a0_3 a0_4 a0_5 a0_6 a0_7 a0_8) else (none)) else (none)) = some r := H
       have A14 := Aside0.mk A140; clear A140
       by_cases c15 : 1 + t126.size ≤ 9223372036854775807
       ·rw [if_pos c15] at H
        have c15b0 := eq_true c15; have c15b1 : decide (1 + t126.size ≤ 9223372036854775807) = true := decide_eq_true c15
        try have c15b2 : (9223372036854775807 < 1 + t126.size) = False := eq_false (Nat.not_lt.2 c15)
        try have c15c0 : (9223372036854775807 ≤ t126.size) = False := eq_false (by omega)
        try have c15c1 : (t126.size < 9223372036854775807) = True := eq_true (by omega)
        by_cases c16 : (x3_2 ++ a0_2).size + ((⟨#[58]⟩ : ByteArray) ++ t126).size ≤ 9223372036854775807
        ·rw [if_pos c16] at H
         have c16b0 := eq_true c16
         try have c16m : ((x3_2.size + a0_2.size) + (1 + t126.size) ≤ 9223372036854775807) = True := by first | exact c16b0 | (have h_ := c16; simp only [ByteArray.size_append, Int.natCast_add] at h_; exact eq_true h_)
         have c16b1 : decide ((x3_2 ++ a0_2).size + ((⟨#[58]⟩ : ByteArray) ++ t126).size ≤ 9223372036854775807) = true := decide_eq_true c16
         try have c16b1n : decide ((x3_2.size + a0_2.size) + (1 + t126.size) ≤ 9223372036854775807) = true := by first | exact c16b1 | (have h_ := c16b1; simp only [ByteArray.size_append, Int.natCast_add] at h_; exact h_)
         try have c16b2 : (9223372036854775807 < (x3_2 ++ a0_2).size + ((⟨#[58]⟩ : ByteArray) ++ t126).size) = False := eq_false (Nat.not_lt.2 c16)
         try have c16b2n : (9223372036854775807 < (x3_2.size + a0_2.size) + (1 + t126.size)) = False := by first | exact c16b2 | (have h_ := c16b2; simp only [ByteArray.size_append, Int.natCast_add] at h_; exact h_)
         have H' := Aside0.mk H
         clear H; obtain ⟨hcz17_0, hcz17_1, hcz17_2, hcz17_3, hcz17_4, hcz17_5, hcz17_6, hcz17_7, hcz17_8⟩ := blkc9_ BK125.out; obtain ⟨hfz17_0, hfz17_1, hfz17_2, hfz17_3, hfz17_4, hfz17_5, hfz17_6, hfz17_7, hfz17_8⟩ := blkf9_ BK125.out
         go_wp2_with (first | ((with_reducible refine gate_callee (f := 112) rfl ?_); refine goesL_ (some 25) rfl rfl Tryz.func112 (by kernel_rfl) rfl #[.int .i64 a0_3] rfl z22_ ?_; (with_reducible refine (pursuivantref06_Digits.calls kj2 a0_3 t126 _ ?gw8_ A14.out).mono ?_); (case gw8_ => first | (with_reducible exact hG_) | ((with_reducible refine GW.below hG_ ?_); (repeat (first | (with_reducible exact HB.out) | (with_reducible apply below_alloc) | (with_reducible apply pw_below_drewN) | (with_reducible apply below_drew1) | (with_reducible apply below_drew) | (with_reducible exact Below.refl _ _) | (with_reducible refine below_set ?_ GE125.out))); done) | exact hG_ | (refine GW.below hG_ ?_; first | (with_reducible exact HB.out) | (repeat (first | (with_reducible first | exact HB.out | apply below_alloc | apply pw_below_drewN | apply below_drew1 | apply below_drew | exact Below.refl _ _) | exact HB.out))) | (apply GW.drewN; exact hG_) | (apply GW.drew; exact hG_)); rintro e w18 ⟨rfl, hb⟩; refine ⟨_, rfl, ?_⟩; have n0_ := Aside0.mk (blk_below (g := gb125) (o := .cells #[.string a0_0, .string a0_1, .string a0_2, .int .i64 a0_3, .string a0_4, .bool a0_5, .string a0_6, .bool a0_7, .string a0_8] 67 (0, 0)) z32_ hb); have n1_ := Aside0.mk (below_step z15_ hb); clear BK125; clear HB; have BK125 := n0_; have HB := n1_; clear n0_ n1_; (try clear hb); (try clear hb2); (try clear hk); (try clear hi)))
         go_meet
         case rel => exact ⟨_, ((x3_2 ++ a0_2) ++ ((⟨#[58]⟩ : ByteArray) ++ t126)), z56_, H', ⟨z60_⟩, ⟨z32_⟩, ⟨z15_⟩⟩
        ·rw [if_neg c16] at H
         exact absurd H (by simp)
       ·rw [if_neg c15] at H
        exact absurd H (by simp)
      ·rw [if_neg c13] at H
       have c13b0 : decide (0 < a0_3) = false := decide_eq_false c13; clear c13
       (first | rw [c13b0] | (simp only [i64_w, i32_w]; rw [c13b0]) | skip)
       have H' := Aside0.mk H
       clear H; go_wp2; go_meet
       case rel => exact ⟨_, (x3_2 ++ a0_2), z56_, H', ⟨z60_⟩, ⟨z32_⟩, ⟨z15_⟩⟩
     case rest =>
      clear HC11; (try clear c2); (try clear c2b0); (try clear c2b1); (try clear c2b2); (try clear c10); (try clear c10b0); (try clear c10b1); (try clear c10b2); (try clear hcz12_0 hcz12_1 hcz12_2 hcz12_3 hcz12_4 hcz12_5 hcz12_6 hcz12_7 hcz12_8); (try clear hcz5_0 hcz5_1 hcz5_2 hcz5_3 hcz5_4 hcz5_5 hcz5_6 hcz5_7 hcz5_8); (try clear hfz12_0 hfz12_1 hfz12_2 hfz12_3 hfz12_4 hfz12_5 hfz12_6 hfz12_7 hfz12_8); (try clear hfz5_0 hfz5_1 hfz5_2 hfz5_3 hfz5_4 hfz5_5 hfz5_6 hfz5_7 hfz5_8)
      obtain ⟨kq, x3_10, rfl, HA, HJ10, BK125, HB⟩ := hcut
      cases kq with
      | zero => exact absurd HA.out (by simp [pursuivantref06_whole.j1])
      | succ kj10 =>
       have H := HA.out
       clear HA
       simp only [pursuivantref06_whole.j1] at H
       by_cases c19 : x3_10.size + a0_4.size ≤ 9223372036854775807
       ·rw [if_pos c19] at H
        have c19b0 := eq_true c19; have c19b1 : decide (x3_10.size + a0_4.size ≤ 9223372036854775807) = true := decide_eq_true c19
        try have c19b2 : (9223372036854775807 < x3_10.size + a0_4.size) = False := eq_false (Nat.not_lt.2 c19)
        by_cases c20 : a0_5 = true
        ·subst c20
         have H1 : (if 1 + a0_6.size ≤ 9223372036854775807 then (if (x3_10 ++ a0_4).size + ((⟨#[63]⟩ : ByteArray) ++ a0_6).size ≤ 9223372036854775807 then (if a0_7 = true then (if 1 + a0_8.size ≤ 9223372036854775807 then (if ((x3_10 ++ a0_4) ++ ((⟨#[63]⟩ : ByteArray) ++ a0_6)).size + ((⟨#[35]⟩ : ByteArray) ++ a0_8).size ≤ 9223372036854775807 then (some (((x3_10 ++ a0_4) ++ ((⟨#[63]⟩ : ByteArray) ++ a0_6)) ++ ((⟨#[35]⟩ : ByteArray) ++ a0_8))) else (none)) else (none)) else (some ((x3_10 ++ a0_4) ++ ((⟨#[63]⟩ : ByteArray) ++ a0_6)))) else (none)) else (none)) = some r := by rw [if_pos rfl] at H; exact H
         clear H
         have H := H1
         clear H1
         by_cases c21 : 1 + a0_6.size ≤ 9223372036854775807
         ·rw [if_pos c21] at H
          have c21b0 := eq_true c21; have c21b1 : decide (1 + a0_6.size ≤ 9223372036854775807) = true := decide_eq_true c21
          try have c21b2 : (9223372036854775807 < 1 + a0_6.size) = False := eq_false (Nat.not_lt.2 c21)
          try have c21c0 : (9223372036854775807 ≤ a0_6.size) = False := eq_false (by omega)
          try have c21c1 : (a0_6.size < 9223372036854775807) = True := eq_true (by omega)
          by_cases c22 : (x3_10 ++ a0_4).size + ((⟨#[63]⟩ : ByteArray) ++ a0_6).size ≤ 9223372036854775807
          ·rw [if_pos c22] at H
           have c22b0 := eq_true c22
           try have c22m : ((x3_10.size + a0_4.size) + (1 + a0_6.size) ≤ 9223372036854775807) = True := by first | exact c22b0 | (have h_ := c22; simp only [ByteArray.size_append, Int.natCast_add] at h_; exact eq_true h_)
           have c22b1 : decide ((x3_10 ++ a0_4).size + ((⟨#[63]⟩ : ByteArray) ++ a0_6).size ≤ 9223372036854775807) = true := decide_eq_true c22
           try have c22b1n : decide ((x3_10.size + a0_4.size) + (1 + a0_6.size) ≤ 9223372036854775807) = true := by first | exact c22b1 | (have h_ := c22b1; simp only [ByteArray.size_append, Int.natCast_add] at h_; exact h_)
           try have c22b2 : (9223372036854775807 < (x3_10 ++ a0_4).size + ((⟨#[63]⟩ : ByteArray) ++ a0_6).size) = False := eq_false (Nat.not_lt.2 c22)
           try have c22b2n : (9223372036854775807 < (x3_10.size + a0_4.size) + (1 + a0_6.size)) = False := by first | exact c22b2 | (have h_ := c22b2; simp only [ByteArray.size_append, Int.natCast_add] at h_; exact h_)
           by_cases c23 : a0_7 = true
           ·subst c23
            have H1 : (if 1 + a0_8.size ≤ 9223372036854775807 then (if ((x3_10 ++ a0_4) ++ ((⟨#[63]⟩ : ByteArray) ++ a0_6)).size + ((⟨#[35]⟩ : ByteArray) ++ a0_8).size ≤ 9223372036854775807 then (some (((x3_10 ++ a0_4) ++ ((⟨#[63]⟩ : ByteArray) ++ a0_6)) ++ ((⟨#[35]⟩ : ByteArray) ++ a0_8))) else (none)) else (none)) = some r := by rw [if_pos rfl] at H; exact H
            clear H
            have H := H1
            clear H1
            by_cases c24 : 1 + a0_8.size ≤ 9223372036854775807
            ·rw [if_pos c24] at H
             have c24b0 := eq_true c24; have c24b1 : decide (1 + a0_8.size ≤ 9223372036854775807) = true := decide_eq_true c24
             try have c24b2 : (9223372036854775807 < 1 + a0_8.size) = False := eq_false (Nat.not_lt.2 c24)
             try have c24c0 : (9223372036854775807 ≤ a0_8.size) = False := eq_false (by omega)
             try have c24c1 : (a0_8.size < 9223372036854775807) = True := eq_true (by omega)
             by_cases c25 : ((x3_10 ++ a0_4) ++ ((⟨#[63]⟩ : ByteArray) ++ a0_6)).size + ((⟨#[35]⟩ : ByteArray) ++ a0_8).size ≤ 9223372036854775807
             ·rw [if_pos c25] at H
              have c25b0 := eq_true c25
              try have c25m : ((x3_10.size + a0_4.size + (1 + a0_6.size)) + (1 + a0_8.size) ≤ 9223372036854775807) = True := by first | exact c25b0 | (have h_ := c25; simp only [ByteArray.size_append, Int.natCast_add] at h_; exact eq_true h_)
              have c25b1 : decide (((x3_10 ++ a0_4) ++ ((⟨#[63]⟩ : ByteArray) ++ a0_6)).size + ((⟨#[35]⟩ : ByteArray) ++ a0_8).size ≤ 9223372036854775807) = true := decide_eq_true c25
              try have c25b1n : decide ((x3_10.size + a0_4.size + (1 + a0_6.size)) + (1 + a0_8.size) ≤ 9223372036854775807) = true := by first | exact c25b1 | (have h_ := c25b1; simp only [ByteArray.size_append, Int.natCast_add] at h_; exact h_)
              try have c25b2 : (9223372036854775807 < ((x3_10 ++ a0_4) ++ ((⟨#[63]⟩ : ByteArray) ++ a0_6)).size + ((⟨#[35]⟩ : ByteArray) ++ a0_8).size) = False := eq_false (Nat.not_lt.2 c25)
              try have c25b2n : (9223372036854775807 < (x3_10.size + a0_4.size + (1 + a0_6.size)) + (1 + a0_8.size)) = False := by first | exact c25b2 | (have h_ := c25b2; simp only [ByteArray.size_append, Int.natCast_add] at h_; exact h_)
              obtain rfl := Option.some.inj H
              obtain ⟨hcz26_0, hcz26_1, hcz26_2, hcz26_3, hcz26_4, hcz26_5, hcz26_6, hcz26_7, hcz26_8⟩ := blkc9_ BK125.out; obtain ⟨hfz26_0, hfz26_1, hfz26_2, hfz26_3, hfz26_4, hfz26_5, hfz26_6, hfz26_7, hfz26_8⟩ := blkf9_ BK125.out; go_wp2
              go_ret
              exact ⟨z25_, z15_⟩
             ·rw [if_neg c25] at H
              exact absurd H (by simp)
            ·rw [if_neg c24] at H
             exact absurd H (by simp)
           ·replace c23 := Bool.eq_false_iff.mpr c23
            subst c23
            have H1 : (some ((x3_10 ++ a0_4) ++ ((⟨#[63]⟩ : ByteArray) ++ a0_6))) = some r := by rw [if_neg (show ¬ (false = true) by decide)] at H; exact H
            clear H
            have H := H1
            clear H1
            obtain rfl := Option.some.inj H
            obtain ⟨hcz27_0, hcz27_1, hcz27_2, hcz27_3, hcz27_4, hcz27_5, hcz27_6, hcz27_7, hcz27_8⟩ := blkc9_ BK125.out; obtain ⟨hfz27_0, hfz27_1, hfz27_2, hfz27_3, hfz27_4, hfz27_5, hfz27_6, hfz27_7, hfz27_8⟩ := blkf9_ BK125.out; go_wp2
            go_ret
            exact ⟨z25_, z15_⟩
          ·rw [if_neg c22] at H
           exact absurd H (by simp)
         ·rw [if_neg c21] at H
          exact absurd H (by simp)
        ·replace c20 := Bool.eq_false_iff.mpr c20
         subst c20
         have H1 : (if a0_7 = true then (if 1 + a0_8.size ≤ 9223372036854775807 then (if (x3_10 ++ a0_4).size + ((⟨#[35]⟩ : ByteArray) ++ a0_8).size ≤ 9223372036854775807 then (some ((x3_10 ++ a0_4) ++ ((⟨#[35]⟩ : ByteArray) ++ a0_8))) else (none)) else (none)) else (some (x3_10 ++ a0_4))) = some r := by rw [if_neg (show ¬ (false = true) by decide)] at H; exact H
         clear H
         have H := H1
         clear H1
         by_cases c28 : a0_7 = true
         ·subst c28
          have H1 : (if 1 + a0_8.size ≤ 9223372036854775807 then (if (x3_10 ++ a0_4).size + ((⟨#[35]⟩ : ByteArray) ++ a0_8).size ≤ 9223372036854775807 then (some ((x3_10 ++ a0_4) ++ ((⟨#[35]⟩ : ByteArray) ++ a0_8))) else (none)) else (none)) = some r := by rw [if_pos rfl] at H; exact H
          clear H
          have H := H1
          clear H1
          by_cases c29 : 1 + a0_8.size ≤ 9223372036854775807
          ·rw [if_pos c29] at H
           have c29b0 := eq_true c29; have c29b1 : decide (1 + a0_8.size ≤ 9223372036854775807) = true := decide_eq_true c29
           try have c29b2 : (9223372036854775807 < 1 + a0_8.size) = False := eq_false (Nat.not_lt.2 c29)
           try have c29c0 : (9223372036854775807 ≤ a0_8.size) = False := eq_false (by omega)
           try have c29c1 : (a0_8.size < 9223372036854775807) = True := eq_true (by omega)
           by_cases c30 : (x3_10 ++ a0_4).size + ((⟨#[35]⟩ : ByteArray) ++ a0_8).size ≤ 9223372036854775807
           ·rw [if_pos c30] at H
            have c30b0 := eq_true c30
            try have c30m : ((x3_10.size + a0_4.size) + (1 + a0_8.size) ≤ 9223372036854775807) = True := by first | exact c30b0 | (have h_ := c30; simp only [ByteArray.size_append, Int.natCast_add] at h_; exact eq_true h_)
            have c30b1 : decide ((x3_10 ++ a0_4).size + ((⟨#[35]⟩ : ByteArray) ++ a0_8).size ≤ 9223372036854775807) = true := decide_eq_true c30
            try have c30b1n : decide ((x3_10.size + a0_4.size) + (1 + a0_8.size) ≤ 9223372036854775807) = true := by first | exact c30b1 | (have h_ := c30b1; simp only [ByteArray.size_append, Int.natCast_add] at h_; exact h_)
            try have c30b2 : (9223372036854775807 < (x3_10 ++ a0_4).size + ((⟨#[35]⟩ : ByteArray) ++ a0_8).size) = False := eq_false (Nat.not_lt.2 c30)
            try have c30b2n : (9223372036854775807 < (x3_10.size + a0_4.size) + (1 + a0_8.size)) = False := by first | exact c30b2 | (have h_ := c30b2; simp only [ByteArray.size_append, Int.natCast_add] at h_; exact h_)
            obtain rfl := Option.some.inj H
            obtain ⟨hcz31_0, hcz31_1, hcz31_2, hcz31_3, hcz31_4, hcz31_5, hcz31_6, hcz31_7, hcz31_8⟩ := blkc9_ BK125.out; obtain ⟨hfz31_0, hfz31_1, hfz31_2, hfz31_3, hfz31_4, hfz31_5, hfz31_6, hfz31_7, hfz31_8⟩ := blkf9_ BK125.out; go_wp2
            go_ret
            exact ⟨z25_, z15_⟩
           ·rw [if_neg c30] at H
            exact absurd H (by simp)
          ·rw [if_neg c29] at H
           exact absurd H (by simp)
         ·replace c28 := Bool.eq_false_iff.mpr c28
          subst c28
          have H1 : (some (x3_10 ++ a0_4)) = some r := by rw [if_neg (show ¬ (false = true) by decide)] at H; exact H
          clear H
          have H := H1
          clear H1
          obtain rfl := Option.some.inj H
          obtain ⟨hcz32_0, hcz32_1, hcz32_2, hcz32_3, hcz32_4, hcz32_5, hcz32_6, hcz32_7, hcz32_8⟩ := blkc9_ BK125.out; obtain ⟨hfz32_0, hfz32_1, hfz32_2, hfz32_3, hfz32_4, hfz32_5, hfz32_6, hfz32_7, hfz32_8⟩ := blkf9_ BK125.out; go_wp2
          go_ret
          exact ⟨z25_, z15_⟩
       ·rw [if_neg c19] at H
        exact absurd H (by simp)
    ·rw [if_neg c10] at H
     exact absurd H (by simp)
 ·rw [if_neg c2] at H
  exact absurd H (by simp)

mutual
def pursuivantref04_Trim.j1 : Nat → ByteArray → Option (ByteArray)
 | 0, _ => none
 | k + 1, x0 => pursuivantref04_Trim.l1 k x0
def pursuivantref04_Trim.l1 : Nat → ByteArray → Option (ByteArray)
 | 0, _ => none
 | k + 1, x0 => if (x0.size : Int) > 0 then (if 0 ≤ (wrap64 ((x0.size : Int) - 1)) then (if (wrap64 ((x0.size : Int) - 1)) < (x0.size : Int) then (if (bt x0 (wrap64 ((x0.size : Int) - 1))) = 32 then (if (wrap64 ((x0.size : Int) - 1)) ≤ (x0.size : Int) then (pursuivantref04_Trim.l1 k (x0.extract 0 ((wrap64 ((x0.size : Int) - 1)) : Int).toNat)) else (none)) else (if (bt x0 (wrap64 ((x0.size : Int) - 1))) = 9 then (if (wrap64 ((x0.size : Int) - 1)) ≤ (x0.size : Int) then (pursuivantref04_Trim.l1 k (x0.extract 0 ((wrap64 ((x0.size : Int) - 1)) : Int).toNat)) else (none)) else (some x0))) else (none)) else (none)) else (some x0)
def pursuivantref04_Trim.l0 : Nat → ByteArray → Option (ByteArray)
 | 0, _ => none
 | k + 1, x0 => if (x0.size : Int) > 0 then (if 0 < (x0.size : Int) then (if (bt x0 0) = 32 then (if 1 ≤ (x0.size : Int) then (pursuivantref04_Trim.l0 k (x0.extract 1 x0.size)) else (none)) else (if (bt x0 0) = 9 then (if 1 ≤ (x0.size : Int) then (pursuivantref04_Trim.l0 k (x0.extract 1 x0.size)) else (none)) else (pursuivantref04_Trim.j1 k x0))) else (none)) else (pursuivantref04_Trim.j1 k x0)
end
def pursuivantref04_Trim.f (k : Nat) (a0 : ByteArray) : Option (ByteArray) := pursuivantref04_Trim.l0 k a0
set_option maxHeartbeats 8000000 in
set_option maxRecDepth 100000 in
theorem pursuivantref04_Trim.calls (k : Nat) (a0 r : ByteArray) (w : World) (hG_ : GW w) (h : pursuivantref04_Trim.f k a0 = some r) :
  Calls Tryz.prog 77 #[.string a0] w fun e w' => e = .returned (.string r) ∧ Drawn0 w w' := by
 have H : (pursuivantref04_Trim.l0 k a0) = some r := h
 clear h; have HC2 := Aside0.mk H; clear H
 go_enter Tryz.func77, Tryz.ntmps77
 go_upto_block 0 with (fail)
 go_cut [0] (fun v0 wc => ∃ (kq : Nat) (x0_1 : ByteArray), v0 = .string x0_1 ∧ Aside0 (pursuivantref04_Trim.j1 kq x0_1 = some r) ∧ Aside0 (kq ≤ k) ∧ Drawn0 w wc)
 case first =>
  have H := HC2.out
  clear HC2
  have H' := Aside0.mk H
  clear H; go_wp2
  go_loopg [0] k (fun kq v0 w' => ∃ (x0_1 : ByteArray), v0 = .string x0_1 ∧ Aside0 (pursuivantref04_Trim.l0 kq x0_1 = some r) ∧ Aside0 (kq ≤ k) ∧ Drawn0 w w')
  case atStart => exact ⟨(a0), z56_, H', ⟨Nat.le_refl _⟩, z58_⟩
  case round =>
   clear H'
   obtain ⟨x0_1, rfl, HA, HK1, ⟨m1, rfl⟩⟩ := hrel
   cases gk with
   | zero => exact absurd HA.out (by simp [pursuivantref04_Trim.l0])
   | succ k1 =>
    have H := HA.out
    clear HA
    simp only [pursuivantref04_Trim.l0] at H
    by_cases c3 : (x0_1.size : Int) > 0
    ·rw [if_pos c3] at H
     have c3b0 : decide (0 < (x0_1.size : Int)) = true := decide_eq_true c3
     have c3b1 : decide (0 < x0_1.size) = true := decide_eq_true (by omega)
     clear c3
     (first | rw [c3b0] | (simp only [i64_w, i32_w]; rw [c3b0]) | rw [c3e0] | skip)
     by_cases c4 : 0 < (x0_1.size : Int)
     ·rw [if_pos c4] at H
      have c4b0 : decide (0 < (x0_1.size : Int)) = true := decide_eq_true c4
      have c4b1 : decide (0 < x0_1.size) = true := decide_eq_true (by omega)
      clear c4
      by_cases c6 : (bt x0_1 0) = 32
      ·rw [if_pos c6] at H
       have c6b0 : ((bt x0_1 0) == 32) = true := beq_iff_eq.mpr c6
       have c6b1 : ((bt x0_1 0) != 32) = false := bne_eq_false_iff_eq.mpr c6
       clear c6
       by_cases c7 : 1 ≤ (x0_1.size : Int)
       ·rw [if_pos c7] at H
        have c7b0 := eq_true c7; have c7b1 : decide (1 ≤ (x0_1.size : Int)) = true := decide_eq_true c7; clear c7
        have H' := Aside0.mk H
        clear H
        have p5 : 0 ≤ (0 : Int) := (by omega)
        have q5 : 0 < x0_1.size := (by have : (0 : Int) < (x0_1.size : Int) := of_decide_eq_true z61_; omega)
        have hx5 : ∀ h : 0 < x0_1.size, ((x0_1[0]'h).toNat : Int) = bt x0_1 0 := bt_at x0_1 0
        clear p5
        have qi5 : (0 < (x0_1.size : Int)) = True := eq_true (of_decide_eq_true z61_)
        replace q5 := eq_true q5
        go_wp2
        go_roundg k1
        case measure => have := HK1.out; omega
        case rel => exact ⟨(x0_1.extract 1 x0_1.size), z56_, H', ⟨z66_⟩, z58_⟩
       ·rw [if_neg c7] at H
        exact absurd H (by simp)
      ·rw [if_neg c6] at H
       have c6b0 : ((bt x0_1 0) == 32) = false := beq_eq_false_iff_ne.mpr c6
       have c6b1 : ((bt x0_1 0) != 32) = true := bne_iff_ne.mpr c6
       by_cases c9 : (bt x0_1 0) = 9
       ·rw [if_pos c9] at H
        have c9b0 : ((bt x0_1 0) == 9) = true := beq_iff_eq.mpr c9
        have c9b1 : ((bt x0_1 0) != 9) = false := bne_eq_false_iff_eq.mpr c9
        clear c9
        by_cases c10 : 1 ≤ (x0_1.size : Int)
        ·rw [if_pos c10] at H
         have c10b0 := eq_true c10; have c10b1 : decide (1 ≤ (x0_1.size : Int)) = true := decide_eq_true c10; clear c10
         have H' := Aside0.mk H
         clear H
         have p5 : 0 ≤ (0 : Int) := (by omega)
         have q5 : 0 < x0_1.size := (by have : (0 : Int) < (x0_1.size : Int) := of_decide_eq_true z61_; omega)
         have hx5 : ∀ h : 0 < x0_1.size, ((x0_1[0]'h).toNat : Int) = bt x0_1 0 := bt_at x0_1 0
         clear p5
         have qi5 : (0 < (x0_1.size : Int)) = True := eq_true (of_decide_eq_true z61_)
         replace q5 := eq_true q5
         have p8 : 0 ≤ (0 : Int) := (by omega)
         have q8 : 0 < x0_1.size := (by have : (0 : Int) < (x0_1.size : Int) := of_decide_eq_true z61_; omega)
         have hx8 : ∀ h : 0 < x0_1.size, ((x0_1[0]'h).toNat : Int) = bt x0_1 0 := bt_at x0_1 0
         clear p8
         have qi8 : (0 < (x0_1.size : Int)) = True := eq_true (of_decide_eq_true z61_)
         replace q8 := eq_true q8
         go_wp2
         go_roundg k1
         case measure => have := HK1.out; omega
         case rel => exact ⟨(x0_1.extract 1 x0_1.size), z56_, H', ⟨z66_⟩, z58_⟩
        ·rw [if_neg c10] at H
         exact absurd H (by simp)
       ·rw [if_neg c9] at H
        have c9b0 : ((bt x0_1 0) == 9) = false := beq_eq_false_iff_ne.mpr c9
        have c9b1 : ((bt x0_1 0) != 9) = true := bne_iff_ne.mpr c9
        have H' := Aside0.mk H
        clear H
        have p5 : 0 ≤ (0 : Int) := (by omega)
        have q5 : 0 < x0_1.size := (by have : (0 : Int) < (x0_1.size : Int) := of_decide_eq_true z61_; omega)
        have hx5 : ∀ h : 0 < x0_1.size, ((x0_1[0]'h).toNat : Int) = bt x0_1 0 := bt_at x0_1 0
        clear p5
        have qi5 : (0 < (x0_1.size : Int)) = True := eq_true (of_decide_eq_true z61_)
        replace q5 := eq_true q5
        have p8 : 0 ≤ (0 : Int) := (by omega)
        have q8 : 0 < x0_1.size := (by have : (0 : Int) < (x0_1.size : Int) := of_decide_eq_true z61_; omega)
        have hx8 : ∀ h : 0 < x0_1.size, ((x0_1[0]'h).toNat : Int) = bt x0_1 0 := bt_at x0_1 0
        clear p8
        have qi8 : (0 < (x0_1.size : Int)) = True := eq_true (of_decide_eq_true z61_)
        replace q8 := eq_true q8
        go_wp2; go_meet
        case rel => exact ⟨_, (x0_1), z56_, H', ⟨z59_⟩, z58_⟩
     ·rw [if_neg c4] at H
      exact absurd H (by simp)
    ·rw [if_neg c3] at H
     have c3b0 : decide (0 < (x0_1.size : Int)) = false := decide_eq_false c3
     have c3b1 : decide (0 < x0_1.size) = false := decide_eq_false (by omega)
     clear c3
     (first | rw [c3b0] | (simp only [i64_w, i32_w]; rw [c3b0]) | rw [c3e0] | skip)
     have H' := Aside0.mk H
     clear H; go_wp2; go_meet
     case rel => exact ⟨_, (x0_1), z56_, H', ⟨z59_⟩, z58_⟩
 case rest =>
  clear HC2
  obtain ⟨kq, x0_1, rfl, HA, HJ1, ⟨mc1, rfl⟩⟩ := hcut
  cases kq with
  | zero => exact absurd HA.out (by simp [pursuivantref04_Trim.j1])
  | succ kj1 =>
   have H := HA.out
   clear HA
   simp only [pursuivantref04_Trim.j1] at H
   have H' := Aside0.mk H
   clear H; go_wp2
   go_loopg [0] kj1 (fun kq v0 w' => ∃ (x0_2 : ByteArray), v0 = .string x0_2 ∧ Aside0 (pursuivantref04_Trim.l1 kq x0_2 = some r) ∧ Aside0 (kq ≤ kj1) ∧ Drawn0 w w')
   case atStart => exact ⟨(x0_1), z56_, H', ⟨Nat.le_refl _⟩, z58_⟩
   case round =>
    clear H'
    obtain ⟨x0_2, rfl, HA, HK2, ⟨m2, rfl⟩⟩ := hrel
    cases gk with
    | zero => exact absurd HA.out (by simp [pursuivantref04_Trim.l1])
    | succ k2 =>
     have H := HA.out
     clear HA
     simp only [pursuivantref04_Trim.l1] at H
     by_cases c11 : (x0_2.size : Int) > 0
     ·rw [if_pos c11] at H
      have c11b0 : decide (0 < (x0_2.size : Int)) = true := decide_eq_true c11
      have c11b1 : decide (0 < x0_2.size) = true := decide_eq_true (by omega)
      clear c11
      obtain ⟨ji12, hji12⟩ : ∃ j_ : Int, (wrap64 ((x0_2.size : Int) - 1)) = j_ := ⟨_, rfl⟩
      replace H : (if 0 ≤ (ji12) then (if (ji12) < (x0_2.size : Int) then (if (bt x0_2 (ji12)) = 32 then (if (ji12) ≤ (x0_2.size : Int) then (pursuivantref04_Trim.l1 k2 (x0_2.extract 0 ((ji12) : Int).toNat)) else (none)) else (if (bt x0_2 (ji12)) = 9 then (if (ji12) ≤ (x0_2.size : Int) then (pursuivantref04_Trim.l1 k2 (x0_2.extract 0 ((ji12) : Int).toNat)) else (none)) else (some x0_2))) else (none)) else (none)) = some r := by first | (rw [hji12] at H; exact H) | (simp only [hji12] at H ⊢; exact H)
      have hji12w : (IntKind.i64.wrap ((x0_2.size : Int) - 1)) = ji12 := (i64_w _).trans hji12
      by_cases c13 : 0 ≤ (ji12)
      ·rw [if_pos c13] at H
       have c13b0 : decide (0 ≤ (ji12)) = true := decide_eq_true c13; clear c13
       by_cases c14 : (ji12) < (x0_2.size : Int)
       ·rw [if_pos c14] at H
        have c14b0 : decide ((ji12) < (x0_2.size : Int)) = true := decide_eq_true c14; clear c14
        by_cases c16 : (bt x0_2 (ji12)) = 32
        ·rw [if_pos c16] at H
         have c16b0 : ((bt x0_2 (ji12)) == 32) = true := beq_iff_eq.mpr c16
         have c16b1 : ((bt x0_2 (ji12)) != 32) = false := bne_eq_false_iff_eq.mpr c16
         clear c16
         have c17b0 := eq_true (of_decide_eq_true z61_ : 0 ≤ (ji12))
         by_cases c18 : (ji12) ≤ (x0_2.size : Int)
         ·rw [if_pos c18] at H
          have c18b0 := eq_true c18; have c18b1 : decide ((ji12) ≤ (x0_2.size : Int)) = true := decide_eq_true c18; clear c18
          have H' := Aside0.mk H
          clear H
          have p15 : 0 ≤ ((ji12) : Int) := of_decide_eq_true z61_
          have q15 : (ji12) < (x0_2.size : Int) := of_decide_eq_true z61_
          have hx15 := bt_at x0_2 (ji12)
          replace p15 := eq_true p15
          replace q15 := eq_true q15
          go_wp2
          go_roundg k2
          case measure => have := HJ1.out; have := HK2.out; omega
          case rel => exact ⟨(x0_2.extract 0 ((ji12) : Int).toNat), z26_, H', ⟨z62_⟩, z58_⟩
         ·rw [if_neg c18] at H
          exact absurd H (by simp)
        ·rw [if_neg c16] at H
         have c16b0 : ((bt x0_2 (ji12)) == 32) = false := beq_eq_false_iff_ne.mpr c16
         have c16b1 : ((bt x0_2 (ji12)) != 32) = true := bne_iff_ne.mpr c16
         by_cases c20 : (bt x0_2 (ji12)) = 9
         ·rw [if_pos c20] at H
          have c20b0 : ((bt x0_2 (ji12)) == 9) = true := beq_iff_eq.mpr c20
          have c20b1 : ((bt x0_2 (ji12)) != 9) = false := bne_eq_false_iff_eq.mpr c20
          clear c20
          have c21b0 := eq_true (of_decide_eq_true z61_ : 0 ≤ (ji12))
          by_cases c22 : (ji12) ≤ (x0_2.size : Int)
          ·rw [if_pos c22] at H
           have c22b0 := eq_true c22; have c22b1 : decide ((ji12) ≤ (x0_2.size : Int)) = true := decide_eq_true c22; clear c22
           have H' := Aside0.mk H
           clear H
           have p15 : 0 ≤ ((ji12) : Int) := of_decide_eq_true z61_
           have q15 : (ji12) < (x0_2.size : Int) := of_decide_eq_true z61_
           have hx15 := bt_at x0_2 (ji12)
           replace p15 := eq_true p15
           replace q15 := eq_true q15
           have p19 : 0 ≤ ((ji12) : Int) := of_decide_eq_true z61_
           have q19 : (ji12) < (x0_2.size : Int) := of_decide_eq_true z61_
           have hx19 := bt_at x0_2 (ji12)
           replace p19 := eq_true p19
           replace q19 := eq_true q19
           go_wp2
           go_roundg k2
           case measure => have := HJ1.out; have := HK2.out; omega
           case rel => exact ⟨(x0_2.extract 0 ((ji12) : Int).toNat), z26_, H', ⟨z62_⟩, z58_⟩
          ·rw [if_neg c22] at H
           exact absurd H (by simp)
         ·rw [if_neg c20] at H
          have c20b0 : ((bt x0_2 (ji12)) == 9) = false := beq_eq_false_iff_ne.mpr c20
          have c20b1 : ((bt x0_2 (ji12)) != 9) = true := bne_iff_ne.mpr c20
          obtain rfl := Option.some.inj H
          have p15 : 0 ≤ ((ji12) : Int) := of_decide_eq_true z61_
          have q15 : (ji12) < (x0_2.size : Int) := of_decide_eq_true z61_
          have hx15 := bt_at x0_2 (ji12)
          replace p15 := eq_true p15
          replace q15 := eq_true q15
          have p19 : 0 ≤ ((ji12) : Int) := of_decide_eq_true z61_
          have q19 : (ji12) < (x0_2.size : Int) := of_decide_eq_true z61_
          have hx19 := bt_at x0_2 (ji12)
          replace p19 := eq_true p19
          replace q19 := eq_true q19
          go_wp2
          go_ret
          exact ⟨z26_, z58_⟩
       ·rw [if_neg c14] at H
        exact absurd H (by simp)
      ·rw [if_neg c13] at H
       exact absurd H (by simp)
     ·rw [if_neg c11] at H
      have c11b0 : decide (0 < (x0_2.size : Int)) = false := decide_eq_false c11
      have c11b1 : decide (0 < x0_2.size) = false := decide_eq_false (by omega)
      clear c11
      obtain rfl := Option.some.inj H
      go_wp2
      go_ret
      exact ⟨z56_, z58_⟩

def pursuivantref09_Value.l0 : Nat → ByteArray → Int → Option (Bool)
 | 0, _, _ => none
 | k + 1, x0, x3 => if x3 < (x0.size : Int) then (if 0 ≤ x3 then (if (bt x0 x3) = 9 then (pursuivantref09_Value.l0 k x0 (wrap64 (x3 + 1))) else (if (bt x0 x3) < 32 then (some false) else (if (bt x0 x3) > 126 then (some false) else (pursuivantref09_Value.l0 k x0 (wrap64 (x3 + 1)))))) else (none)) else (if (x0.size : Int) ≤ 512 then ((pursuivantref04_Trim.f k x0).bind fun t127 => (some (t127.toList == x0.toList))) else (some false))
def pursuivantref09_Value.f (k : Nat) (a0 : ByteArray) : Option (Bool) := pursuivantref09_Value.l0 k a0 0
set_option maxHeartbeats 8000000 in
set_option maxRecDepth 100000 in
theorem pursuivantref09_Value.calls (k : Nat) (a0 : ByteArray) (r : Bool) (w : World) (hG_ : GW w) (h : pursuivantref09_Value.f k a0 = some r) :
  Calls Tryz.prog 38 #[.string a0] w fun e w' => e = .returned (.bool r) ∧ Drawn0 w w' := by
 have H : (pursuivantref09_Value.l0 k a0 0) = some r := h
 clear h
 have H' := Aside0.mk H
 clear H
 go_enter Tryz.func38, Tryz.ntmps38
 go_wp2
 go_loopg [3] k (fun kq v3 w' => ∃ (x3_1 : Int), v3 = .int .i64 x3_1 ∧ Aside0 (pursuivantref09_Value.l0 kq a0 x3_1 = some r) ∧ Aside0 (kq ≤ k) ∧ Drawn0 w w')
 case atStart => exact ⟨(0), z56_, H', ⟨Nat.le_refl _⟩, z58_⟩
 case round =>
  clear H'
  obtain ⟨x3_1, rfl, HA, HK1, ⟨m1, rfl⟩⟩ := hrel
  cases gk with
  | zero => exact absurd HA.out (by simp [pursuivantref09_Value.l0])
  | succ k1 =>
   have H := HA.out
   clear HA
   simp only [pursuivantref09_Value.l0] at H
   by_cases c2 : x3_1 < (a0.size : Int)
   ·rw [if_pos c2] at H
    have c2b0 : decide (x3_1 < (a0.size : Int)) = true := decide_eq_true c2; clear c2
    by_cases c3 : 0 ≤ x3_1
    ·rw [if_pos c3] at H
     have c3b0 : decide (0 ≤ x3_1) = true := decide_eq_true c3; clear c3
     by_cases c5 : (bt a0 x3_1) = 9
     ·rw [if_pos c5] at H
      have c5b0 : ((bt a0 x3_1) == 9) = true := beq_iff_eq.mpr c5
      have c5b1 : ((bt a0 x3_1) != 9) = false := bne_eq_false_iff_eq.mpr c5
      clear c5
      have H' := Aside0.mk H
      clear H
      have p4 : 0 ≤ (x3_1 : Int) := of_decide_eq_true z61_
      have q4 : x3_1 < (a0.size : Int) := of_decide_eq_true z61_
      have hx4 := bt_at a0 x3_1
      replace p4 := eq_true p4
      replace q4 := eq_true q4
      go_wp2
      go_roundg k1
      case measure => have := HK1.out; omega
      case rel => exact ⟨(wrap64 (x3_1 + 1)), z56_, H', ⟨z66_⟩, z58_⟩
     ·rw [if_neg c5] at H
      have c5b0 : ((bt a0 x3_1) == 9) = false := beq_eq_false_iff_ne.mpr c5
      have c5b1 : ((bt a0 x3_1) != 9) = true := bne_iff_ne.mpr c5
      by_cases c7 : (bt a0 x3_1) < 32
      ·rw [if_pos c7] at H
       have c7b0 : decide ((bt a0 x3_1) < 32) = true := decide_eq_true c7; clear c7
       obtain rfl := Option.some.inj H
       have p4 : 0 ≤ (x3_1 : Int) := of_decide_eq_true z61_
       have q4 : x3_1 < (a0.size : Int) := of_decide_eq_true z61_
       have hx4 := bt_at a0 x3_1
       replace p4 := eq_true p4
       replace q4 := eq_true q4
       have p6 : 0 ≤ (x3_1 : Int) := of_decide_eq_true z61_
       have q6 : x3_1 < (a0.size : Int) := of_decide_eq_true z61_
       have hx6 := bt_at a0 x3_1
       replace p6 := eq_true p6
       replace q6 := eq_true q6
       go_wp2
       go_ret
       exact ⟨z56_, z58_⟩
      ·rw [if_neg c7] at H
       have c7b0 : decide ((bt a0 x3_1) < 32) = false := decide_eq_false c7; clear c7
       by_cases c9 : (bt a0 x3_1) > 126
       ·rw [if_pos c9] at H
        have c9b0 : decide (126 < (bt a0 x3_1)) = true := decide_eq_true c9; clear c9
        obtain rfl := Option.some.inj H
        have p4 : 0 ≤ (x3_1 : Int) := of_decide_eq_true z61_
        have q4 : x3_1 < (a0.size : Int) := of_decide_eq_true z61_
        have hx4 := bt_at a0 x3_1
        replace p4 := eq_true p4
        replace q4 := eq_true q4
        have p6 : 0 ≤ (x3_1 : Int) := of_decide_eq_true z61_
        have q6 : x3_1 < (a0.size : Int) := of_decide_eq_true z61_
        have hx6 := bt_at a0 x3_1
        replace p6 := eq_true p6
        replace q6 := eq_true q6
        have p8 : 0 ≤ (x3_1 : Int) := of_decide_eq_true z61_
        have q8 : x3_1 < (a0.size : Int) := of_decide_eq_true z61_
        have hx8 := bt_at a0 x3_1
        replace p8 := eq_true p8
        replace q8 := eq_true q8
        go_wp2
        go_ret
        exact ⟨z56_, z58_⟩
       ·rw [if_neg c9] at H
        have c9b0 : decide (126 < (bt a0 x3_1)) = false := decide_eq_false c9; clear c9
        have H' := Aside0.mk H
        clear H
        have p4 : 0 ≤ (x3_1 : Int) := of_decide_eq_true z61_
        have q4 : x3_1 < (a0.size : Int) := of_decide_eq_true z61_
        have hx4 := bt_at a0 x3_1
        replace p4 := eq_true p4
        replace q4 := eq_true q4
        have p6 : 0 ≤ (x3_1 : Int) := of_decide_eq_true z61_
        have q6 : x3_1 < (a0.size : Int) := of_decide_eq_true z61_
        have hx6 := bt_at a0 x3_1
        replace p6 := eq_true p6
        replace q6 := eq_true q6
        have p8 : 0 ≤ (x3_1 : Int) := of_decide_eq_true z61_
        have q8 : x3_1 < (a0.size : Int) := of_decide_eq_true z61_
        have hx8 := bt_at a0 x3_1
        replace p8 := eq_true p8
        replace q8 := eq_true q8
        go_wp2
        go_roundg k1
        case measure => have := HK1.out; omega
        case rel => exact ⟨(wrap64 (x3_1 + 1)), z56_, H', ⟨z66_⟩, z58_⟩
    ·rw [if_neg c3] at H
     exact absurd H (by simp)
   ·rw [if_neg c2] at H
    have c2b0 : decide (x3_1 < (a0.size : Int)) = false := decide_eq_false c2; clear c2
    by_cases c10 : (a0.size : Int) ≤ 512
    ·rw [if_pos c10] at H
     have c10b0 : decide ((a0.size : Int) ≤ 512) = true := decide_eq_true c10
     have c10b1 : decide (a0.size ≤ 512) = true := decide_eq_true (by omega)
     clear c10
     replace H := Option.bind_eq_some_iff.mp H
     obtain ⟨t127, A110, H⟩ := H
     replace H : (some (t127.toList == a0.toList)) = some r := H
     have A11 := Aside0.mk A110; clear A110
     obtain rfl := Option.some.inj H
     go_wp2_with (first | (go_at_call 77; (fail_if_success (have z_ := U_3)); have U_3 := trivial; (with_reducible refine (pursuivantref04_Trim.calls k1 a0 t127 _ ?gw9_ A11.out).mono ?_); (case gw9_ => exact z5_); rintro e w' ⟨rfl, ⟨nd, rfl⟩⟩))
     go_ret
     exact ⟨z56_, z58_⟩
    ·rw [if_neg c10] at H
     have c10b0 : decide ((a0.size : Int) ≤ 512) = false := decide_eq_false c10
     have c10b1 : decide (a0.size ≤ 512) = false := decide_eq_false (by omega)
     clear c10
     obtain rfl := Option.some.inj H
     go_wp2
     go_ret
     exact ⟨z56_, z58_⟩

def pursuivantlaw27_short.f (a0 : ByteArray) : Option (ByteArray) := if (a0.size : Int) > 2100 then (if 0 ≤ 2100 then (if 2100 ≤ (a0.size : Int) then (some (a0.extract 0 2100)) else (none)) else (none)) else (some a0)
set_option maxHeartbeats 8000000 in
set_option maxRecDepth 100000 in
theorem pursuivantlaw27_short.calls (a0 r : ByteArray) (w : World) (hG_ : GW w) (h : pursuivantlaw27_short.f a0 = some r) :
  Calls Tryz.prog 11 #[.string a0] w fun e w' => e = .returned (.string r) ∧ Drawn0 w w' := by
 have H : (if (a0.size : Int) > 2100 then (if 0 ≤ 2100 then (if 2100 ≤ (a0.size : Int) then (some (a0.extract 0 2100)) else (none)) else (none)) else (some a0)) = some r := h
 clear h
 by_cases c2 : (a0.size : Int) > 2100
 ·rw [if_pos c2] at H
  have c2b0 : decide (2100 < (a0.size : Int)) = true := decide_eq_true c2
  have c2b1 : decide (2100 < a0.size) = true := decide_eq_true (by omega)
  clear c2
  by_cases c3 : 0 ≤ 2100
  ·rw [if_pos c3] at H
   have c3b0 := eq_true c3; have c3b1 : decide (0 ≤ 2100) = true := decide_eq_true c3; clear c3
   by_cases c4 : 2100 ≤ (a0.size : Int)
   ·rw [if_pos c4] at H
    have c4b0 := eq_true c4; have c4b1 : decide (2100 ≤ (a0.size : Int)) = true := decide_eq_true c4; clear c4
    obtain rfl := Option.some.inj H
    go_enter Tryz.func11, Tryz.ntmps11
    go_wp2
    go_ret
    exact ⟨z56_, z58_⟩
   ·rw [if_neg c4] at H
    exact absurd H (by simp)
  ·rw [if_neg c3] at H
   exact absurd H (by simp)
 ·rw [if_neg c2] at H
  have c2b0 : decide (2100 < (a0.size : Int)) = false := decide_eq_false c2
  have c2b1 : decide (2100 < a0.size) = false := decide_eq_false (by omega)
  clear c2
  obtain rfl := Option.some.inj H
  go_enter Tryz.func11, Tryz.ntmps11
  go_wp2
  go_ret
  exact ⟨z56_, z58_⟩

def pursuivantlaw27_few.f (l0 : List (S58)) : Option ((List (S58))) := if (l0.length : Int) > 30 then (if 30 ≤ (l0.length : Int) then (some (l0.take 30)) else (none)) else (some l0)
set_option maxHeartbeats 8000000 in
set_option maxRecDepth 100000 in
theorem pursuivantlaw27_few.calls (P0_ : Nat → Prop) (A0 : Option Addr) (c0 : Nat) (l0 : List (S58)) (r : List (S58)) (w : World) (hG_ : GW w) (hs0 : Kd.V k58 58 w w.heap.size (fun k_ => P0_ k_) (.slice A0 l0.length c0) l0) (h : pursuivantlaw27_few.f l0 = some r) :
  Calls Tryz.prog 12 #[.slice A0 l0.length c0] w fun e w' => ∃ v0_ : Value, e = .returned (v0_) ∧ Kd.V k58 58 w' w.heap.size (fun k_ => (P0_ k_ ∨ w.heap.size ≤ k_)) v0_ r ∧ Below w.heap.size w w' := by
 have HO0 := Aside0.mk (show Kd.V k58 58 w w.heap.size (fun k_ => (P0_ k_ ∨ w.heap.size ≤ k_)) (.slice A0 l0.length c0) l0 from Kd.V_mono hs0 (fun k_ hk => .inl hk))
 have HB := Aside0.mk (Below.refl w.heap.size w)
 have H : (if (l0.length : Int) > 30 then (if 30 ≤ (l0.length : Int) then (some (l0.take 30)) else (none)) else (some l0)) = some r := h
 clear h
 by_cases c2 : (l0.length : Int) > 30
 ·rw [if_pos c2] at H
  have c2b0 : decide (30 < (l0.length : Int)) = true := decide_eq_true c2
  have c2b1 : decide (30 < l0.length) = true := decide_eq_true (by omega)
  clear c2
  by_cases c3 : 30 ≤ (l0.length : Int)
  ·rw [if_pos c3] at H
   have c3b0 := eq_true c3; have c3b1 : decide (30 ≤ (l0.length : Int)) = true := decide_eq_true c3; clear c3
   obtain ⟨y128, hy128⟩ : ∃ y_ : List (S58), y_ = (l0.take 30) := ⟨_, rfl⟩
   replace H : (some y128) = some r := by first | (rw [hy128]; with_reducible exact H) | (have H2_ := (Option.bind_some _ _).symm.trans H; rw [hy128]; with_reducible exact H2_) | (have H2_ := (Option.bind_some _ _).symm.trans H; with_reducible exact H2_) | with_reducible exact H | (rw [hy128]; exact H) | exact H
   have Ny128 := Aside0.mk hy128; clear hy128
   obtain rfl := Option.some.inj H
   have q4 : (30 : Int) ≤ ((l0.length : Int) : Int) := of_decide_eq_true z61_
   obtain ⟨i04, hi04, _, hsz4, _⟩ := info_parts info58
   have hroom4 : l0.length ≤ c0 := (Kd.V_reads' HO0.out).2.1
   have hC4 : Kd.F k58 _ _ A0 l0.length l0 := (Kd.V_at (base := w.heap.size) HO0.out).2.2
   have hcut4 := cut_to (P := Tryz.prog) 33 58 .i64 Tryz.underlying33 hi04 A0 l0.length c0 30 (by omega) q4 hroom4
   have hr4 := Kd.F_take (m := 30) hC4 (by omega)
   have hy4 : y128.length = (30 : Int).toNat := (by rw [Ny128.out, List.length_take]; omega)
   rw [← Ny128.out] at hr4
   rw [← hy4] at hcut4
   have HO132 := Aside0.mk (show Kd.V k58 58 _ w.heap.size _ (.slice A0 y128.length c0) y128 from Kd.V_mk (by omega) hr4)
   have HC132 := Aside0.mk (show y128.length ≤ c0 from by omega)
   clear hr4 hC4 hroom4 hi04 hsz4; have KY4 := Aside0.mk hy4; clear hy4
   replace q4 := eq_true q4
   go_enter Tryz.func12, Tryz.ntmps12
   go_wp2
   go_ret
   exact ⟨_, z25_, by (with_reducible repeat (first | apply Kd.V_alloc | apply Kd.V_drewN | apply Kd.V_drew)); exact HO132.out, z23_⟩
  ·rw [if_neg c3] at H
   exact absurd H (by simp)
 ·rw [if_neg c2] at H
  have c2b0 : decide (30 < (l0.length : Int)) = false := decide_eq_false c2
  have c2b1 : decide (30 < l0.length) = false := decide_eq_false (by omega)
  clear c2
  obtain rfl := Option.some.inj H
  go_enter Tryz.func12, Tryz.ntmps12
  go_wp2
  go_ret
  exact ⟨_, z25_, by (with_reducible repeat (first | apply Kd.V_alloc | apply Kd.V_drewN | apply Kd.V_drew)); exact HO0.out, z23_⟩

end Go.Proofs.YtoaleclnilbjcaaGreatDoor.Hand
