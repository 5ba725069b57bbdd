/- What each Go function here computes, and that its call computes it, over contracts proved by hand (written by this project's xprint.py, which drives the kit's print). -/
import Derived.Test.YteemgpciheheoaaGreatDoorRRRZ
import Derived.Test.YteemgpciheheoaaGreatDoorRRRK
import Derived.Test.YteemgpciheheoaaGreatDoorRRRLow
import Derived.Test.YteemgpciheheoaaGreatDoorRRRFA1
namespace Go.Proofs.YteemgpciheheoaaGreatDoorRRR.Hand
open Go.RowKit Go.Proofs.YteemgpciheheoaaGreatDoorRRRW.PrintWords Go.Proofs.YteemgpciheheoaaGreatDoorRRRW.PrintLast Go.Proofs.YteemgpciheheoaaGreatDoorRRRW.PrintMore
attribute [local go_sem] Instr.field asAgg max2_int min2_int max_two min_two max_three min_three max_four min_four   -- for this text's walks alone
set_option linter.unusedVariables false
set_option linter.unusedSimpArgs false

attribute [local go_sem high] eqA23
mutual
def host_label.j0 : Nat → ByteArray → Bool → Option (Bool)
 | 0, _, _ => none
 | k + 1, x0, x24 => if x24 = true then (some false) else (host_label.l0 k x0 (x0.size : Int) 0)
def host_label.l0 : Nat → ByteArray → Int → Int → Option (Bool)
 | 0, _, _, _ => none
 | k + 1, x0, x26, x27 => if x27 < x26 then (if 0 ≤ x27 then (if x27 < (x0.size : Int) then (if (bt x0 x27) < 97 then (if (bt x0 x27) < 48 then (if (bt x0 x27) = 45 then (host_label.l0 k x0 x26 (wrap64 (x27 + 1))) else (some false)) else (if (bt x0 x27) > 57 then (if (bt x0 x27) = 45 then (host_label.l0 k x0 x26 (wrap64 (x27 + 1))) else (some false)) else (host_label.l0 k x0 x26 (wrap64 (x27 + 1))))) else (if (bt x0 x27) > 122 then (if (bt x0 x27) < 48 then (if (bt x0 x27) = 45 then (host_label.l0 k x0 x26 (wrap64 (x27 + 1))) else (some false)) else (if (bt x0 x27) > 57 then (if (bt x0 x27) = 45 then (host_label.l0 k x0 x26 (wrap64 (x27 + 1))) else (some false)) else (host_label.l0 k x0 x26 (wrap64 (x27 + 1))))) else (host_label.l0 k x0 x26 (wrap64 (x27 + 1))))) else (none)) else (none)) else (some true)
end
def host_label.f (k : Nat) (a0 : ByteArray) : Option (Bool) := if a0.toList = ([] : List UInt8) then (host_label.j0 k a0 true) else (if (a0.size : Int) > 63 then (host_label.j0 k a0 true) else (if 0 < (a0.size : Int) then (if (bt a0 0) = 45 then (host_label.j0 k a0 true) else (if 0 ≤ (wrap64 ((a0.size : Int) - 1)) then (if (wrap64 ((a0.size : Int) - 1)) < (a0.size : Int) then (host_label.j0 k a0 ((bt a0 (wrap64 ((a0.size : Int) - 1))) == 45)) else (none)) else (none))) else (none)))
set_option maxHeartbeats 8000000 in
set_option maxRecDepth 100000 in
theorem host_label.calls (k : Nat) (a0 : ByteArray) (r : Bool) (w : World) (hG_ : GW w) (h : host_label.f k a0 = some r) :
  Calls Tryz.prog 128 #[.string a0] w fun e w' => e = .returned (.bool r) ∧ Drawn0 w w' := by
 have H : (if a0.toList = ([] : List UInt8) then (host_label.j0 k a0 true) else (if (a0.size : Int) > 63 then (host_label.j0 k a0 true) else (if 0 < (a0.size : Int) then (if (bt a0 0) = 45 then (host_label.j0 k a0 true) else (if 0 ≤ (wrap64 ((a0.size : Int) - 1)) then (if (wrap64 ((a0.size : Int) - 1)) < (a0.size : Int) then (host_label.j0 k a0 ((bt a0 (wrap64 ((a0.size : Int) - 1))) == 45)) else (none)) else (none))) else (none)))) = some r := h
 clear h; have HC2 := Aside0.mk H; clear H
 go_enter Tryz.func128, Tryz.ntmps128
 go_upto_region 1 with (fail)
 go_cut [24] (fun v24 wc => ∃ (kq : Nat) (x24_1 : Bool), v24 = .bool x24_1 ∧ Aside0 (host_label.j0 kq a0 x24_1 = some r) ∧ Aside0 (kq ≤ k) ∧ Drawn0 w wc)
 case first =>
  have H := HC2.out
  clear HC2
  by_cases c3 : a0.toList = ([] : List UInt8)
  ·rw [if_pos c3] at H
   have c3b0 : (a0.toList == ([] : List UInt8)) = true := beq_iff_eq.mpr c3
   try have c3e0 : a0.toList.isEmpty = true := by rw [← nil_beq]; exact c3b0
   have c3b1 : (a0.toList != ([] : List UInt8)) = false := bne_eq_false_iff_eq.mpr c3
   clear c3
   (first | rw [c3b0] | (simp only [i64_w, i32_w]; rw [c3b0]) | rw [c3e0] | skip)
   have H' := Aside0.mk H
   clear H; go_wp2; go_meet
   case rel => exact ⟨_, (true), z64_, H', ⟨z69_⟩, z65_⟩
  ·rw [if_neg c3] at H
   have c3b0 : (a0.toList == ([] : List UInt8)) = false := beq_eq_false_iff_ne.mpr c3
   try have c3e0 : a0.toList.isEmpty = false := by rw [← nil_beq]; exact c3b0
   have c3b1 : (a0.toList != ([] : List UInt8)) = true := bne_iff_ne.mpr c3
   (first | rw [c3b0] | (simp only [i64_w, i32_w]; rw [c3b0]) | rw [c3e0] | skip)
   by_cases c4 : (a0.size : Int) > 63
   ·rw [if_pos c4] at H
    have c4b0 : decide (63 < (a0.size : Int)) = true := decide_eq_true c4
    have c4b1 : decide (63 < a0.size) = true := decide_eq_true (by omega)
    clear c4
    have H' := Aside0.mk H
    clear H; go_wp2; go_meet
    case rel => exact ⟨_, (true), z64_, H', ⟨z69_⟩, z65_⟩
   ·rw [if_neg c4] at H
    have c4b0 : decide (63 < (a0.size : Int)) = false := decide_eq_false c4
    have c4b1 : decide (63 < a0.size) = false := decide_eq_false (by omega)
    clear c4
    by_cases c5 : 0 < (a0.size : Int)
    ·rw [if_pos c5] at H
     have c5b0 : decide (0 < (a0.size : Int)) = true := decide_eq_true c5
     have c5b1 : decide (0 < a0.size) = true := decide_eq_true (by omega)
     clear c5
     by_cases c7 : (bt a0 0) = 45
     ·rw [if_pos c7] at H
      have c7b0 : ((bt a0 0) == 45) = true := beq_iff_eq.mpr c7
      have c7b1 : ((bt a0 0) != 45) = false := bne_eq_false_iff_eq.mpr c7
      clear c7
      have H' := Aside0.mk H
      clear H
      have p6 : 0 ≤ (0 : Int) := (by omega)
      have q6 : 0 < a0.size := (by have : (0 : Int) < (a0.size : Int) := of_decide_eq_true z67_; omega)
      have hx6 : ∀ h : 0 < a0.size, ((a0[0]'h).toNat : Int) = bt a0 0 := bt_at a0 0
      clear p6
      have qi6 : (0 < (a0.size : Int)) = True := eq_true (of_decide_eq_true z67_)
      replace q6 := eq_true q6
      go_wp2; go_meet
      case rel => exact ⟨_, (true), z64_, H', ⟨z69_⟩, z65_⟩
     ·rw [if_neg c7] at H
      have c7b0 : ((bt a0 0) == 45) = false := beq_eq_false_iff_ne.mpr c7
      have c7b1 : ((bt a0 0) != 45) = true := bne_iff_ne.mpr c7
      obtain ⟨ji8, hji8⟩ : ∃ j_ : Int, (wrap64 ((a0.size : Int) - 1)) = j_ := ⟨_, rfl⟩
      replace H : (if 0 ≤ (ji8) then (if (ji8) < (a0.size : Int) then (host_label.j0 k a0 ((bt a0 (ji8)) == 45)) else (none)) else (none)) = some r := by first | (rw [hji8] at H; exact H) | (simp only [hji8] at H ⊢; exact H)
      have hji8w : (IntKind.i64.wrap ((a0.size : Int) - 1)) = ji8 := (i64_w _).trans hji8
      by_cases c9 : 0 ≤ (ji8)
      ·rw [if_pos c9] at H
       have c9b0 : decide (0 ≤ (ji8)) = true := decide_eq_true c9; clear c9
       by_cases c10 : (ji8) < (a0.size : Int)
       ·rw [if_pos c10] at H
        have c10b0 : decide ((ji8) < (a0.size : Int)) = true := decide_eq_true c10; clear c10
        have H' := Aside0.mk H
        clear H
        have p6 : 0 ≤ (0 : Int) := (by omega)
        have q6 : 0 < a0.size := (by have : (0 : Int) < (a0.size : Int) := of_decide_eq_true z67_; omega)
        have hx6 : ∀ h : 0 < a0.size, ((a0[0]'h).toNat : Int) = bt a0 0 := bt_at a0 0
        clear p6
        have qi6 : (0 < (a0.size : Int)) = True := eq_true (of_decide_eq_true z67_)
        replace q6 := eq_true q6
        have p11 : 0 ≤ ((ji8) : Int) := of_decide_eq_true z67_
        have q11 : (ji8) < (a0.size : Int) := of_decide_eq_true z67_
        have hx11 := bt_at a0 (ji8)
        replace p11 := eq_true p11
        replace q11 := eq_true q11
        go_wp2; go_meet
        case rel => exact ⟨_, (((bt a0 (ji8)) == 45)), (by first | rfl | (simp [nil_bne, nil_beq]; done) | (simp; done) | (simp only [← hji8] <;> (first | rfl | simp)) | (simp [*]; done)), H', ⟨z69_⟩, z65_⟩
       ·rw [if_neg c10] at H
        exact absurd H (by simp)
      ·rw [if_neg c9] at H
       exact absurd H (by simp)
    ·rw [if_neg c5] at H
     exact absurd H (by simp)
 case rest =>
  clear HC2
  obtain ⟨kq, x24_1, rfl, HA, HJ1, ⟨mc1, rfl⟩⟩ := hcut
  cases kq with
  | zero => exact absurd HA.out (by simp [host_label.j0])
  | succ kj1 =>
   have H := HA.out
   clear HA
   simp only [host_label.j0] at H
   by_cases c12 : x24_1 = true
   ·subst c12
    have H1 : (some false) = some r := by rw [if_pos rfl] at H; exact H
    clear H
    have H := H1
    clear H1
    obtain rfl := Option.some.inj H
    go_wp2
    go_ret
    exact ⟨z64_, z65_⟩
   ·replace c12 := Bool.eq_false_iff.mpr c12
    subst c12
    have H1 : (host_label.l0 kj1 a0 (a0.size : Int) 0) = some r := by rw [if_neg (show ¬ (false = true) by decide)] at H; exact H
    clear H
    have H := H1
    clear H1
    have H' := Aside0.mk H
    clear H; go_wp2
    go_loopg [27] kj1 (fun kq v27 w' => ∃ (x27_2 : Int), v27 = .int .i64 x27_2 ∧ Aside0 (host_label.l0 kq a0 (a0.size : Int) x27_2 = some r) ∧ Aside0 (kq ≤ kj1) ∧ Drawn0 w w')
    case atStart => exact ⟨(0), z64_, H', ⟨Nat.le_refl _⟩, z65_⟩
    case round =>
     clear H'; (try clear c12)
     obtain ⟨x27_2, rfl, HA, HK2, ⟨m2, rfl⟩⟩ := hrel
     cases gk with
     | zero => exact absurd HA.out (by simp [host_label.l0])
     | succ k2 =>
      have H := HA.out
      clear HA
      simp only [host_label.l0] at H
      by_cases c13 : x27_2 < (a0.size : Int)
      ·rw [if_pos c13] at H
       have c13b0 : decide (x27_2 < (a0.size : Int)) = true := decide_eq_true c13; clear c13
       by_cases c14 : 0 ≤ x27_2
       ·rw [if_pos c14] at H
        have c14b0 : decide (0 ≤ x27_2) = true := decide_eq_true c14; clear c14
        by_cases c15 : x27_2 < (a0.size : Int)
        ·rw [if_pos c15] at H
         have c15b0 : decide (x27_2 < (a0.size : Int)) = true := decide_eq_true c15; clear c15
         by_cases c17 : (bt a0 x27_2) < 97
         ·rw [if_pos c17] at H
          have c17b0 : decide ((bt a0 x27_2) < 97) = true := decide_eq_true c17; clear c17
          by_cases c18 : (bt a0 x27_2) < 48
          ·rw [if_pos c18] at H
           have c18b0 : decide ((bt a0 x27_2) < 48) = true := decide_eq_true c18; clear c18
           by_cases c19 : (bt a0 x27_2) = 45
           ·rw [if_pos c19] at H
            have c19b0 : ((bt a0 x27_2) == 45) = true := beq_iff_eq.mpr c19
            have c19b1 : ((bt a0 x27_2) != 45) = false := bne_eq_false_iff_eq.mpr c19
            clear c19
            have H' := Aside0.mk H
            clear H
            have p16 : 0 ≤ (x27_2 : Int) := of_decide_eq_true z67_
            have q16 : x27_2 < (a0.size : Int) := of_decide_eq_true z67_
            have hx16 := bt_at a0 x27_2
            replace p16 := eq_true p16
            replace q16 := eq_true q16
            go_wp2
            go_roundg k2
            case measure => have := HJ1.out; have := HK2.out; omega
            case rel => exact ⟨(wrap64 (x27_2 + 1)), z64_, H', ⟨z68_⟩, z65_⟩
           ·rw [if_neg c19] at H
            have c19b0 : ((bt a0 x27_2) == 45) = false := beq_eq_false_iff_ne.mpr c19
            have c19b1 : ((bt a0 x27_2) != 45) = true := bne_iff_ne.mpr c19
            obtain rfl := Option.some.inj H
            have p16 : 0 ≤ (x27_2 : Int) := of_decide_eq_true z67_
            have q16 : x27_2 < (a0.size : Int) := of_decide_eq_true z67_
            have hx16 := bt_at a0 x27_2
            replace p16 := eq_true p16
            replace q16 := eq_true q16
            go_wp2
            go_ret
            exact ⟨z64_, z65_⟩
          ·rw [if_neg c18] at H
           have c18b0 : decide ((bt a0 x27_2) < 48) = false := decide_eq_false c18; clear c18
           by_cases c20 : (bt a0 x27_2) > 57
           ·rw [if_pos c20] at H
            have c20b0 : decide (57 < (bt a0 x27_2)) = true := decide_eq_true c20; clear c20
            by_cases c21 : (bt a0 x27_2) = 45
            ·rw [if_pos c21] at H
             have c21b0 : ((bt a0 x27_2) == 45) = true := beq_iff_eq.mpr c21
             have c21b1 : ((bt a0 x27_2) != 45) = false := bne_eq_false_iff_eq.mpr c21
             clear c21
             have H' := Aside0.mk H
             clear H
             have p16 : 0 ≤ (x27_2 : Int) := of_decide_eq_true z67_
             have q16 : x27_2 < (a0.size : Int) := of_decide_eq_true z67_
             have hx16 := bt_at a0 x27_2
             replace p16 := eq_true p16
             replace q16 := eq_true q16
             go_wp2
             go_roundg k2
             case measure => have := HJ1.out; have := HK2.out; omega
             case rel => exact ⟨(wrap64 (x27_2 + 1)), z64_, H', ⟨z68_⟩, z65_⟩
            ·rw [if_neg c21] at H
             have c21b0 : ((bt a0 x27_2) == 45) = false := beq_eq_false_iff_ne.mpr c21
             have c21b1 : ((bt a0 x27_2) != 45) = true := bne_iff_ne.mpr c21
             obtain rfl := Option.some.inj H
             have p16 : 0 ≤ (x27_2 : Int) := of_decide_eq_true z67_
             have q16 : x27_2 < (a0.size : Int) := of_decide_eq_true z67_
             have hx16 := bt_at a0 x27_2
             replace p16 := eq_true p16
             replace q16 := eq_true q16
             go_wp2
             go_ret
             exact ⟨z64_, z65_⟩
           ·rw [if_neg c20] at H
            have c20b0 : decide (57 < (bt a0 x27_2)) = false := decide_eq_false c20; clear c20
            have H' := Aside0.mk H
            clear H
            have p16 : 0 ≤ (x27_2 : Int) := of_decide_eq_true z67_
            have q16 : x27_2 < (a0.size : Int) := of_decide_eq_true z67_
            have hx16 := bt_at a0 x27_2
            replace p16 := eq_true p16
            replace q16 := eq_true q16
            go_wp2
            go_roundg k2
            case measure => have := HJ1.out; have := HK2.out; omega
            case rel => exact ⟨(wrap64 (x27_2 + 1)), z64_, H', ⟨z68_⟩, z65_⟩
         ·rw [if_neg c17] at H
          have c17b0 : decide ((bt a0 x27_2) < 97) = false := decide_eq_false c17; clear c17
          by_cases c22 : (bt a0 x27_2) > 122
          ·rw [if_pos c22] at H
           have c22b0 : decide (122 < (bt a0 x27_2)) = true := decide_eq_true c22; clear c22
           by_cases c23 : (bt a0 x27_2) < 48
           ·rw [if_pos c23] at H
            have c23b0 : decide ((bt a0 x27_2) < 48) = true := decide_eq_true c23; clear c23
            by_cases c24 : (bt a0 x27_2) = 45
            ·rw [if_pos c24] at H
             have c24b0 : ((bt a0 x27_2) == 45) = true := beq_iff_eq.mpr c24
             have c24b1 : ((bt a0 x27_2) != 45) = false := bne_eq_false_iff_eq.mpr c24
             clear c24
             have H' := Aside0.mk H
             clear H
             have p16 : 0 ≤ (x27_2 : Int) := of_decide_eq_true z67_
             have q16 : x27_2 < (a0.size : Int) := of_decide_eq_true z67_
             have hx16 := bt_at a0 x27_2
             replace p16 := eq_true p16
             replace q16 := eq_true q16
             go_wp2
             go_roundg k2
             case measure => have := HJ1.out; have := HK2.out; omega
             case rel => exact ⟨(wrap64 (x27_2 + 1)), z64_, H', ⟨z68_⟩, z65_⟩
            ·rw [if_neg c24] at H
             have c24b0 : ((bt a0 x27_2) == 45) = false := beq_eq_false_iff_ne.mpr c24
             have c24b1 : ((bt a0 x27_2) != 45) = true := bne_iff_ne.mpr c24
             obtain rfl := Option.some.inj H
             have p16 : 0 ≤ (x27_2 : Int) := of_decide_eq_true z67_
             have q16 : x27_2 < (a0.size : Int) := of_decide_eq_true z67_
             have hx16 := bt_at a0 x27_2
             replace p16 := eq_true p16
             replace q16 := eq_true q16
             go_wp2
             go_ret
             exact ⟨z64_, z65_⟩
           ·rw [if_neg c23] at H
            have c23b0 : decide ((bt a0 x27_2) < 48) = false := decide_eq_false c23; clear c23
            by_cases c25 : (bt a0 x27_2) > 57
            ·rw [if_pos c25] at H
             have c25b0 : decide (57 < (bt a0 x27_2)) = true := decide_eq_true c25; clear c25
             by_cases c26 : (bt a0 x27_2) = 45
             ·rw [if_pos c26] at H
              have c26b0 : ((bt a0 x27_2) == 45) = true := beq_iff_eq.mpr c26
              have c26b1 : ((bt a0 x27_2) != 45) = false := bne_eq_false_iff_eq.mpr c26
              clear c26
              have H' := Aside0.mk H
              clear H
              have p16 : 0 ≤ (x27_2 : Int) := of_decide_eq_true z67_
              have q16 : x27_2 < (a0.size : Int) := of_decide_eq_true z67_
              have hx16 := bt_at a0 x27_2
              replace p16 := eq_true p16
              replace q16 := eq_true q16
              go_wp2
              go_roundg k2
              case measure => have := HJ1.out; have := HK2.out; omega
              case rel => exact ⟨(wrap64 (x27_2 + 1)), z64_, H', ⟨z68_⟩, z65_⟩
             ·rw [if_neg c26] at H
              have c26b0 : ((bt a0 x27_2) == 45) = false := beq_eq_false_iff_ne.mpr c26
              have c26b1 : ((bt a0 x27_2) != 45) = true := bne_iff_ne.mpr c26
              obtain rfl := Option.some.inj H
              have p16 : 0 ≤ (x27_2 : Int) := of_decide_eq_true z67_
              have q16 : x27_2 < (a0.size : Int) := of_decide_eq_true z67_
              have hx16 := bt_at a0 x27_2
              replace p16 := eq_true p16
              replace q16 := eq_true q16
              go_wp2
              go_ret
              exact ⟨z64_, z65_⟩
            ·rw [if_neg c25] at H
             have c25b0 : decide (57 < (bt a0 x27_2)) = false := decide_eq_false c25; clear c25
             have H' := Aside0.mk H
             clear H
             have p16 : 0 ≤ (x27_2 : Int) := of_decide_eq_true z67_
             have q16 : x27_2 < (a0.size : Int) := of_decide_eq_true z67_
             have hx16 := bt_at a0 x27_2
             replace p16 := eq_true p16
             replace q16 := eq_true q16
             go_wp2
             go_roundg k2
             case measure => have := HJ1.out; have := HK2.out; omega
             case rel => exact ⟨(wrap64 (x27_2 + 1)), z64_, H', ⟨z68_⟩, z65_⟩
          ·rw [if_neg c22] at H
           have c22b0 : decide (122 < (bt a0 x27_2)) = false := decide_eq_false c22; clear c22
           have H' := Aside0.mk H
           clear H
           have p16 : 0 ≤ (x27_2 : Int) := of_decide_eq_true z67_
           have q16 : x27_2 < (a0.size : Int) := of_decide_eq_true z67_
           have hx16 := bt_at a0 x27_2
           replace p16 := eq_true p16
           replace q16 := eq_true q16
           go_wp2
           go_roundg k2
           case measure => have := HJ1.out; have := HK2.out; omega
           case rel => exact ⟨(wrap64 (x27_2 + 1)), z64_, H', ⟨z68_⟩, z65_⟩
        ·rw [if_neg c15] at H
         exact absurd H (by simp)
       ·rw [if_neg c14] at H
        exact absurd H (by simp)
      ·rw [if_neg c13] at H
       have c13b0 : decide (x27_2 < (a0.size : Int)) = false := decide_eq_false c13; clear c13
       obtain rfl := Option.some.inj H
       go_wp2
       go_ret
       exact ⟨z64_, z65_⟩

def host_Default.f (a0 : ByteArray) : Option (Int) := if a0.toList = ([104, 116, 116, 112] : List UInt8) then (some 80) else (if a0.toList = ([104, 116, 116, 112, 115] : List UInt8) then (some 443) else (some 0))
set_option maxHeartbeats 8000000 in
set_option maxRecDepth 100000 in
theorem host_Default.calls (a0 : ByteArray) (r : Int) (w : World) (hG_ : GW w) (h : host_Default.f a0 = some r) :
  Calls Tryz.prog 58 #[.string a0] w fun e w' => e = .returned (.int .i64 r) ∧ Drawn0 w w' := by
 have H : (if a0.toList = ([104, 116, 116, 112] : List UInt8) then (some 80) else (if a0.toList = ([104, 116, 116, 112, 115] : List UInt8) then (some 443) else (some 0))) = some r := h
 clear h
 by_cases c2 : a0.toList = ([104, 116, 116, 112] : List UInt8)
 ·rw [if_pos c2] at H
  have c2b0 : (a0.toList == ([104, 116, 116, 112] : List UInt8)) = true := beq_iff_eq.mpr c2
  have c2b1 : (a0.toList != ([104, 116, 116, 112] : List UInt8)) = false := bne_eq_false_iff_eq.mpr c2
  clear c2
  obtain rfl := Option.some.inj H
  go_enter Tryz.func58, Tryz.ntmps58
  go_wp2
  go_ret
  exact ⟨z64_, z65_⟩
 ·rw [if_neg c2] at H
  have c2b0 : (a0.toList == ([104, 116, 116, 112] : List UInt8)) = false := beq_eq_false_iff_ne.mpr c2
  have c2b1 : (a0.toList != ([104, 116, 116, 112] : List UInt8)) = true := bne_iff_ne.mpr c2
  by_cases c3 : a0.toList = ([104, 116, 116, 112, 115] : List UInt8)
  ·rw [if_pos c3] at H
   have c3b0 : (a0.toList == ([104, 116, 116, 112, 115] : List UInt8)) = true := beq_iff_eq.mpr c3
   have c3b1 : (a0.toList != ([104, 116, 116, 112, 115] : List UInt8)) = false := bne_eq_false_iff_eq.mpr c3
   clear c3
   obtain rfl := Option.some.inj H
   go_enter Tryz.func58, Tryz.ntmps58
   go_wp2
   go_ret
   exact ⟨z64_, z65_⟩
  ·rw [if_neg c3] at H
   have c3b0 : (a0.toList == ([104, 116, 116, 112, 115] : List UInt8)) = false := beq_eq_false_iff_ne.mpr c3
   have c3b1 : (a0.toList != ([104, 116, 116, 112, 115] : List UInt8)) = true := bne_iff_ne.mpr c3
   obtain rfl := Option.some.inj H
   go_enter Tryz.func58, Tryz.ntmps58
   go_wp2
   go_ret
   exact ⟨z64_, z65_⟩

def pursuivantref05_letter.f (a0 : Int) : Option (Bool) := if a0 ≥ 97 then (if a0 ≤ 122 then (some true) else (if a0 ≥ 48 then (if a0 ≤ 57 then (some true) else (some (a0 == 45))) else (some (a0 == 45)))) else (if a0 ≥ 48 then (if a0 ≤ 57 then (some true) else (some (a0 == 45))) else (some (a0 == 45)))
set_option maxHeartbeats 8000000 in
set_option maxRecDepth 100000 in
theorem pursuivantref05_letter.calls (a0 : Int) (r : Bool) (w : World) (hG_ : GW w) (h : pursuivantref05_letter.f a0 = some r) :
  Calls Tryz.prog 91 #[.int .u8 a0] w fun e w' => e = .returned (.bool r) ∧ Drawn0 w w' := by
 have H : (if a0 ≥ 97 then (if a0 ≤ 122 then (some true) else (if a0 ≥ 48 then (if a0 ≤ 57 then (some true) else (some (a0 == 45))) else (some (a0 == 45)))) else (if a0 ≥ 48 then (if a0 ≤ 57 then (some true) else (some (a0 == 45))) else (some (a0 == 45)))) = some r := h
 clear h
 by_cases c2 : a0 ≥ 97
 ·rw [if_pos c2] at H
  have c2b0 : decide (97 ≤ a0) = true := decide_eq_true c2; clear c2
  by_cases c3 : a0 ≤ 122
  ·rw [if_pos c3] at H
   have c3b0 : decide (a0 ≤ 122) = true := decide_eq_true c3; clear c3
   obtain rfl := Option.some.inj H
   go_enter Tryz.func91, Tryz.ntmps91
   go_wp2
   go_ret
   exact ⟨z64_, z65_⟩
  ·rw [if_neg c3] at H
   have c3b0 : decide (a0 ≤ 122) = false := decide_eq_false c3; clear c3
   by_cases c4 : a0 ≥ 48
   ·rw [if_pos c4] at H
    have c4b0 : decide (48 ≤ a0) = true := decide_eq_true c4; clear c4
    by_cases c5 : a0 ≤ 57
    ·rw [if_pos c5] at H
     have c5b0 : decide (a0 ≤ 57) = true := decide_eq_true c5; clear c5
     obtain rfl := Option.some.inj H
     go_enter Tryz.func91, Tryz.ntmps91
     go_wp2
     go_ret
     exact ⟨z64_, z65_⟩
    ·rw [if_neg c5] at H
     have c5b0 : decide (a0 ≤ 57) = false := decide_eq_false c5; clear c5
     obtain rfl := Option.some.inj H
     go_enter Tryz.func91, Tryz.ntmps91
     go_wp2
     go_ret
     exact ⟨z64_, z65_⟩
   ·rw [if_neg c4] at H
    have c4b0 : decide (48 ≤ a0) = false := decide_eq_false c4; clear c4
    obtain rfl := Option.some.inj H
    go_enter Tryz.func91, Tryz.ntmps91
    go_wp2
    go_ret
    exact ⟨z64_, z65_⟩
 ·rw [if_neg c2] at H
  have c2b0 : decide (97 ≤ a0) = false := decide_eq_false c2; clear c2
  by_cases c6 : a0 ≥ 48
  ·rw [if_pos c6] at H
   have c6b0 : decide (48 ≤ a0) = true := decide_eq_true c6; clear c6
   by_cases c7 : a0 ≤ 57
   ·rw [if_pos c7] at H
    have c7b0 : decide (a0 ≤ 57) = true := decide_eq_true c7; clear c7
    obtain rfl := Option.some.inj H
    go_enter Tryz.func91, Tryz.ntmps91
    go_wp2
    go_ret
    exact ⟨z64_, z65_⟩
   ·rw [if_neg c7] at H
    have c7b0 : decide (a0 ≤ 57) = false := decide_eq_false c7; clear c7
    obtain rfl := Option.some.inj H
    go_enter Tryz.func91, Tryz.ntmps91
    go_wp2
    go_ret
    exact ⟨z64_, z65_⟩
  ·rw [if_neg c6] at H
   have c6b0 : decide (48 ≤ a0) = false := decide_eq_false c6; clear c6
   obtain rfl := Option.some.inj H
   go_enter Tryz.func91, Tryz.ntmps91
   go_wp2
   go_ret
   exact ⟨z64_, z65_⟩

mutual
def pursuivantref05_Good.l0 : Nat → ByteArray → Int → Int → Option (Bool)
 | 0, _, _, _ => none
 | k + 1, x0, x3, x4 => if x4 ≤ (x0.size : Int) then (if x4 < (x0.size : Int) then (if 0 ≤ x4 then (pursuivantref05_Good.j1 k x0 x3 x4 ((bt x0 x4) != 46)) else (none)) else (pursuivantref05_Good.j1 k x0 x3 x4 false)) else (some true)
def pursuivantref05_Good.j1 : Nat → ByteArray → Int → Int → Bool → Option (Bool)
 | 0, _, _, _, _ => none
 | k + 1, x0, x3, x4, x23 => if x23 = true then (if 0 ≤ x4 then (if x4 < (x0.size : Int) then ((pursuivantref05_letter.f (bt x0 x4)).bind fun t101 => (if t101 = true then (pursuivantref05_Good.l0 k x0 x3 (wrap64 (x4 + 1))) else (some false))) else (none)) else (none)) else (if x4 = x3 then (some false) else (if (wrap64 (x4 - x3)) > 63 then (some false) else (if 0 ≤ x3 then (if x3 < (x0.size : Int) then (if (bt x0 x3) = 45 then (some false) else (if 0 ≤ (wrap64 (x4 - 1)) then (if (wrap64 (x4 - 1)) < (x0.size : Int) then (if (bt x0 (wrap64 (x4 - 1))) = 45 then (some false) else (pursuivantref05_Good.l0 k x0 (wrap64 (x4 + 1)) (wrap64 (x4 + 1)))) else (none)) else (none))) else (none)) else (none))))
end
def pursuivantref05_Good.f (k : Nat) (a0 : ByteArray) : Option (Bool) := if (a0.size : Int) > 253 then (some false) else (pursuivantref05_Good.l0 k a0 0 0)
theorem pursuivantref05_Good.mono_l : ∀ k, (∀ y0 y1 y2, LeO (pursuivantref05_Good.l0 k y0 y1 y2) (pursuivantref05_Good.l0 (k + 1) y0 y1 y2)) ∧ (∀ y0 y1 y2 y3, LeO (pursuivantref05_Good.j1 k y0 y1 y2 y3) (pursuivantref05_Good.j1 (k + 1) y0 y1 y2 y3))
 | 0 => ⟨fun _ _ _ r h => by simp [pursuivantref05_Good.l0] at h, fun _ _ _ _ r h => by simp [pursuivantref05_Good.j1] at h⟩
 | k + 1 => by
  obtain ⟨ih0, ih1⟩ := pursuivantref05_Good.mono_l k
  refine ⟨?_, ?_⟩
  ·intro y0 y1 y2
   unfold pursuivantref05_Good.l0
   repeat' first
   | (with_reducible exact ih0 _ _ _)
   | (with_reducible exact ih1 _ _ _ _)
   | (with_reducible exact LeO.refl _)
   | (with_reducible exact LeO.none _)
   | (with_reducible refine LeO.ite ?_ ?_)
   | (with_reducible refine LeO.bind ?_ (fun _ => ?_))
   | exact ih0 _ _ _
   | exact ih1 _ _ _ _
   | exact LeO.none _
   | refine LeO.ite ?_ ?_
   | refine LeO.bind ?_ (fun _ => ?_)
  ·intro y0 y1 y2 y3
   unfold pursuivantref05_Good.j1
   repeat' first
   | (with_reducible exact ih0 _ _ _)
   | (with_reducible exact ih1 _ _ _ _)
   | (with_reducible exact LeO.refl _)
   | (with_reducible exact LeO.none _)
   | (with_reducible refine LeO.ite ?_ ?_)
   | (with_reducible refine LeO.bind ?_ (fun _ => ?_))
   | exact ih0 _ _ _
   | exact ih1 _ _ _ _
   | exact LeO.none _
   | refine LeO.ite ?_ ?_
   | refine LeO.bind ?_ (fun _ => ?_)
theorem pursuivantref05_Good.mono : ∀ a0 k, LeO (pursuivantref05_Good.f k a0) (pursuivantref05_Good.f (k + 1) a0) := by
 intro a0 k
 obtain ⟨ih0, ih1⟩ := pursuivantref05_Good.mono_l k
 unfold pursuivantref05_Good.f
 repeat' first
   | (with_reducible exact ih0 _ _ _)
   | (with_reducible exact ih1 _ _ _ _)
   | (with_reducible exact LeO.refl _)
   | (with_reducible exact LeO.none _)
   | (with_reducible refine LeO.ite ?_ ?_)
   | (with_reducible refine LeO.bind ?_ (fun _ => ?_))
   | exact ih0 _ _ _
   | exact ih1 _ _ _ _
   | exact LeO.none _
   | refine LeO.ite ?_ ?_
   | refine LeO.bind ?_ (fun _ => ?_)
set_option maxHeartbeats 8000000 in
set_option maxRecDepth 100000 in
theorem pursuivantref05_Good.calls (k : Nat) (a0 : ByteArray) (r : Bool) (w : World) (hG_ : GW w) (h : pursuivantref05_Good.f k a0 = some r) :
  Calls Tryz.prog 45 #[.string a0] w fun e w' => e = .returned (.bool r) ∧ Drawn0 w w' := by
 have H : (if (a0.size : Int) > 253 then (some false) else (pursuivantref05_Good.l0 k a0 0 0)) = some r := h
 clear h
 by_cases c2 : (a0.size : Int) > 253
 ·rw [if_pos c2] at H
  have c2b0 : decide (253 < (a0.size : Int)) = true := decide_eq_true c2
  have c2b1 : decide (253 < a0.size) = true := decide_eq_true (by omega)
  clear c2
  obtain rfl := Option.some.inj H
  go_enter Tryz.func45, Tryz.ntmps45
  go_wp2
  go_ret
  exact ⟨z64_, z65_⟩
 ·rw [if_neg c2] at H
  have c2b0 : decide (253 < (a0.size : Int)) = false := decide_eq_false c2
  have c2b1 : decide (253 < a0.size) = false := decide_eq_false (by omega)
  clear c2
  have H' := Aside0.mk H
  clear H
  go_enter Tryz.func45, Tryz.ntmps45
  go_wp2
  go_loopg [3, 4] k (fun kq v3 v4 w' => ∃ (x3_1 x4_1 : Int), v3 = .int .i64 x3_1 ∧ v4 = .int .i64 x4_1 ∧ Aside0 (pursuivantref05_Good.l0 kq a0 x3_1 x4_1 = some r) ∧ Aside0 (kq ≤ k) ∧ Drawn0 w w')
  case atStart => exact ⟨(0), (0), z64_, z64_, H', ⟨Nat.le_refl _⟩, z65_⟩
  case round =>
   clear H'; (try clear c2); (try clear c2b0); (try clear c2b1)
   obtain ⟨x3_1, x4_1, rfl, rfl, HA, HK1, ⟨m1, rfl⟩⟩ := hrel
   cases gk with
   | zero => exact absurd HA.out (by simp [pursuivantref05_Good.l0])
   | succ k1 =>
    have H := HA.out
    clear HA
    simp only [pursuivantref05_Good.l0] at H
    by_cases c3 : x4_1 ≤ (a0.size : Int)
    ·rw [if_pos c3] at H
     have c3b0 : decide (x4_1 ≤ (a0.size : Int)) = true := decide_eq_true c3; clear c3; have HC4 := Aside0.mk H; clear H
     go_upto_region 7 with (fail)
     go_cut [23] (fun v23 wc => ∃ (kq : Nat) (x23_3 : Bool), v23 = .bool x23_3 ∧ Aside0 (pursuivantref05_Good.j1 kq a0 x3_1 x4_1 x23_3 = some r) ∧ Aside0 (kq ≤ k1) ∧ Drawn0 w wc)
     case first =>
      have H := HC4.out
      clear HC4
      by_cases c5 : x4_1 < (a0.size : Int)
      ·rw [if_pos c5] at H
       have c5b0 : decide (x4_1 < (a0.size : Int)) = true := decide_eq_true c5; clear c5
       (first | rw [c5b0] | (simp only [i64_w, i32_w]; rw [c5b0]) | skip)
       by_cases c6 : 0 ≤ x4_1
       ·rw [if_pos c6] at H
        have c6b0 : decide (0 ≤ x4_1) = true := decide_eq_true c6; clear c6
        have H' := Aside0.mk H
        clear H
        have p7 : 0 ≤ (x4_1 : Int) := of_decide_eq_true z67_
        have q7 : x4_1 < (a0.size : Int) := of_decide_eq_true z67_
        have hx7 := bt_at a0 x4_1
        replace p7 := eq_true p7
        replace q7 := eq_true q7
        go_wp2; go_meet
        case rel => exact ⟨_, (((bt a0 x4_1) != 46)), z64_, H', ⟨by have := HK1.out; first | omega | exact Nat.le_refl _⟩, z65_⟩
       ·rw [if_neg c6] at H
        exact absurd H (by simp)
      ·rw [if_neg c5] at H
       have c5b0 : decide (x4_1 < (a0.size : Int)) = false := decide_eq_false c5; clear c5
       (first | rw [c5b0] | (simp only [i64_w, i32_w]; rw [c5b0]) | skip)
       have H' := Aside0.mk H
       clear H; go_wp2; go_meet
       case rel => exact ⟨_, (false), z64_, H', ⟨by have := HK1.out; first | omega | exact Nat.le_refl _⟩, z65_⟩
     case rest =>
      clear HC4; (try clear c2); (try clear c2b0); (try clear c2b1); (try clear c3); (try clear c3b0)
      obtain ⟨kq, x23_3, rfl, HA, HJ3, ⟨mc3, rfl⟩⟩ := hcut
      cases kq with
      | zero => exact absurd HA.out (by simp [pursuivantref05_Good.j1])
      | succ kj3 =>
       have H := HA.out
       clear HA
       simp only [pursuivantref05_Good.j1] at H
       by_cases c8 : x23_3 = true
       ·subst c8
        have H1 : (if 0 ≤ x4_1 then (if x4_1 < (a0.size : Int) then ((pursuivantref05_letter.f (bt a0 x4_1)).bind fun t101 => (if t101 = true then (pursuivantref05_Good.l0 kj3 a0 x3_1 (wrap64 (x4_1 + 1))) else (some false))) else (none)) else (none)) = some r := by rw [if_pos rfl] at H; exact H
        clear H
        have H := H1
        clear H1
        by_cases c9 : 0 ≤ x4_1
        ·rw [if_pos c9] at H
         have c9b0 : decide (0 ≤ x4_1) = true := decide_eq_true c9; clear c9
         by_cases c10 : x4_1 < (a0.size : Int)
         ·rw [if_pos c10] at H
          have c10b0 : decide (x4_1 < (a0.size : Int)) = true := decide_eq_true c10; clear c10
          replace H := Option.bind_eq_some_iff.mp H
          obtain ⟨t101, A120, H⟩ := H
          replace H : (if t101 = true then (pursuivantref05_Good.l0 kj3 a0 x3_1 (wrap64 (x4_1 + 1))) else (some false)) = some r := H
          have A12 := Aside0.mk A120; clear A120
          by_cases c13 : t101 = true
          ·subst c13
           have H1 : (pursuivantref05_Good.l0 kj3 a0 x3_1 (wrap64 (x4_1 + 1))) = some r := by rw [if_pos rfl] at H; exact H
           clear H
           have H := H1
           clear H1
           have H' := Aside0.mk H
           clear H
           have p11 : 0 ≤ (x4_1 : Int) := of_decide_eq_true z67_
           have q11 : x4_1 < (a0.size : Int) := of_decide_eq_true z67_
           have hx11 := bt_at a0 x4_1
           replace p11 := eq_true p11
           replace q11 := eq_true q11
           go_wp2_with (first | ((with_reducible refine gate_callee (f := 91) rfl ?_); refine goesL_ (some 27) rfl rfl Tryz.func91 (by kernel_rfl) rfl #[.int .u8 (bt a0 x4_1)] rfl z44_ ?_; (with_reducible refine (pursuivantref05_letter.calls (bt a0 x4_1) true _ ?gw1_ A12.out).mono ?_); (case gw1_ => exact z16_); rintro e w' ⟨rfl, ⟨nd, rfl⟩⟩; refine ⟨_, rfl, ?_⟩))
           go_roundg kj3
           case measure => have := HK1.out; have := HJ3.out; omega
           case rel => exact ⟨(x3_1), (wrap64 (x4_1 + 1)), z64_, z64_, H', ⟨by have := HK1.out; have := HJ3.out; omega⟩, z65_⟩
          ·replace c13 := Bool.eq_false_iff.mpr c13
           subst c13
           have H1 : (some false) = some r := by rw [if_neg (show ¬ (false = true) by decide)] at H; exact H
           clear H
           have H := H1
           clear H1
           obtain rfl := Option.some.inj H
           have p11 : 0 ≤ (x4_1 : Int) := of_decide_eq_true z67_
           have q11 : x4_1 < (a0.size : Int) := of_decide_eq_true z67_
           have hx11 := bt_at a0 x4_1
           replace p11 := eq_true p11
           replace q11 := eq_true q11
           go_wp2_with (first | ((with_reducible refine gate_callee (f := 91) rfl ?_); refine goesL_ (some 27) rfl rfl Tryz.func91 (by kernel_rfl) rfl #[.int .u8 (bt a0 x4_1)] rfl z44_ ?_; (with_reducible refine (pursuivantref05_letter.calls (bt a0 x4_1) false _ ?gw2_ A12.out).mono ?_); (case gw2_ => exact z16_); rintro e w' ⟨rfl, ⟨nd, rfl⟩⟩; refine ⟨_, rfl, ?_⟩))
           go_ret
           exact ⟨z64_, z65_⟩
         ·rw [if_neg c10] at H
          exact absurd H (by simp)
        ·rw [if_neg c9] at H
         exact absurd H (by simp)
       ·replace c8 := Bool.eq_false_iff.mpr c8
        subst c8
        have H1 : (if x4_1 = x3_1 then (some false) else (if (wrap64 (x4_1 - x3_1)) > 63 then (some false) else (if 0 ≤ x3_1 then (if x3_1 < (a0.size : Int) then (if (bt a0 x3_1) = 45 then (some false) else (if 0 ≤ (wrap64 (x4_1 - 1)) then (if (wrap64 (x4_1 - 1)) < (a0.size : Int) then (if (bt a0 (wrap64 (x4_1 - 1))) = 45 then (some false) else (pursuivantref05_Good.l0 kj3 a0 (wrap64 (x4_1 + 1)) (wrap64 (x4_1 + 1)))) else (none)) else (none))) else (none)) else (none)))) = some r := by rw [if_neg (show ¬ (false = true) by decide)] at H; exact H
        clear H
        have H := H1
        clear H1
        by_cases c14 : x4_1 = x3_1
        ·rw [if_pos c14] at H
         have c14b0 : (x4_1 == x3_1) = true := beq_iff_eq.mpr c14
         have c14b1 : (x4_1 != x3_1) = false := bne_eq_false_iff_eq.mpr c14
         clear c14
         obtain rfl := Option.some.inj H
         go_wp2
         go_ret
         exact ⟨z64_, z65_⟩
        ·rw [if_neg c14] at H
         have c14b0 : (x4_1 == x3_1) = false := beq_eq_false_iff_ne.mpr c14
         have c14b1 : (x4_1 != x3_1) = true := bne_iff_ne.mpr c14
         by_cases c15 : (wrap64 (x4_1 - x3_1)) > 63
         ·rw [if_pos c15] at H
          have c15b0 : decide (63 < (wrap64 (x4_1 - x3_1))) = true := decide_eq_true c15; clear c15
          obtain rfl := Option.some.inj H
          go_wp2
          go_ret
          exact ⟨z64_, z65_⟩
         ·rw [if_neg c15] at H
          have c15b0 : decide (63 < (wrap64 (x4_1 - x3_1))) = false := decide_eq_false c15; clear c15
          by_cases c16 : 0 ≤ x3_1
          ·rw [if_pos c16] at H
           have c16b0 : decide (0 ≤ x3_1) = true := decide_eq_true c16; clear c16
           by_cases c17 : x3_1 < (a0.size : Int)
           ·rw [if_pos c17] at H
            have c17b0 : decide (x3_1 < (a0.size : Int)) = true := decide_eq_true c17; clear c17
            by_cases c19 : (bt a0 x3_1) = 45
            ·rw [if_pos c19] at H
             have c19b0 : ((bt a0 x3_1) == 45) = true := beq_iff_eq.mpr c19
             have c19b1 : ((bt a0 x3_1) != 45) = false := bne_eq_false_iff_eq.mpr c19
             clear c19
             obtain rfl := Option.some.inj H
             have p18 : 0 ≤ (x3_1 : Int) := of_decide_eq_true z67_
             have q18 : x3_1 < (a0.size : Int) := of_decide_eq_true z67_
             have hx18 := bt_at a0 x3_1
             replace p18 := eq_true p18
             replace q18 := eq_true q18
             go_wp2
             go_ret
             exact ⟨z64_, z65_⟩
            ·rw [if_neg c19] at H
             have c19b0 : ((bt a0 x3_1) == 45) = false := beq_eq_false_iff_ne.mpr c19
             have c19b1 : ((bt a0 x3_1) != 45) = true := bne_iff_ne.mpr c19
             obtain ⟨ji20, hji20⟩ : ∃ j_ : Int, (wrap64 (x4_1 - 1)) = j_ := ⟨_, rfl⟩
             replace H : (if 0 ≤ (ji20) then (if (ji20) < (a0.size : Int) then (if (bt a0 (ji20)) = 45 then (some false) else (pursuivantref05_Good.l0 kj3 a0 (wrap64 (x4_1 + 1)) (wrap64 (x4_1 + 1)))) else (none)) else (none)) = some r := by first | (rw [hji20] at H; exact H) | (simp only [hji20] at H ⊢; exact H)
             have hji20w : (IntKind.i64.wrap (x4_1 - 1)) = ji20 := (i64_w _).trans hji20
             by_cases c21 : 0 ≤ (ji20)
             ·rw [if_pos c21] at H
              have c21b0 : decide (0 ≤ (ji20)) = true := decide_eq_true c21; clear c21
              by_cases c22 : (ji20) < (a0.size : Int)
              ·rw [if_pos c22] at H
               have c22b0 : decide ((ji20) < (a0.size : Int)) = true := decide_eq_true c22; clear c22
               by_cases c24 : (bt a0 (ji20)) = 45
               ·rw [if_pos c24] at H
                have c24b0 : ((bt a0 (ji20)) == 45) = true := beq_iff_eq.mpr c24
                have c24b1 : ((bt a0 (ji20)) != 45) = false := bne_eq_false_iff_eq.mpr c24
                clear c24
                obtain rfl := Option.some.inj H
                have p18 : 0 ≤ (x3_1 : Int) := of_decide_eq_true z67_
                have q18 : x3_1 < (a0.size : Int) := of_decide_eq_true z67_
                have hx18 := bt_at a0 x3_1
                replace p18 := eq_true p18
                replace q18 := eq_true q18
                have p23 : 0 ≤ ((ji20) : Int) := of_decide_eq_true z67_
                have q23 : (ji20) < (a0.size : Int) := of_decide_eq_true z67_
                have hx23 := bt_at a0 (ji20)
                replace p23 := eq_true p23
                replace q23 := eq_true q23
                go_wp2
                go_ret
                exact ⟨by first | rfl | (simp [nil_bne, nil_beq]; done) | (simp; done) | (simp only [← hji20] <;> (first | rfl | simp)) | (simp [*]; done), z65_⟩
               ·rw [if_neg c24] at H
                have c24b0 : ((bt a0 (ji20)) == 45) = false := beq_eq_false_iff_ne.mpr c24
                have c24b1 : ((bt a0 (ji20)) != 45) = true := bne_iff_ne.mpr c24
                have H' := Aside0.mk H
                clear H
                have p18 : 0 ≤ (x3_1 : Int) := of_decide_eq_true z67_
                have q18 : x3_1 < (a0.size : Int) := of_decide_eq_true z67_
                have hx18 := bt_at a0 x3_1
                replace p18 := eq_true p18
                replace q18 := eq_true q18
                have p23 : 0 ≤ ((ji20) : Int) := of_decide_eq_true z67_
                have q23 : (ji20) < (a0.size : Int) := of_decide_eq_true z67_
                have hx23 := bt_at a0 (ji20)
                replace p23 := eq_true p23
                replace q23 := eq_true q23
                go_wp2
                go_roundg kj3
                case measure => have := HK1.out; have := HJ3.out; omega
                case rel => exact ⟨(wrap64 (x4_1 + 1)), (wrap64 (x4_1 + 1)), z64_, z64_, H', ⟨by have := HK1.out; have := HJ3.out; omega⟩, z65_⟩
              ·rw [if_neg c22] at H
               exact absurd H (by simp)
             ·rw [if_neg c21] at H
              exact absurd H (by simp)
           ·rw [if_neg c17] at H
            exact absurd H (by simp)
          ·rw [if_neg c16] at H
           exact absurd H (by simp)
    ·rw [if_neg c3] at H
     have c3b0 : decide (x4_1 ≤ (a0.size : Int)) = false := decide_eq_false c3; clear c3
     obtain rfl := Option.some.inj H
     go_wp2
     go_ret
     exact ⟨z64_, z65_⟩

def pursuivantref05_Under.f (k : Nat) (a0 a1 : ByteArray) : Option (Bool) := (pursuivantref05_Good.f k a0).bind fun t102 => (if t102 = true then ((pursuivantref05_Good.f k a1).bind fun t103 => (if t103 = true then (if (wrap64 ((a0.size : Int) - (a1.size : Int))) > 0 then (if 0 ≤ (wrap64 ((a0.size : Int) - (a1.size : Int))) then (if (wrap64 ((a0.size : Int) - (a1.size : Int))) ≤ (a0.size : Int) then (if (a0.extract ((wrap64 ((a0.size : Int) - (a1.size : Int))) : Int).toNat a0.size).toList = a1.toList then (if 0 ≤ (wrap64 ((wrap64 ((a0.size : Int) - (a1.size : Int))) - 1)) then (if (wrap64 ((wrap64 ((a0.size : Int) - (a1.size : Int))) - 1)) < (a0.size : Int) then (some ((bt a0 (wrap64 ((wrap64 ((a0.size : Int) - (a1.size : Int))) - 1))) == 46)) else (none)) else (none)) else (some false)) else (none)) else (none)) else (some false)) else (some false))) else (some false))
set_option maxHeartbeats 8000000 in
set_option maxRecDepth 100000 in
theorem pursuivantref05_Under.calls (k : Nat) (a0 a1 : ByteArray) (r : Bool) (w : World) (hG_ : GW w) (h : pursuivantref05_Under.f k a0 a1 = some r) :
  Calls Tryz.prog 56 #[.string a0, .string a1] w fun e w' => e = .returned (.bool r) ∧ Drawn0 w w' := by
 have H : ((pursuivantref05_Good.f k a0).bind fun t102 => (if t102 = true then ((pursuivantref05_Good.f k a1).bind fun t103 => (if t103 = true then (if (wrap64 ((a0.size : Int) - (a1.size : Int))) > 0 then (if 0 ≤ (wrap64 ((a0.size : Int) - (a1.size : Int))) then (if (wrap64 ((a0.size : Int) - (a1.size : Int))) ≤ (a0.size : Int) then (if (a0.extract ((wrap64 ((a0.size : Int) - (a1.size : Int))) : Int).toNat a0.size).toList = a1.toList then (if 0 ≤ (wrap64 ((wrap64 ((a0.size : Int) - (a1.size : Int))) - 1)) then (if (wrap64 ((wrap64 ((a0.size : Int) - (a1.size : Int))) - 1)) < (a0.size : Int) then (some ((bt a0 (wrap64 ((wrap64 ((a0.size : Int) - (a1.size : Int))) - 1))) == 46)) else (none)) else (none)) else (some false)) else (none)) else (none)) else (some false)) else (some false))) else (some false))) = some r := h
 clear h
 replace H := Option.bind_eq_some_iff.mp H
 obtain ⟨t102, A30, H⟩ := H
 replace H : (if t102 = true then ((pursuivantref05_Good.f k a1).bind fun t103 => (if t103 = true then (if (wrap64 ((a0.size : Int) - (a1.size : Int))) > 0 then (if 0 ≤ (wrap64 ((a0.size : Int) - (a1.size : Int))) then (if (wrap64 ((a0.size : Int) - (a1.size : Int))) ≤ (a0.size : Int) then (if (a0.extract ((wrap64 ((a0.size : Int) - (a1.size : Int))) : Int).toNat a0.size).toList = a1.toList then (if 0 ≤ (wrap64 ((wrap64 ((a0.size : Int) - (a1.size : Int))) - 1)) then (if (wrap64 ((wrap64 ((a0.size : Int) - (a1.size : Int))) - 1)) < (a0.size : Int) then (some ((bt a0 (wrap64 ((wrap64 ((a0.size : Int) - (a1.size : Int))) - 1))) == 46)) else (none)) else (none)) else (some false)) else (none)) else (none)) else (some false)) else (some false))) else (some false)) = some r := H
 have A3 := Aside0.mk A30; clear A30
 by_cases c4 : t102 = true
 ·subst c4
  have H1 : ((pursuivantref05_Good.f k a1).bind fun t103 => (if t103 = true then (if (wrap64 ((a0.size : Int) - (a1.size : Int))) > 0 then (if 0 ≤ (wrap64 ((a0.size : Int) - (a1.size : Int))) then (if (wrap64 ((a0.size : Int) - (a1.size : Int))) ≤ (a0.size : Int) then (if (a0.extract ((wrap64 ((a0.size : Int) - (a1.size : Int))) : Int).toNat a0.size).toList = a1.toList then (if 0 ≤ (wrap64 ((wrap64 ((a0.size : Int) - (a1.size : Int))) - 1)) then (if (wrap64 ((wrap64 ((a0.size : Int) - (a1.size : Int))) - 1)) < (a0.size : Int) then (some ((bt a0 (wrap64 ((wrap64 ((a0.size : Int) - (a1.size : Int))) - 1))) == 46)) else (none)) else (none)) else (some false)) else (none)) else (none)) else (some false)) else (some false))) = some r := by rw [if_pos rfl] at H; exact H
  clear H
  have H := H1
  clear H1
  replace H := Option.bind_eq_some_iff.mp H
  obtain ⟨t103, A50, H⟩ := H
  replace H : (if t103 = true then (if (wrap64 ((a0.size : Int) - (a1.size : Int))) > 0 then (if 0 ≤ (wrap64 ((a0.size : Int) - (a1.size : Int))) then (if (wrap64 ((a0.size : Int) - (a1.size : Int))) ≤ (a0.size : Int) then (if (a0.extract ((wrap64 ((a0.size : Int) - (a1.size : Int))) : Int).toNat a0.size).toList = a1.toList then (if 0 ≤ (wrap64 ((wrap64 ((a0.size : Int) - (a1.size : Int))) - 1)) then (if (wrap64 ((wrap64 ((a0.size : Int) - (a1.size : Int))) - 1)) < (a0.size : Int) then (some ((bt a0 (wrap64 ((wrap64 ((a0.size : Int) - (a1.size : Int))) - 1))) == 46)) else (none)) else (none)) else (some false)) else (none)) else (none)) else (some false)) else (some false)) = some r := H
  have A5 := Aside0.mk A50; clear A50
  by_cases c6 : t103 = true
  ·subst c6
   have H1 : (if (wrap64 ((a0.size : Int) - (a1.size : Int))) > 0 then (if 0 ≤ (wrap64 ((a0.size : Int) - (a1.size : Int))) then (if (wrap64 ((a0.size : Int) - (a1.size : Int))) ≤ (a0.size : Int) then (if (a0.extract ((wrap64 ((a0.size : Int) - (a1.size : Int))) : Int).toNat a0.size).toList = a1.toList then (if 0 ≤ (wrap64 ((wrap64 ((a0.size : Int) - (a1.size : Int))) - 1)) then (if (wrap64 ((wrap64 ((a0.size : Int) - (a1.size : Int))) - 1)) < (a0.size : Int) then (some ((bt a0 (wrap64 ((wrap64 ((a0.size : Int) - (a1.size : Int))) - 1))) == 46)) else (none)) else (none)) else (some false)) else (none)) else (none)) else (some false)) = some r := by rw [if_pos rfl] at H; exact H
   clear H
   have H := H1
   clear H1
   by_cases c7 : (wrap64 ((a0.size : Int) - (a1.size : Int))) > 0
   ·rw [if_pos c7] at H
    have c7b0 : decide (0 < (wrap64 ((a0.size : Int) - (a1.size : Int)))) = true := decide_eq_true c7; clear c7
    obtain ⟨ji8, hji8⟩ : ∃ j_ : Int, (wrap64 ((a0.size : Int) - (a1.size : Int))) = j_ := ⟨_, rfl⟩
    replace H : (if 0 ≤ (ji8) then (if (ji8) ≤ (a0.size : Int) then (if (a0.extract ((ji8) : Int).toNat a0.size).toList = a1.toList then (if 0 ≤ (wrap64 ((ji8) - 1)) then (if (wrap64 ((ji8) - 1)) < (a0.size : Int) then (some ((bt a0 (wrap64 ((ji8) - 1))) == 46)) else (none)) else (none)) else (some false)) else (none)) else (none)) = some r := by first | (rw [hji8] at H; exact H) | (simp only [hji8] at H ⊢; exact H)
    (try rw [hji8] at c7b0)
    (try rw [hji8] at A3)
    (try rw [hji8] at A5)
    have hji8w : (IntKind.i64.wrap ((a0.size : Int) - (a1.size : Int))) = ji8 := (i64_w _).trans hji8
    by_cases c9 : 0 ≤ (ji8)
    ·rw [if_pos c9] at H
     have c9b0 := eq_true c9; have c9b1 : decide (0 ≤ (ji8)) = true := decide_eq_true c9; clear c9
     by_cases c10 : (ji8) ≤ (a0.size : Int)
     ·rw [if_pos c10] at H
      have c10b0 := eq_true c10; have c10b1 : decide ((ji8) ≤ (a0.size : Int)) = true := decide_eq_true c10; clear c10
      by_cases c11 : (a0.extract ((ji8) : Int).toNat a0.size).toList = a1.toList
      ·rw [if_pos c11] at H
       have c11b0 : ((a0.extract ((ji8) : Int).toNat a0.size).toList == a1.toList) = true := beq_iff_eq.mpr c11
       have c11b1 : ((a0.extract ((ji8) : Int).toNat a0.size).toList != a1.toList) = false := bne_eq_false_iff_eq.mpr c11
       clear c11
       obtain ⟨ji12, hji12⟩ : ∃ j_ : Int, (wrap64 ((ji8) - 1)) = j_ := ⟨_, rfl⟩
       replace H : (if 0 ≤ (ji12) then (if (ji12) < (a0.size : Int) then (some ((bt a0 (ji12)) == 46)) else (none)) else (none)) = some r := by first | (rw [hji12] at H; exact H) | (simp only [hji12] at H ⊢; exact H)
       (try rw [hji12] at A3)
       (try rw [hji12] at A5)
       have hji12w : (IntKind.i64.wrap ((ji8) - 1)) = ji12 := (i64_w _).trans hji12
       by_cases c13 : 0 ≤ (ji12)
       ·rw [if_pos c13] at H
        have c13b0 : decide (0 ≤ (ji12)) = true := decide_eq_true c13; clear c13
        by_cases c14 : (ji12) < (a0.size : Int)
        ·rw [if_pos c14] at H
         have c14b0 : decide ((ji12) < (a0.size : Int)) = true := decide_eq_true c14; clear c14
         obtain rfl := Option.some.inj H
         go_enter Tryz.func56, Tryz.ntmps56
         go_wp2_with (first | ((with_reducible refine gate_callee (f := 45) rfl ?_); refine goesL_ (some 12) rfl rfl Tryz.func45 (by kernel_rfl) rfl #[.string a0] rfl z44_ ?_; (with_reducible refine (pursuivantref05_Good.calls k a0 true _ ?gw3_ A3.out).mono ?_); (case gw3_ => exact z16_); rintro e w' ⟨rfl, ⟨nd, rfl⟩⟩; refine ⟨_, rfl, ?_⟩) | (go_at_call 45; (fail_if_success (have z_ := U_1)); have U_1 := trivial; (with_reducible refine (pursuivantref05_Good.calls k a1 true _ ?gw4_ A5.out).mono ?_); (case gw4_ => exact z16_); rintro e w' ⟨rfl, ⟨nd, rfl⟩⟩; have p15 : 0 ≤ ((ji12) : Int) := of_decide_eq_true z67_; have q15 : (ji12) < (a0.size : Int) := of_decide_eq_true z67_; have hx15 := bt_at a0 (ji12); replace p15 := eq_true p15; replace q15 := eq_true q15))
         go_ret
         exact ⟨by first | rfl | (simp [nil_bne, nil_beq]; done) | (simp; done) | (simp only [← hji8, ← hji12] <;> (first | rfl | simp)) | (simp [*]; done), z65_⟩
        ·rw [if_neg c14] at H
         exact absurd H (by simp)
       ·rw [if_neg c13] at H
        exact absurd H (by simp)
      ·rw [if_neg c11] at H
       have c11b0 : ((a0.extract ((ji8) : Int).toNat a0.size).toList == a1.toList) = false := beq_eq_false_iff_ne.mpr c11
       have c11b1 : ((a0.extract ((ji8) : Int).toNat a0.size).toList != a1.toList) = true := bne_iff_ne.mpr c11
       obtain rfl := Option.some.inj H
       go_enter Tryz.func56, Tryz.ntmps56
       go_wp2_with (first | ((with_reducible refine gate_callee (f := 45) rfl ?_); refine goesL_ (some 12) rfl rfl Tryz.func45 (by kernel_rfl) rfl #[.string a0] rfl z44_ ?_; (with_reducible refine (pursuivantref05_Good.calls k a0 true _ ?gw5_ A3.out).mono ?_); (case gw5_ => exact z16_); rintro e w' ⟨rfl, ⟨nd, rfl⟩⟩; refine ⟨_, rfl, ?_⟩) | (go_at_call 45; (fail_if_success (have z_ := U_2)); have U_2 := trivial; (with_reducible refine (pursuivantref05_Good.calls k a1 true _ ?gw6_ A5.out).mono ?_); (case gw6_ => exact z16_); rintro e w' ⟨rfl, ⟨nd, rfl⟩⟩))
       go_ret
       exact ⟨by first | rfl | (simp [nil_bne, nil_beq]; done) | (simp; done) | (simp only [← hji8] <;> (first | rfl | simp)) | (simp [*]; done), z65_⟩
     ·rw [if_neg c10] at H
      exact absurd H (by simp)
    ·rw [if_neg c9] at H
     exact absurd H (by simp)
   ·rw [if_neg c7] at H
    have c7b0 : decide (0 < (wrap64 ((a0.size : Int) - (a1.size : Int)))) = false := decide_eq_false c7; clear c7
    obtain rfl := Option.some.inj H
    go_enter Tryz.func56, Tryz.ntmps56
    go_wp2_with (first | ((with_reducible refine gate_callee (f := 45) rfl ?_); refine goesL_ (some 12) rfl rfl Tryz.func45 (by kernel_rfl) rfl #[.string a0] rfl z44_ ?_; (with_reducible refine (pursuivantref05_Good.calls k a0 true _ ?gw7_ A3.out).mono ?_); (case gw7_ => exact z16_); rintro e w' ⟨rfl, ⟨nd, rfl⟩⟩; refine ⟨_, rfl, ?_⟩) | (go_at_call 45; (fail_if_success (have z_ := U_3)); have U_3 := trivial; (with_reducible refine (pursuivantref05_Good.calls k a1 true _ ?gw8_ A5.out).mono ?_); (case gw8_ => exact z16_); rintro e w' ⟨rfl, ⟨nd, rfl⟩⟩))
    go_ret
    exact ⟨z64_, z65_⟩
  ·replace c6 := Bool.eq_false_iff.mpr c6
   subst c6
   have H1 : (some false) = some r := by rw [if_neg (show ¬ (false = true) by decide)] at H; exact H
   clear H
   have H := H1
   clear H1
   obtain rfl := Option.some.inj H
   go_enter Tryz.func56, Tryz.ntmps56
   go_wp2_with (first | ((with_reducible refine gate_callee (f := 45) rfl ?_); refine goesL_ (some 12) rfl rfl Tryz.func45 (by kernel_rfl) rfl #[.string a0] rfl z44_ ?_; (with_reducible refine (pursuivantref05_Good.calls k a0 true _ ?gw9_ A3.out).mono ?_); (case gw9_ => exact z16_); rintro e w' ⟨rfl, ⟨nd, rfl⟩⟩; refine ⟨_, rfl, ?_⟩) | (go_at_call 45; (fail_if_success (have z_ := U_4)); have U_4 := trivial; (with_reducible refine (pursuivantref05_Good.calls k a1 false _ ?gw10_ A5.out).mono ?_); (case gw10_ => exact z16_); rintro e w' ⟨rfl, ⟨nd, rfl⟩⟩))
   go_ret
   exact ⟨z64_, z65_⟩
 ·replace c4 := Bool.eq_false_iff.mpr c4
  subst c4
  have H1 : (some false) = some r := by rw [if_neg (show ¬ (false = true) by decide)] at H; exact H
  clear H
  have H := H1
  clear H1
  obtain rfl := Option.some.inj H
  go_enter Tryz.func56, Tryz.ntmps56
  go_wp2_with (first | ((with_reducible refine gate_callee (f := 45) rfl ?_); refine goesL_ (some 12) rfl rfl Tryz.func45 (by kernel_rfl) rfl #[.string a0] rfl z44_ ?_; (with_reducible refine (pursuivantref05_Good.calls k a0 false _ ?gw11_ A3.out).mono ?_); (case gw11_ => exact z16_); rintro e w' ⟨rfl, ⟨nd, rfl⟩⟩; refine ⟨_, rfl, ?_⟩))
  go_ret
  exact ⟨z64_, z65_⟩

def pursuivantref05_Default.f (a0 : ByteArray) : Option (Int) := if a0.toList = ([104, 116, 116, 112] : List UInt8) then (some 80) else (if a0.toList = ([104, 116, 116, 112, 115] : List UInt8) then (some 443) else (some 0))
set_option maxHeartbeats 8000000 in
set_option maxRecDepth 100000 in
theorem pursuivantref05_Default.calls (a0 : ByteArray) (r : Int) (w : World) (hG_ : GW w) (h : pursuivantref05_Default.f a0 = some r) :
  Calls Tryz.prog 43 #[.string a0] w fun e w' => e = .returned (.int .i64 r) ∧ Drawn0 w w' := by
 have H : (if a0.toList = ([104, 116, 116, 112] : List UInt8) then (some 80) else (if a0.toList = ([104, 116, 116, 112, 115] : List UInt8) then (some 443) else (some 0))) = some r := h
 clear h
 by_cases c2 : a0.toList = ([104, 116, 116, 112] : List UInt8)
 ·rw [if_pos c2] at H
  have c2b0 : (a0.toList == ([104, 116, 116, 112] : List UInt8)) = true := beq_iff_eq.mpr c2
  have c2b1 : (a0.toList != ([104, 116, 116, 112] : List UInt8)) = false := bne_eq_false_iff_eq.mpr c2
  clear c2
  obtain rfl := Option.some.inj H
  go_enter Tryz.func43, Tryz.ntmps43
  go_wp2
  go_ret
  exact ⟨z64_, z65_⟩
 ·rw [if_neg c2] at H
  have c2b0 : (a0.toList == ([104, 116, 116, 112] : List UInt8)) = false := beq_eq_false_iff_ne.mpr c2
  have c2b1 : (a0.toList != ([104, 116, 116, 112] : List UInt8)) = true := bne_iff_ne.mpr c2
  by_cases c3 : a0.toList = ([104, 116, 116, 112, 115] : List UInt8)
  ·rw [if_pos c3] at H
   have c3b0 : (a0.toList == ([104, 116, 116, 112, 115] : List UInt8)) = true := beq_iff_eq.mpr c3
   have c3b1 : (a0.toList != ([104, 116, 116, 112, 115] : List UInt8)) = false := bne_eq_false_iff_eq.mpr c3
   clear c3
   obtain rfl := Option.some.inj H
   go_enter Tryz.func43, Tryz.ntmps43
   go_wp2
   go_ret
   exact ⟨z64_, z65_⟩
  ·rw [if_neg c3] at H
   have c3b0 : (a0.toList == ([104, 116, 116, 112, 115] : List UInt8)) = false := beq_eq_false_iff_ne.mpr c3
   have c3b1 : (a0.toList != ([104, 116, 116, 112, 115] : List UInt8)) = true := bne_iff_ne.mpr c3
   obtain rfl := Option.some.inj H
   go_enter Tryz.func43, Tryz.ntmps43
   go_wp2
   go_ret
   exact ⟨z64_, z65_⟩

def pursuivantref06_Port.f (a0_0 a0_1 a0_2 : ByteArray) (a0_3 : Int) (a0_4 : ByteArray) (a0_5 : Bool) (a0_6 : ByteArray) (a0_7 : Bool) (a0_8 : ByteArray) : Option (Int) := if a0_3 = 0 then ((pursuivantref05_Default.f a0_0).bind fun t105 => (some t105)) else (some a0_3)
set_option maxHeartbeats 8000000 in
set_option maxRecDepth 100000 in
theorem pursuivantref06_Port.calls (a0_0 a0_1 a0_2 : ByteArray) (a0_3 : Int) (a0_4 : ByteArray) (a0_5 : Bool) (a0_6 : ByteArray) (a0_7 : Bool) (a0_8 : ByteArray) (r : Int) (w : World) (hG_ : GW w) (h : pursuivantref06_Port.f a0_0 a0_1 a0_2 a0_3 a0_4 a0_5 a0_6 a0_7 a0_8 = some r) :
  Calls Tryz.prog 62 #[.agg #[.string a0_0, .string a0_1, .string a0_2, .int .i64 a0_3, .string a0_4, .bool a0_5, .string a0_6, .bool a0_7, .string a0_8]] w fun e w' => e = .returned (.int .i64 r) ∧ Below w.heap.size w w' := by
 have hu30 := Tryz.underlying30
 have HB := Aside0.mk (Below.refl w.heap.size w)
 have H : (if a0_3 = 0 then ((pursuivantref05_Default.f a0_0).bind fun t105 => (some t105)) else (some a0_3)) = some r := h
 clear h
 by_cases c2 : a0_3 = 0
 ·rw [if_pos c2] at H
  have c2b0 : (a0_3 == 0) = true := beq_iff_eq.mpr c2
  have c2b1 : (a0_3 != 0) = false := bne_eq_false_iff_eq.mpr c2
  clear c2
  replace H := Option.bind_eq_some_iff.mp H
  obtain ⟨t105, A30, H⟩ := H
  replace H : (some t105) = some r := H
  have A3 := Aside0.mk A30; clear A30
  obtain rfl := Option.some.inj H
  go_enter Tryz.func62, Tryz.ntmps62
  go_wp2_with (first | ((with_reducible refine gate_dst (N := 1) rfl ?_); refine box_event ?hg (N := 1) ?hd (cs := #[.string a0_0, .string a0_1, .string a0_2, .int .i64 a0_3, .string a0_4, .bool a0_5, .string a0_6, .bool a0_7, .string a0_8]) (t := 30) ?hr ?_; (case hd => rfl); (case hg => rfl); (case hr => first | (go_simp; done) | (go_simp; rfl)); intro gb104 hg w4 hbox hb; have n0_ := Aside0.mk (below_step z45_ hb); have n1_ := Aside0.mk (hbox); have n2_ := Aside0.mk ((by rw [hg]; exact (below_size z45_) : w.heap.size ≤ gb104)); have n3_ := Aside0.mk ((by rw [hg]; exact (below_size z45_) : w.heap.size ≤ gb104)); clear HB; have HB := n0_; have BK104 := n1_; have GW104 := n2_; have GE104 := n3_; clear n0_ n1_ n2_ n3_; clear hb hbox hg; have hcz5_0 : w4.cell? ⟨gb104, 0, none⟩ = some (.string a0_0) := (blk_cell BK104.out 0).trans rfl; have hcz5_1 : w4.cell? ⟨gb104, 1, none⟩ = some (.string a0_1) := (blk_cell BK104.out 1).trans rfl; have hcz5_2 : w4.cell? ⟨gb104, 2, none⟩ = some (.string a0_2) := (blk_cell BK104.out 2).trans rfl; have hcz5_3 : w4.cell? ⟨gb104, 3, none⟩ = some (.int .i64 a0_3) := (blk_cell BK104.out 3).trans rfl; have hcz5_4 : w4.cell? ⟨gb104, 4, none⟩ = some (.string a0_4) := (blk_cell BK104.out 4).trans rfl; have hcz5_5 : w4.cell? ⟨gb104, 5, none⟩ = some (.bool a0_5) := (blk_cell BK104.out 5).trans rfl; have hcz5_6 : w4.cell? ⟨gb104, 6, none⟩ = some (.string a0_6) := (blk_cell BK104.out 6).trans rfl; have hcz5_7 : w4.cell? ⟨gb104, 7, none⟩ = some (.bool a0_7) := (blk_cell BK104.out 7).trans rfl; have hcz5_8 : w4.cell? ⟨gb104, 8, none⟩ = some (.string a0_8) := (blk_cell BK104.out 8).trans rfl; have hfz5_0 := blk_frozen BK104.out 0; have hfz5_1 := blk_frozen BK104.out 1; have hfz5_2 := blk_frozen BK104.out 2; have hfz5_3 := blk_frozen BK104.out 3; have hfz5_4 := blk_frozen BK104.out 4; have hfz5_5 := blk_frozen BK104.out 5; have hfz5_6 := blk_frozen BK104.out 6; have hfz5_7 := blk_frozen BK104.out 7; have hfz5_8 := blk_frozen BK104.out 8) | ((with_reducible refine gate_callee (f := 43) rfl ?_); refine goesL_ (some 8) rfl rfl Tryz.func43 (by kernel_rfl) rfl #[.string a0_0] rfl z44_ ?_; (with_reducible refine (pursuivantref05_Default.calls a0_0 t105 _ ?gw12_ A3.out).mono ?_); (case gw12_ => first | (with_reducible exact hG_) | ((with_reducible refine GW.below hG_ ?_); (repeat (first | (with_reducible exact HB.out) | (with_reducible apply below_alloc) | (with_reducible apply pw_below_drewN) | (with_reducible apply below_drew1) | (with_reducible apply below_drew) | (with_reducible exact Below.refl _ _) | (with_reducible refine below_set ?_ GE104.out))); done) | exact hG_ | (refine GW.below hG_ ?_; first | (with_reducible exact HB.out) | (repeat (first | (with_reducible first | exact HB.out | apply below_alloc | apply pw_below_drewN | apply below_drew1 | apply below_drew | exact Below.refl _ _) | exact HB.out))) | (apply GW.drewN; exact hG_) | (apply GW.drew; exact hG_)); rintro e w' ⟨rfl, ⟨nd, rfl⟩⟩; refine ⟨_, rfl, ?_⟩))
  go_ret
  exact ⟨z46_, by repeat (first | (with_reducible first | exact HB.out | apply below_alloc | apply pw_below_drewN | apply below_drew1 | refine below_set ?_ GE104.out) | exact HB.out)⟩
 ·rw [if_neg c2] at H
  have c2b0 : (a0_3 == 0) = false := beq_eq_false_iff_ne.mpr c2
  have c2b1 : (a0_3 != 0) = true := bne_iff_ne.mpr c2
  obtain rfl := Option.some.inj H
  go_enter Tryz.func62, Tryz.ntmps62
  go_wp2_with (first | ((with_reducible refine gate_dst (N := 1) rfl ?_); refine box_event ?hg (N := 1) ?hd (cs := #[.string a0_0, .string a0_1, .string a0_2, .int .i64 a0_3, .string a0_4, .bool a0_5, .string a0_6, .bool a0_7, .string a0_8]) (t := 30) ?hr ?_; (case hd => rfl); (case hg => rfl); (case hr => first | (go_simp; done) | (go_simp; rfl)); intro gb104 hg w6 hbox hb; have n0_ := Aside0.mk (below_step z45_ hb); have n1_ := Aside0.mk (hbox); have n2_ := Aside0.mk ((by rw [hg]; exact (below_size z45_) : w.heap.size ≤ gb104)); have n3_ := Aside0.mk ((by rw [hg]; exact (below_size z45_) : w.heap.size ≤ gb104)); clear HB; have HB := n0_; have BK104 := n1_; have GW104 := n2_; have GE104 := n3_; clear n0_ n1_ n2_ n3_; clear hb hbox hg; have hcz7_0 : w6.cell? ⟨gb104, 0, none⟩ = some (.string a0_0) := (blk_cell BK104.out 0).trans rfl; have hcz7_1 : w6.cell? ⟨gb104, 1, none⟩ = some (.string a0_1) := (blk_cell BK104.out 1).trans rfl; have hcz7_2 : w6.cell? ⟨gb104, 2, none⟩ = some (.string a0_2) := (blk_cell BK104.out 2).trans rfl; have hcz7_3 : w6.cell? ⟨gb104, 3, none⟩ = some (.int .i64 a0_3) := (blk_cell BK104.out 3).trans rfl; have hcz7_4 : w6.cell? ⟨gb104, 4, none⟩ = some (.string a0_4) := (blk_cell BK104.out 4).trans rfl; have hcz7_5 : w6.cell? ⟨gb104, 5, none⟩ = some (.bool a0_5) := (blk_cell BK104.out 5).trans rfl; have hcz7_6 : w6.cell? ⟨gb104, 6, none⟩ = some (.string a0_6) := (blk_cell BK104.out 6).trans rfl; have hcz7_7 : w6.cell? ⟨gb104, 7, none⟩ = some (.bool a0_7) := (blk_cell BK104.out 7).trans rfl; have hcz7_8 : w6.cell? ⟨gb104, 8, none⟩ = some (.string a0_8) := (blk_cell BK104.out 8).trans rfl; have hfz7_0 := blk_frozen BK104.out 0; have hfz7_1 := blk_frozen BK104.out 1; have hfz7_2 := blk_frozen BK104.out 2; have hfz7_3 := blk_frozen BK104.out 3; have hfz7_4 := blk_frozen BK104.out 4; have hfz7_5 := blk_frozen BK104.out 5; have hfz7_6 := blk_frozen BK104.out 6; have hfz7_7 := blk_frozen BK104.out 7; have hfz7_8 := blk_frozen BK104.out 8))
  go_ret
  exact ⟨z46_, by repeat (first | (with_reducible first | exact HB.out | apply below_alloc | apply pw_below_drewN | apply below_drew1 | refine below_set ?_ GE104.out) | exact HB.out)⟩

def pursuivantref08_Nobody.f (a0_0 a0_1 : ByteArray) (a0_2 : Int) : Option (Bool) := if a0_0.toList = ([] : List UInt8) then (if a0_1.toList = ([] : List UInt8) then (some (a0_2 == 0)) else (some false)) else (some false)
set_option maxHeartbeats 8000000 in
set_option maxRecDepth 100000 in
theorem pursuivantref08_Nobody.calls (a0_0 a0_1 : ByteArray) (a0_2 : Int) (r : Bool) (w : World) (hG_ : GW w) (h : pursuivantref08_Nobody.f a0_0 a0_1 a0_2 = some r) :
  Calls Tryz.prog 49 #[.agg #[.string a0_0, .string a0_1, .int .i64 a0_2]] w fun e w' => e = .returned (.bool r) ∧ Below w.heap.size w w' := by
 have hu32 := Tryz.underlying32
 have HB := Aside0.mk (Below.refl w.heap.size w)
 have H : (if a0_0.toList = ([] : List UInt8) then (if a0_1.toList = ([] : List UInt8) then (some (a0_2 == 0)) else (some false)) else (some false)) = some r := h
 clear h
 by_cases c2 : a0_0.toList = ([] : List UInt8)
 ·rw [if_pos c2] at H
  have c2b0 : (a0_0.toList == ([] : List UInt8)) = true := beq_iff_eq.mpr c2
  try have c2e0 : a0_0.toList.isEmpty = true := by rw [← nil_beq]; exact c2b0
  have c2b1 : (a0_0.toList != ([] : List UInt8)) = false := bne_eq_false_iff_eq.mpr c2
  clear c2
  by_cases c3 : a0_1.toList = ([] : List UInt8)
  ·rw [if_pos c3] at H
   have c3b0 : (a0_1.toList == ([] : List UInt8)) = true := beq_iff_eq.mpr c3
   try have c3e0 : a0_1.toList.isEmpty = true := by rw [← nil_beq]; exact c3b0
   have c3b1 : (a0_1.toList != ([] : List UInt8)) = false := bne_eq_false_iff_eq.mpr c3
   clear c3
   obtain rfl := Option.some.inj H
   go_enter Tryz.func49, Tryz.ntmps49
   go_wp2_with (first | ((with_reducible refine gate_dst (N := 1) rfl ?_); refine box_event ?hg (N := 1) ?hd (cs := #[.string a0_0, .string a0_1, .int .i64 a0_2]) (t := 32) ?hr ?_; (case hd => rfl); (case hg => rfl); (case hr => first | (go_simp; done) | (go_simp; rfl)); intro gb106 hg w4 hbox hb; have n0_ := Aside0.mk (below_step z45_ hb); have n1_ := Aside0.mk (hbox); have n2_ := Aside0.mk ((by rw [hg]; exact (below_size z45_) : w.heap.size ≤ gb106)); have n3_ := Aside0.mk ((by rw [hg]; exact (below_size z45_) : w.heap.size ≤ gb106)); clear HB; have HB := n0_; have BK106 := n1_; have GW106 := n2_; have GE106 := n3_; clear n0_ n1_ n2_ n3_; clear hb hbox hg; have hcz5_0 : w4.cell? ⟨gb106, 0, none⟩ = some (.string a0_0) := (blk_cell BK106.out 0).trans rfl; have hcz5_1 : w4.cell? ⟨gb106, 1, none⟩ = some (.string a0_1) := (blk_cell BK106.out 1).trans rfl; have hcz5_2 : w4.cell? ⟨gb106, 2, none⟩ = some (.int .i64 a0_2) := (blk_cell BK106.out 2).trans rfl; have hfz5_0 := blk_frozen BK106.out 0; have hfz5_1 := blk_frozen BK106.out 1; have hfz5_2 := blk_frozen BK106.out 2))
   go_ret
   exact ⟨z46_, z29_⟩
  ·rw [if_neg c3] at H
   have c3b0 : (a0_1.toList == ([] : List UInt8)) = false := beq_eq_false_iff_ne.mpr c3
   try have c3e0 : a0_1.toList.isEmpty = false := by rw [← nil_beq]; exact c3b0
   have c3b1 : (a0_1.toList != ([] : List UInt8)) = true := bne_iff_ne.mpr c3
   obtain rfl := Option.some.inj H
   go_enter Tryz.func49, Tryz.ntmps49
   go_wp2_with (first | ((with_reducible refine gate_dst (N := 1) rfl ?_); refine box_event ?hg (N := 1) ?hd (cs := #[.string a0_0, .string a0_1, .int .i64 a0_2]) (t := 32) ?hr ?_; (case hd => rfl); (case hg => rfl); (case hr => first | (go_simp; done) | (go_simp; rfl)); intro gb106 hg w6 hbox hb; have n0_ := Aside0.mk (below_step z45_ hb); have n1_ := Aside0.mk (hbox); have n2_ := Aside0.mk ((by rw [hg]; exact (below_size z45_) : w.heap.size ≤ gb106)); have n3_ := Aside0.mk ((by rw [hg]; exact (below_size z45_) : w.heap.size ≤ gb106)); clear HB; have HB := n0_; have BK106 := n1_; have GW106 := n2_; have GE106 := n3_; clear n0_ n1_ n2_ n3_; clear hb hbox hg; have hcz7_0 : w6.cell? ⟨gb106, 0, none⟩ = some (.string a0_0) := (blk_cell BK106.out 0).trans rfl; have hcz7_1 : w6.cell? ⟨gb106, 1, none⟩ = some (.string a0_1) := (blk_cell BK106.out 1).trans rfl; have hcz7_2 : w6.cell? ⟨gb106, 2, none⟩ = some (.int .i64 a0_2) := (blk_cell BK106.out 2).trans rfl; have hfz7_0 := blk_frozen BK106.out 0; have hfz7_1 := blk_frozen BK106.out 1; have hfz7_2 := blk_frozen BK106.out 2))
   go_ret
   exact ⟨z46_, z29_⟩
 ·rw [if_neg c2] at H
  have c2b0 : (a0_0.toList == ([] : List UInt8)) = false := beq_eq_false_iff_ne.mpr c2
  try have c2e0 : a0_0.toList.isEmpty = false := by rw [← nil_beq]; exact c2b0
  have c2b1 : (a0_0.toList != ([] : List UInt8)) = true := bne_iff_ne.mpr c2
  obtain rfl := Option.some.inj H
  go_enter Tryz.func49, Tryz.ntmps49
  go_wp2_with (first | ((with_reducible refine gate_dst (N := 1) rfl ?_); refine box_event ?hg (N := 1) ?hd (cs := #[.string a0_0, .string a0_1, .int .i64 a0_2]) (t := 32) ?hr ?_; (case hd => rfl); (case hg => rfl); (case hr => first | (go_simp; done) | (go_simp; rfl)); intro gb106 hg w8 hbox hb; have n0_ := Aside0.mk (below_step z45_ hb); have n1_ := Aside0.mk (hbox); have n2_ := Aside0.mk ((by rw [hg]; exact (below_size z45_) : w.heap.size ≤ gb106)); have n3_ := Aside0.mk ((by rw [hg]; exact (below_size z45_) : w.heap.size ≤ gb106)); clear HB; have HB := n0_; have BK106 := n1_; have GW106 := n2_; have GE106 := n3_; clear n0_ n1_ n2_ n3_; clear hb hbox hg; have hcz9_0 : w8.cell? ⟨gb106, 0, none⟩ = some (.string a0_0) := (blk_cell BK106.out 0).trans rfl; have hcz9_1 : w8.cell? ⟨gb106, 1, none⟩ = some (.string a0_1) := (blk_cell BK106.out 1).trans rfl; have hcz9_2 : w8.cell? ⟨gb106, 2, none⟩ = some (.int .i64 a0_2) := (blk_cell BK106.out 2).trans rfl; have hfz9_0 := blk_frozen BK106.out 0; have hfz9_1 := blk_frozen BK106.out 1; have hfz9_2 := blk_frozen BK106.out 2))
  go_ret
  exact ⟨z46_, z29_⟩

def pursuivantref08_Good.f (k : Nat) (a0_0 a0_1 : ByteArray) (a0_2 : Int) : Option (Bool) := (pursuivantref08_Nobody.f a0_0 a0_1 a0_2).bind fun t108 => (if t108 = true then (some true) else ((pursuivantref05_Default.f a0_0).bind fun t109 => (if t109 > 0 then ((pursuivantref05_Good.f k a0_1).bind fun t110 => (if t110 = true then (if a0_2 > 0 then (some (decide (a0_2 < 65536))) else (some false)) else (some false))) else (some false))))
set_option maxHeartbeats 8000000 in
set_option maxRecDepth 100000 in
theorem pursuivantref08_Good.calls (k : Nat) (a0_0 a0_1 : ByteArray) (a0_2 : Int) (r : Bool) (w : World) (hG_ : GW w) (h : pursuivantref08_Good.f k a0_0 a0_1 a0_2 = some r) :
  Calls Tryz.prog 16 #[.agg #[.string a0_0, .string a0_1, .int .i64 a0_2]] w fun e w' => e = .returned (.bool r) ∧ Below w.heap.size w w' := by
 have hu32 := Tryz.underlying32
 have HB := Aside0.mk (Below.refl w.heap.size w)
 have H : ((pursuivantref08_Nobody.f a0_0 a0_1 a0_2).bind fun t108 => (if t108 = true then (some true) else ((pursuivantref05_Default.f a0_0).bind fun t109 => (if t109 > 0 then ((pursuivantref05_Good.f k a0_1).bind fun t110 => (if t110 = true then (if a0_2 > 0 then (some (decide (a0_2 < 65536))) else (some false)) else (some false))) else (some false))))) = some r := h
 clear h
 replace H := Option.bind_eq_some_iff.mp H
 obtain ⟨t108, A20, H⟩ := H
 replace H : (if t108 = true then (some true) else ((pursuivantref05_Default.f a0_0).bind fun t109 => (if t109 > 0 then ((pursuivantref05_Good.f k a0_1).bind fun t110 => (if t110 = true then (if a0_2 > 0 then (some (decide (a0_2 < 65536))) else (some false)) else (some false))) else (some false)))) = some r := H
 have A2 := Aside0.mk A20; clear A20
 by_cases c3 : t108 = true
 ·subst c3
  have H1 : (some true) = some r := by rw [if_pos rfl] at H; exact H
  clear H
  have H := H1
  clear H1
  obtain rfl := Option.some.inj H
  go_enter Tryz.func16, Tryz.ntmps16
  go_wp2_with (first | ((with_reducible refine gate_dst (N := 1) rfl ?_); refine box_event ?hg (N := 1) ?hd (cs := #[.string a0_0, .string a0_1, .int .i64 a0_2]) (t := 32) ?hr ?_; (case hd => rfl); (case hg => rfl); (case hr => first | (go_simp; done) | (go_simp; rfl)); intro gb107 hg w4 hbox hb; have n0_ := Aside0.mk (below_step z45_ hb); have n1_ := Aside0.mk (hbox); have n2_ := Aside0.mk ((by rw [hg]; exact (below_size z45_) : w.heap.size ≤ gb107)); have n3_ := Aside0.mk ((by rw [hg]; exact (below_size z45_) : w.heap.size ≤ gb107)); clear HB; have HB := n0_; have BK107 := n1_; have GW107 := n2_; have GE107 := n3_; clear n0_ n1_ n2_ n3_; clear hb hbox hg; have hcz5_0 : w4.cell? ⟨gb107, 0, none⟩ = some (.string a0_0) := (blk_cell BK107.out 0).trans rfl; have hcz5_1 : w4.cell? ⟨gb107, 1, none⟩ = some (.string a0_1) := (blk_cell BK107.out 1).trans rfl; have hcz5_2 : w4.cell? ⟨gb107, 2, none⟩ = some (.int .i64 a0_2) := (blk_cell BK107.out 2).trans rfl; have hfz5_0 := blk_frozen BK107.out 0; have hfz5_1 := blk_frozen BK107.out 1; have hfz5_2 := blk_frozen BK107.out 2) | ((with_reducible refine gate_callee (f := 49) rfl ?_); refine goesL_ (some 4) rfl rfl Tryz.func49 (by kernel_rfl) rfl #[.agg #[.string a0_0, .string a0_1, .int .i64 a0_2]] rfl z44_ ?_; (with_reducible refine (pursuivantref08_Nobody.calls a0_0 a0_1 a0_2 true _ ?gw13_ A2.out).mono ?_); (case gw13_ => exact z10_); rintro e w6 ⟨rfl, hb⟩; refine ⟨_, rfl, ?_⟩; have n0_ := Aside0.mk (blk_below (g := gb107) (o := .cells #[.string a0_0, .string a0_1, .int .i64 a0_2] 32 (0, 0)) z47_ hb); have n1_ := Aside0.mk (below_step z30_ hb); clear BK107; clear HB; have BK107 := n0_; have HB := n1_; clear n0_ n1_; (try clear hb); (try clear hb2); (try clear hk); (try clear hi)))
  go_ret
  exact ⟨z46_, z30_⟩
 ·replace c3 := Bool.eq_false_iff.mpr c3
  subst c3
  have H1 : ((pursuivantref05_Default.f a0_0).bind fun t109 => (if t109 > 0 then ((pursuivantref05_Good.f k a0_1).bind fun t110 => (if t110 = true then (if a0_2 > 0 then (some (decide (a0_2 < 65536))) else (some false)) else (some false))) else (some false))) = some r := by rw [if_neg (show ¬ (false = true) by decide)] at H; exact H
  clear H
  have H := H1
  clear H1
  replace H := Option.bind_eq_some_iff.mp H
  obtain ⟨t109, A70, H⟩ := H
  replace H : (if t109 > 0 then ((pursuivantref05_Good.f k a0_1).bind fun t110 => (if t110 = true then (if a0_2 > 0 then (some (decide (a0_2 < 65536))) else (some false)) else (some false))) else (some false)) = some r := H
  have A7 := Aside0.mk A70; clear A70
  by_cases c8 : t109 > 0
  ·rw [if_pos c8] at H
   have c8b0 : decide (0 < t109) = true := decide_eq_true c8; clear c8
   replace H := Option.bind_eq_some_iff.mp H
   obtain ⟨t110, A90, H⟩ := H
   replace H : (if t110 = true then (if a0_2 > 0 then (some (decide (a0_2 < 65536))) else (some false)) else (some false)) = some r := H
   have A9 := Aside0.mk A90; clear A90
   by_cases c10 : t110 = true
   ·subst c10
    have H1 : (if a0_2 > 0 then (some (decide (a0_2 < 65536))) else (some false)) = some r := by rw [if_pos rfl] at H; exact H
    clear H
    have H := H1
    clear H1
    by_cases c11 : a0_2 > 0
    ·rw [if_pos c11] at H
     have c11b0 : decide (0 < a0_2) = true := decide_eq_true c11; clear c11
     obtain rfl := Option.some.inj H
     go_enter Tryz.func16, Tryz.ntmps16
     go_wp2_with (first | ((with_reducible refine gate_dst (N := 1) rfl ?_); refine box_event ?hg (N := 1) ?hd (cs := #[.string a0_0, .string a0_1, .int .i64 a0_2]) (t := 32) ?hr ?_; (case hd => rfl); (case hg => rfl); (case hr => first | (go_simp; done) | (go_simp; rfl)); intro gb107 hg w12 hbox hb; have n0_ := Aside0.mk (below_step z45_ hb); have n1_ := Aside0.mk (hbox); have n2_ := Aside0.mk ((by rw [hg]; exact (below_size z45_) : w.heap.size ≤ gb107)); have n3_ := Aside0.mk ((by rw [hg]; exact (below_size z45_) : w.heap.size ≤ gb107)); clear HB; have HB := n0_; have BK107 := n1_; have GW107 := n2_; have GE107 := n3_; clear n0_ n1_ n2_ n3_; clear hb hbox hg; have hcz13_0 : w12.cell? ⟨gb107, 0, none⟩ = some (.string a0_0) := (blk_cell BK107.out 0).trans rfl; have hcz13_1 : w12.cell? ⟨gb107, 1, none⟩ = some (.string a0_1) := (blk_cell BK107.out 1).trans rfl; have hcz13_2 : w12.cell? ⟨gb107, 2, none⟩ = some (.int .i64 a0_2) := (blk_cell BK107.out 2).trans rfl; have hfz13_0 := blk_frozen BK107.out 0; have hfz13_1 := blk_frozen BK107.out 1; have hfz13_2 := blk_frozen BK107.out 2) | ((with_reducible refine gate_callee (f := 49) rfl ?_); refine goesL_ (some 4) rfl rfl Tryz.func49 (by kernel_rfl) rfl #[.agg #[.string a0_0, .string a0_1, .int .i64 a0_2]] rfl z44_ ?_; (with_reducible refine (pursuivantref08_Nobody.calls a0_0 a0_1 a0_2 false _ ?gw14_ A2.out).mono ?_); (case gw14_ => exact z10_); rintro e w14 ⟨rfl, hb⟩; refine ⟨_, rfl, ?_⟩; have n0_ := Aside0.mk (blk_below (g := gb107) (o := .cells #[.string a0_0, .string a0_1, .int .i64 a0_2] 32 (0, 0)) z47_ hb); have n1_ := Aside0.mk (below_step z30_ hb); clear BK107; clear HB; have BK107 := n0_; have HB := n1_; clear n0_ n1_; (try clear hb); (try clear hb2); (try clear hk); (try clear hi); have hcz15_0 : w14.cell? ⟨gb107, 0, none⟩ = some (.string a0_0) := (blk_cell BK107.out 0).trans rfl; have hcz15_1 : w14.cell? ⟨gb107, 1, none⟩ = some (.string a0_1) := (blk_cell BK107.out 1).trans rfl; have hcz15_2 : w14.cell? ⟨gb107, 2, none⟩ = some (.int .i64 a0_2) := (blk_cell BK107.out 2).trans rfl; have hfz15_0 := blk_frozen BK107.out 0; have hfz15_1 := blk_frozen BK107.out 1; have hfz15_2 := blk_frozen BK107.out 2) | (go_at_call 43; (fail_if_success (have z_ := U_5)); have U_5 := trivial; (with_reducible refine (pursuivantref05_Default.calls a0_0 t109 _ ?gw15_ A7.out).mono ?_); (case gw15_ => exact z10_); rintro e w' ⟨rfl, ⟨nd, rfl⟩⟩) | (go_at_call 45; (fail_if_success (have z_ := U_6)); have U_6 := trivial; (with_reducible refine (pursuivantref05_Good.calls k a0_1 true _ ?gw16_ A9.out).mono ?_); (case gw16_ => exact z10_); rintro e w' ⟨rfl, ⟨nd, rfl⟩⟩))
     go_ret
     exact ⟨z46_, z30_⟩
    ·rw [if_neg c11] at H
     have c11b0 : decide (0 < a0_2) = false := decide_eq_false c11; clear c11
     obtain rfl := Option.some.inj H
     go_enter Tryz.func16, Tryz.ntmps16
     go_wp2_with (first | ((with_reducible refine gate_dst (N := 1) rfl ?_); refine box_event ?hg (N := 1) ?hd (cs := #[.string a0_0, .string a0_1, .int .i64 a0_2]) (t := 32) ?hr ?_; (case hd => rfl); (case hg => rfl); (case hr => first | (go_simp; done) | (go_simp; rfl)); intro gb107 hg w16 hbox hb; have n0_ := Aside0.mk (below_step z45_ hb); have n1_ := Aside0.mk (hbox); have n2_ := Aside0.mk ((by rw [hg]; exact (below_size z45_) : w.heap.size ≤ gb107)); have n3_ := Aside0.mk ((by rw [hg]; exact (below_size z45_) : w.heap.size ≤ gb107)); clear HB; have HB := n0_; have BK107 := n1_; have GW107 := n2_; have GE107 := n3_; clear n0_ n1_ n2_ n3_; clear hb hbox hg; have hcz17_0 : w16.cell? ⟨gb107, 0, none⟩ = some (.string a0_0) := (blk_cell BK107.out 0).trans rfl; have hcz17_1 : w16.cell? ⟨gb107, 1, none⟩ = some (.string a0_1) := (blk_cell BK107.out 1).trans rfl; have hcz17_2 : w16.cell? ⟨gb107, 2, none⟩ = some (.int .i64 a0_2) := (blk_cell BK107.out 2).trans rfl; have hfz17_0 := blk_frozen BK107.out 0; have hfz17_1 := blk_frozen BK107.out 1; have hfz17_2 := blk_frozen BK107.out 2) | ((with_reducible refine gate_callee (f := 49) rfl ?_); refine goesL_ (some 4) rfl rfl Tryz.func49 (by kernel_rfl) rfl #[.agg #[.string a0_0, .string a0_1, .int .i64 a0_2]] rfl z44_ ?_; (with_reducible refine (pursuivantref08_Nobody.calls a0_0 a0_1 a0_2 false _ ?gw17_ A2.out).mono ?_); (case gw17_ => exact z10_); rintro e w18 ⟨rfl, hb⟩; refine ⟨_, rfl, ?_⟩; have n0_ := Aside0.mk (blk_below (g := gb107) (o := .cells #[.string a0_0, .string a0_1, .int .i64 a0_2] 32 (0, 0)) z47_ hb); have n1_ := Aside0.mk (below_step z30_ hb); clear BK107; clear HB; have BK107 := n0_; have HB := n1_; clear n0_ n1_; (try clear hb); (try clear hb2); (try clear hk); (try clear hi); have hcz19_0 : w18.cell? ⟨gb107, 0, none⟩ = some (.string a0_0) := (blk_cell BK107.out 0).trans rfl; have hcz19_1 : w18.cell? ⟨gb107, 1, none⟩ = some (.string a0_1) := (blk_cell BK107.out 1).trans rfl; have hcz19_2 : w18.cell? ⟨gb107, 2, none⟩ = some (.int .i64 a0_2) := (blk_cell BK107.out 2).trans rfl; have hfz19_0 := blk_frozen BK107.out 0; have hfz19_1 := blk_frozen BK107.out 1; have hfz19_2 := blk_frozen BK107.out 2) | (go_at_call 43; (fail_if_success (have z_ := U_7)); have U_7 := trivial; (with_reducible refine (pursuivantref05_Default.calls a0_0 t109 _ ?gw18_ A7.out).mono ?_); (case gw18_ => exact z10_); rintro e w' ⟨rfl, ⟨nd, rfl⟩⟩) | (go_at_call 45; (fail_if_success (have z_ := U_8)); have U_8 := trivial; (with_reducible refine (pursuivantref05_Good.calls k a0_1 true _ ?gw19_ A9.out).mono ?_); (case gw19_ => exact z10_); rintro e w' ⟨rfl, ⟨nd, rfl⟩⟩))
     go_ret
     exact ⟨z46_, z30_⟩
   ·replace c10 := Bool.eq_false_iff.mpr c10
    subst c10
    have H1 : (some false) = some r := by rw [if_neg (show ¬ (false = true) by decide)] at H; exact H
    clear H
    have H := H1
    clear H1
    obtain rfl := Option.some.inj H
    go_enter Tryz.func16, Tryz.ntmps16
    go_wp2_with (first | ((with_reducible refine gate_dst (N := 1) rfl ?_); refine box_event ?hg (N := 1) ?hd (cs := #[.string a0_0, .string a0_1, .int .i64 a0_2]) (t := 32) ?hr ?_; (case hd => rfl); (case hg => rfl); (case hr => first | (go_simp; done) | (go_simp; rfl)); intro gb107 hg w20 hbox hb; have n0_ := Aside0.mk (below_step z45_ hb); have n1_ := Aside0.mk (hbox); have n2_ := Aside0.mk ((by rw [hg]; exact (below_size z45_) : w.heap.size ≤ gb107)); have n3_ := Aside0.mk ((by rw [hg]; exact (below_size z45_) : w.heap.size ≤ gb107)); clear HB; have HB := n0_; have BK107 := n1_; have GW107 := n2_; have GE107 := n3_; clear n0_ n1_ n2_ n3_; clear hb hbox hg; have hcz21_0 : w20.cell? ⟨gb107, 0, none⟩ = some (.string a0_0) := (blk_cell BK107.out 0).trans rfl; have hcz21_1 : w20.cell? ⟨gb107, 1, none⟩ = some (.string a0_1) := (blk_cell BK107.out 1).trans rfl; have hcz21_2 : w20.cell? ⟨gb107, 2, none⟩ = some (.int .i64 a0_2) := (blk_cell BK107.out 2).trans rfl; have hfz21_0 := blk_frozen BK107.out 0; have hfz21_1 := blk_frozen BK107.out 1; have hfz21_2 := blk_frozen BK107.out 2) | ((with_reducible refine gate_callee (f := 49) rfl ?_); refine goesL_ (some 4) rfl rfl Tryz.func49 (by kernel_rfl) rfl #[.agg #[.string a0_0, .string a0_1, .int .i64 a0_2]] rfl z44_ ?_; (with_reducible refine (pursuivantref08_Nobody.calls a0_0 a0_1 a0_2 false _ ?gw20_ A2.out).mono ?_); (case gw20_ => exact z10_); rintro e w22 ⟨rfl, hb⟩; refine ⟨_, rfl, ?_⟩; have n0_ := Aside0.mk (blk_below (g := gb107) (o := .cells #[.string a0_0, .string a0_1, .int .i64 a0_2] 32 (0, 0)) z47_ hb); have n1_ := Aside0.mk (below_step z30_ hb); clear BK107; clear HB; have BK107 := n0_; have HB := n1_; clear n0_ n1_; (try clear hb); (try clear hb2); (try clear hk); (try clear hi); have hcz23_0 : w22.cell? ⟨gb107, 0, none⟩ = some (.string a0_0) := (blk_cell BK107.out 0).trans rfl; have hcz23_1 : w22.cell? ⟨gb107, 1, none⟩ = some (.string a0_1) := (blk_cell BK107.out 1).trans rfl; have hcz23_2 : w22.cell? ⟨gb107, 2, none⟩ = some (.int .i64 a0_2) := (blk_cell BK107.out 2).trans rfl; have hfz23_0 := blk_frozen BK107.out 0; have hfz23_1 := blk_frozen BK107.out 1; have hfz23_2 := blk_frozen BK107.out 2) | (go_at_call 43; (fail_if_success (have z_ := U_9)); have U_9 := trivial; (with_reducible refine (pursuivantref05_Default.calls a0_0 t109 _ ?gw21_ A7.out).mono ?_); (case gw21_ => exact z10_); rintro e w' ⟨rfl, ⟨nd, rfl⟩⟩) | (go_at_call 45; (fail_if_success (have z_ := U_10)); have U_10 := trivial; (with_reducible refine (pursuivantref05_Good.calls k a0_1 false _ ?gw22_ A9.out).mono ?_); (case gw22_ => exact z10_); rintro e w' ⟨rfl, ⟨nd, rfl⟩⟩))
    go_ret
    exact ⟨z46_, z30_⟩
  ·rw [if_neg c8] at H
   have c8b0 : decide (0 < t109) = false := decide_eq_false c8; clear c8
   obtain rfl := Option.some.inj H
   go_enter Tryz.func16, Tryz.ntmps16
   go_wp2_with (first | ((with_reducible refine gate_dst (N := 1) rfl ?_); refine box_event ?hg (N := 1) ?hd (cs := #[.string a0_0, .string a0_1, .int .i64 a0_2]) (t := 32) ?hr ?_; (case hd => rfl); (case hg => rfl); (case hr => first | (go_simp; done) | (go_simp; rfl)); intro gb107 hg w24 hbox hb; have n0_ := Aside0.mk (below_step z45_ hb); have n1_ := Aside0.mk (hbox); have n2_ := Aside0.mk ((by rw [hg]; exact (below_size z45_) : w.heap.size ≤ gb107)); have n3_ := Aside0.mk ((by rw [hg]; exact (below_size z45_) : w.heap.size ≤ gb107)); clear HB; have HB := n0_; have BK107 := n1_; have GW107 := n2_; have GE107 := n3_; clear n0_ n1_ n2_ n3_; clear hb hbox hg; have hcz25_0 : w24.cell? ⟨gb107, 0, none⟩ = some (.string a0_0) := (blk_cell BK107.out 0).trans rfl; have hcz25_1 : w24.cell? ⟨gb107, 1, none⟩ = some (.string a0_1) := (blk_cell BK107.out 1).trans rfl; have hcz25_2 : w24.cell? ⟨gb107, 2, none⟩ = some (.int .i64 a0_2) := (blk_cell BK107.out 2).trans rfl; have hfz25_0 := blk_frozen BK107.out 0; have hfz25_1 := blk_frozen BK107.out 1; have hfz25_2 := blk_frozen BK107.out 2) | ((with_reducible refine gate_callee (f := 49) rfl ?_); refine goesL_ (some 4) rfl rfl Tryz.func49 (by kernel_rfl) rfl #[.agg #[.string a0_0, .string a0_1, .int .i64 a0_2]] rfl z44_ ?_; (with_reducible refine (pursuivantref08_Nobody.calls a0_0 a0_1 a0_2 false _ ?gw23_ A2.out).mono ?_); (case gw23_ => exact z10_); rintro e w26 ⟨rfl, hb⟩; refine ⟨_, rfl, ?_⟩; have n0_ := Aside0.mk (blk_below (g := gb107) (o := .cells #[.string a0_0, .string a0_1, .int .i64 a0_2] 32 (0, 0)) z47_ hb); have n1_ := Aside0.mk (below_step z30_ hb); clear BK107; clear HB; have BK107 := n0_; have HB := n1_; clear n0_ n1_; (try clear hb); (try clear hb2); (try clear hk); (try clear hi); have hcz27_0 : w26.cell? ⟨gb107, 0, none⟩ = some (.string a0_0) := (blk_cell BK107.out 0).trans rfl; have hcz27_1 : w26.cell? ⟨gb107, 1, none⟩ = some (.string a0_1) := (blk_cell BK107.out 1).trans rfl; have hcz27_2 : w26.cell? ⟨gb107, 2, none⟩ = some (.int .i64 a0_2) := (blk_cell BK107.out 2).trans rfl; have hfz27_0 := blk_frozen BK107.out 0; have hfz27_1 := blk_frozen BK107.out 1; have hfz27_2 := blk_frozen BK107.out 2) | (go_at_call 43; (fail_if_success (have z_ := U_11)); have U_11 := trivial; (with_reducible refine (pursuivantref05_Default.calls a0_0 t109 _ ?gw24_ A7.out).mono ?_); (case gw24_ => exact z10_); rintro e w' ⟨rfl, ⟨nd, rfl⟩⟩))
   go_ret
   exact ⟨z46_, z30_⟩

def pursuivantref08_Same.f (k : Nat) (a0_0 a0_1 : ByteArray) (a0_2 : Int) (a1_0 a1_1 : ByteArray) (a1_2 : Int) : Option (Bool) := (pursuivantref08_Good.f k a0_0 a0_1 a0_2).bind fun t113 => (if t113 = true then ((pursuivantref08_Nobody.f a0_0 a0_1 a0_2).bind fun t114 => (if t114 = true then (some false) else (if a0_0.toList = a1_0.toList then (if a0_1.toList = a1_1.toList then (some (a0_2 == a1_2)) else (some false)) else (some false)))) else (some false))
set_option maxHeartbeats 8000000 in
set_option maxRecDepth 100000 in
theorem pursuivantref08_Same.calls (k : Nat) (a0_0 a0_1 : ByteArray) (a0_2 : Int) (a1_0 a1_1 : ByteArray) (a1_2 : Int) (r : Bool) (w : World) (hG_ : GW w) (h : pursuivantref08_Same.f k a0_0 a0_1 a0_2 a1_0 a1_1 a1_2 = some r) :
  Calls Tryz.prog 21 #[.agg #[.string a0_0, .string a0_1, .int .i64 a0_2], .agg #[.string a1_0, .string a1_1, .int .i64 a1_2]] w fun e w' => e = .returned (.bool r) ∧ Below w.heap.size w w' := by
 have hu32 := Tryz.underlying32
 have HB := Aside0.mk (Below.refl w.heap.size w)
 have H : ((pursuivantref08_Good.f k a0_0 a0_1 a0_2).bind fun t113 => (if t113 = true then ((pursuivantref08_Nobody.f a0_0 a0_1 a0_2).bind fun t114 => (if t114 = true then (some false) else (if a0_0.toList = a1_0.toList then (if a0_1.toList = a1_1.toList then (some (a0_2 == a1_2)) else (some false)) else (some false)))) else (some false))) = some r := h
 clear h
 replace H := Option.bind_eq_some_iff.mp H
 obtain ⟨t113, A30, H⟩ := H
 replace H : (if t113 = true then ((pursuivantref08_Nobody.f a0_0 a0_1 a0_2).bind fun t114 => (if t114 = true then (some false) else (if a0_0.toList = a1_0.toList then (if a0_1.toList = a1_1.toList then (some (a0_2 == a1_2)) else (some false)) else (some false)))) else (some false)) = some r := H
 have A3 := Aside0.mk A30; clear A30
 by_cases c4 : t113 = true
 ·subst c4
  have H1 : ((pursuivantref08_Nobody.f a0_0 a0_1 a0_2).bind fun t114 => (if t114 = true then (some false) else (if a0_0.toList = a1_0.toList then (if a0_1.toList = a1_1.toList then (some (a0_2 == a1_2)) else (some false)) else (some false)))) = some r := by rw [if_pos rfl] at H; exact H
  clear H
  have H := H1
  clear H1
  replace H := Option.bind_eq_some_iff.mp H
  obtain ⟨t114, A50, H⟩ := H
  replace H : (if t114 = true then (some false) else (if a0_0.toList = a1_0.toList then (if a0_1.toList = a1_1.toList then (some (a0_2 == a1_2)) else (some false)) else (some false))) = some r := H
  have A5 := Aside0.mk A50; clear A50
  by_cases c6 : t114 = true
  ·subst c6
   have H1 : (some false) = some r := by rw [if_pos rfl] at H; exact H
   clear H
   have H := H1
   clear H1
   obtain rfl := Option.some.inj H
   go_enter Tryz.func21, Tryz.ntmps21
   go_wp2_with (first | ((with_reducible refine gate_dst (N := 2) rfl ?_); refine box_event ?hg (N := 2) ?hd (cs := #[.string a0_0, .string a0_1, .int .i64 a0_2]) (t := 32) ?hr ?_; (case hd => rfl); (case hg => rfl); (case hr => first | (go_simp; done) | (go_simp; rfl)); intro gb111 hg w7 hbox hb; have n0_ := Aside0.mk (below_step z45_ hb); have n1_ := Aside0.mk (hbox); have n2_ := Aside0.mk ((by rw [hg]; exact (below_size z45_) : w.heap.size ≤ gb111)); have n3_ := Aside0.mk ((by rw [hg]; exact (below_size z45_) : w.heap.size ≤ gb111)); clear HB; have HB := n0_; have BK111 := n1_; have GW111 := n2_; have GE111 := n3_; clear n0_ n1_ n2_ n3_; clear hb hbox hg) | ((with_reducible refine gate_dst (N := 3) rfl ?_); refine box_event ?hg (N := 3) ?hd (cs := #[.string a1_0, .string a1_1, .int .i64 a1_2]) (t := 32) ?hr ?_; (case hd => rfl); (case hg => rfl); (case hr => first | (go_simp; done) | (go_simp; rfl)); intro gb112 hg w8 hbox hb; have n0_ := Aside0.mk (blk_below (g := gb111) (o := .cells #[.string a0_0, .string a0_1, .int .i64 a0_2] 32 (0, 0)) z48_ hb); have n1_ := Aside0.mk (below_step z31_ hb); have n2_ := Aside0.mk (hbox); have n3_ := Aside0.mk ((by rw [hg]; exact (below_size z31_) : w.heap.size ≤ gb112)); have n4_ := Aside0.mk ((by rw [hg]; exact (below_size z31_) : w.heap.size ≤ gb112)); have n5_ := Aside0.mk ((by rw [hg]; exact Nat.ne_of_lt (blk_lt (g := gb111) (o := .cells #[.string a0_0, .string a0_1, .int .i64 a0_2] 32 (0, 0)) z48_) : gb111 ≠ gb112)); have n6_ := Aside0.mk ((by rw [hg]; exact Nat.ne_of_gt (blk_lt (g := gb111) (o := .cells #[.string a0_0, .string a0_1, .int .i64 a0_2] 32 (0, 0)) z48_) : gb112 ≠ gb111)); clear BK111; clear HB; have BK111 := n0_; have HB := n1_; have BK112 := n2_; have GW112 := n3_; have GE112 := n4_; have NB111_112 := n5_; have NB112_111 := n6_; clear n0_ n1_ n2_ n3_ n4_ n5_ n6_; clear hb hbox hg; have hnb9 := NB111_112.out; have hnc9 := NB112_111.out; have hcz10_0 : w8.cell? ⟨gb111, 0, none⟩ = some (.string a0_0) := (blk_cell BK111.out 0).trans rfl; have hcz10_1 : w8.cell? ⟨gb111, 1, none⟩ = some (.string a0_1) := (blk_cell BK111.out 1).trans rfl; have hcz10_2 : w8.cell? ⟨gb111, 2, none⟩ = some (.int .i64 a0_2) := (blk_cell BK111.out 2).trans rfl; have hfz10_0 := blk_frozen BK111.out 0; have hfz10_1 := blk_frozen BK111.out 1; have hfz10_2 := blk_frozen BK111.out 2) | ((with_reducible refine gate_callee (f := 16) rfl ?_); refine goesL_ (some 6) rfl rfl Tryz.func16 (by kernel_rfl) rfl #[.agg #[.string a0_0, .string a0_1, .int .i64 a0_2]] rfl z44_ ?_; (with_reducible refine (pursuivantref08_Good.calls k a0_0 a0_1 a0_2 true _ ?gw25_ A3.out).mono ?_); (case gw25_ => exact z5_); rintro e w11 ⟨rfl, hb⟩; refine ⟨_, rfl, ?_⟩; have n0_ := Aside0.mk (blk_below (g := gb111) (o := .cells #[.string a0_0, .string a0_1, .int .i64 a0_2] 32 (0, 0)) z48_ hb); have n1_ := Aside0.mk (blk_below (g := gb112) (o := .cells #[.string a1_0, .string a1_1, .int .i64 a1_2] 32 (0, 0)) z49_ hb); have n2_ := Aside0.mk (below_step z22_ hb); clear BK111; clear BK112; clear HB; have BK111 := n0_; have BK112 := n1_; have HB := n2_; clear n0_ n1_ n2_; (try clear hb); (try clear hb2); (try clear hk); (try clear hi); have hcz12_0 : w11.cell? ⟨gb111, 0, none⟩ = some (.string a0_0) := (blk_cell BK111.out 0).trans rfl; have hcz12_1 : w11.cell? ⟨gb111, 1, none⟩ = some (.string a0_1) := (blk_cell BK111.out 1).trans rfl; have hcz12_2 : w11.cell? ⟨gb111, 2, none⟩ = some (.int .i64 a0_2) := (blk_cell BK111.out 2).trans rfl; have hfz12_0 := blk_frozen BK111.out 0; have hfz12_1 := blk_frozen BK111.out 1; have hfz12_2 := blk_frozen BK111.out 2) | (go_at_call 49; (fail_if_success (have z_ := U_12)); have U_12 := trivial; (with_reducible refine (pursuivantref08_Nobody.calls a0_0 a0_1 a0_2 true _ ?gw26_ A5.out).mono ?_); (case gw26_ => exact z5_); rintro e w13 ⟨rfl, hb⟩; have n0_ := Aside0.mk (blk_below (g := gb111) (o := .cells #[.string a0_0, .string a0_1, .int .i64 a0_2] 32 (0, 0)) z48_ hb); have n1_ := Aside0.mk (blk_below (g := gb112) (o := .cells #[.string a1_0, .string a1_1, .int .i64 a1_2] 32 (0, 0)) z49_ hb); have n2_ := Aside0.mk (below_step z22_ hb); clear BK111; clear BK112; clear HB; have BK111 := n0_; have BK112 := n1_; have HB := n2_; clear n0_ n1_ n2_; (try clear hb); (try clear hb2); (try clear hk); (try clear hi)))
   go_ret
   exact ⟨z46_, z22_⟩
  ·replace c6 := Bool.eq_false_iff.mpr c6
   subst c6
   have H1 : (if a0_0.toList = a1_0.toList then (if a0_1.toList = a1_1.toList then (some (a0_2 == a1_2)) else (some false)) else (some false)) = some r := by rw [if_neg (show ¬ (false = true) by decide)] at H; exact H
   clear H
   have H := H1
   clear H1
   by_cases c14 : a0_0.toList = a1_0.toList
   ·rw [if_pos c14] at H
    have c14b0 : (a0_0.toList == a1_0.toList) = true := beq_iff_eq.mpr c14
    have c14b1 : (a0_0.toList != a1_0.toList) = false := bne_eq_false_iff_eq.mpr c14
    clear c14
    by_cases c15 : a0_1.toList = a1_1.toList
    ·rw [if_pos c15] at H
     have c15b0 : (a0_1.toList == a1_1.toList) = true := beq_iff_eq.mpr c15
     have c15b1 : (a0_1.toList != a1_1.toList) = false := bne_eq_false_iff_eq.mpr c15
     clear c15
     obtain rfl := Option.some.inj H
     go_enter Tryz.func21, Tryz.ntmps21
     go_wp2_with (first | ((with_reducible refine gate_dst (N := 2) rfl ?_); refine box_event ?hg (N := 2) ?hd (cs := #[.string a0_0, .string a0_1, .int .i64 a0_2]) (t := 32) ?hr ?_; (case hd => rfl); (case hg => rfl); (case hr => first | (go_simp; done) | (go_simp; rfl)); intro gb111 hg w16 hbox hb; have n0_ := Aside0.mk (below_step z45_ hb); have n1_ := Aside0.mk (hbox); have n2_ := Aside0.mk ((by rw [hg]; exact (below_size z45_) : w.heap.size ≤ gb111)); have n3_ := Aside0.mk ((by rw [hg]; exact (below_size z45_) : w.heap.size ≤ gb111)); clear HB; have HB := n0_; have BK111 := n1_; have GW111 := n2_; have GE111 := n3_; clear n0_ n1_ n2_ n3_; clear hb hbox hg) | ((with_reducible refine gate_dst (N := 3) rfl ?_); refine box_event ?hg (N := 3) ?hd (cs := #[.string a1_0, .string a1_1, .int .i64 a1_2]) (t := 32) ?hr ?_; (case hd => rfl); (case hg => rfl); (case hr => first | (go_simp; done) | (go_simp; rfl)); intro gb112 hg w17 hbox hb; have n0_ := Aside0.mk (blk_below (g := gb111) (o := .cells #[.string a0_0, .string a0_1, .int .i64 a0_2] 32 (0, 0)) z48_ hb); have n1_ := Aside0.mk (below_step z31_ hb); have n2_ := Aside0.mk (hbox); have n3_ := Aside0.mk ((by rw [hg]; exact (below_size z31_) : w.heap.size ≤ gb112)); have n4_ := Aside0.mk ((by rw [hg]; exact (below_size z31_) : w.heap.size ≤ gb112)); have n5_ := Aside0.mk ((by rw [hg]; exact Nat.ne_of_lt (blk_lt (g := gb111) (o := .cells #[.string a0_0, .string a0_1, .int .i64 a0_2] 32 (0, 0)) z48_) : gb111 ≠ gb112)); have n6_ := Aside0.mk ((by rw [hg]; exact Nat.ne_of_gt (blk_lt (g := gb111) (o := .cells #[.string a0_0, .string a0_1, .int .i64 a0_2] 32 (0, 0)) z48_) : gb112 ≠ gb111)); clear BK111; clear HB; have BK111 := n0_; have HB := n1_; have BK112 := n2_; have GW112 := n3_; have GE112 := n4_; have NB111_112 := n5_; have NB112_111 := n6_; clear n0_ n1_ n2_ n3_ n4_ n5_ n6_; clear hb hbox hg; have hnb18 := NB111_112.out; have hnc18 := NB112_111.out; have hcz19_0 : w17.cell? ⟨gb111, 0, none⟩ = some (.string a0_0) := (blk_cell BK111.out 0).trans rfl; have hcz19_1 : w17.cell? ⟨gb111, 1, none⟩ = some (.string a0_1) := (blk_cell BK111.out 1).trans rfl; have hcz19_2 : w17.cell? ⟨gb111, 2, none⟩ = some (.int .i64 a0_2) := (blk_cell BK111.out 2).trans rfl; have hfz19_0 := blk_frozen BK111.out 0; have hfz19_1 := blk_frozen BK111.out 1; have hfz19_2 := blk_frozen BK111.out 2) | ((with_reducible refine gate_callee (f := 16) rfl ?_); refine goesL_ (some 6) rfl rfl Tryz.func16 (by kernel_rfl) rfl #[.agg #[.string a0_0, .string a0_1, .int .i64 a0_2]] rfl z44_ ?_; (with_reducible refine (pursuivantref08_Good.calls k a0_0 a0_1 a0_2 true _ ?gw27_ A3.out).mono ?_); (case gw27_ => exact z5_); rintro e w20 ⟨rfl, hb⟩; refine ⟨_, rfl, ?_⟩; have n0_ := Aside0.mk (blk_below (g := gb111) (o := .cells #[.string a0_0, .string a0_1, .int .i64 a0_2] 32 (0, 0)) z48_ hb); have n1_ := Aside0.mk (blk_below (g := gb112) (o := .cells #[.string a1_0, .string a1_1, .int .i64 a1_2] 32 (0, 0)) z49_ hb); have n2_ := Aside0.mk (below_step z22_ hb); clear BK111; clear BK112; clear HB; have BK111 := n0_; have BK112 := n1_; have HB := n2_; clear n0_ n1_ n2_; (try clear hb); (try clear hb2); (try clear hk); (try clear hi); have hcz21_0 : w20.cell? ⟨gb111, 0, none⟩ = some (.string a0_0) := (blk_cell BK111.out 0).trans rfl; have hcz21_1 : w20.cell? ⟨gb111, 1, none⟩ = some (.string a0_1) := (blk_cell BK111.out 1).trans rfl; have hcz21_2 : w20.cell? ⟨gb111, 2, none⟩ = some (.int .i64 a0_2) := (blk_cell BK111.out 2).trans rfl; have hfz21_0 := blk_frozen BK111.out 0; have hfz21_1 := blk_frozen BK111.out 1; have hfz21_2 := blk_frozen BK111.out 2) | (go_at_call 49; (fail_if_success (have z_ := U_13)); have U_13 := trivial; (with_reducible refine (pursuivantref08_Nobody.calls a0_0 a0_1 a0_2 false _ ?gw28_ A5.out).mono ?_); (case gw28_ => exact z5_); rintro e w22 ⟨rfl, hb⟩; have n0_ := Aside0.mk (blk_below (g := gb111) (o := .cells #[.string a0_0, .string a0_1, .int .i64 a0_2] 32 (0, 0)) z48_ hb); have n1_ := Aside0.mk (blk_below (g := gb112) (o := .cells #[.string a1_0, .string a1_1, .int .i64 a1_2] 32 (0, 0)) z49_ hb); have n2_ := Aside0.mk (below_step z22_ hb); clear BK111; clear BK112; clear HB; have BK111 := n0_; have BK112 := n1_; have HB := n2_; clear n0_ n1_ n2_; (try clear hb); (try clear hb2); (try clear hk); (try clear hi); have hcz23_0 : w22.cell? ⟨gb111, 0, none⟩ = some (.string a0_0) := (blk_cell BK111.out 0).trans rfl; have hcz23_1 : w22.cell? ⟨gb111, 1, none⟩ = some (.string a0_1) := (blk_cell BK111.out 1).trans rfl; have hcz23_2 : w22.cell? ⟨gb111, 2, none⟩ = some (.int .i64 a0_2) := (blk_cell BK111.out 2).trans rfl; have hfz23_0 := blk_frozen BK111.out 0; have hfz23_1 := blk_frozen BK111.out 1; have hfz23_2 := blk_frozen BK111.out 2; have hcz24_0 : w22.cell? ⟨gb112, 0, none⟩ = some (.string a1_0) := (blk_cell BK112.out 0).trans rfl; have hcz24_1 : w22.cell? ⟨gb112, 1, none⟩ = some (.string a1_1) := (blk_cell BK112.out 1).trans rfl; have hcz24_2 : w22.cell? ⟨gb112, 2, none⟩ = some (.int .i64 a1_2) := (blk_cell BK112.out 2).trans rfl; have hfz24_0 := blk_frozen BK112.out 0; have hfz24_1 := blk_frozen BK112.out 1; have hfz24_2 := blk_frozen BK112.out 2))
     go_ret
     exact ⟨z46_, z22_⟩
    ·rw [if_neg c15] at H
     have c15b0 : (a0_1.toList == a1_1.toList) = false := beq_eq_false_iff_ne.mpr c15
     have c15b1 : (a0_1.toList != a1_1.toList) = true := bne_iff_ne.mpr c15
     obtain rfl := Option.some.inj H
     go_enter Tryz.func21, Tryz.ntmps21
     go_wp2_with (first | ((with_reducible refine gate_dst (N := 2) rfl ?_); refine box_event ?hg (N := 2) ?hd (cs := #[.string a0_0, .string a0_1, .int .i64 a0_2]) (t := 32) ?hr ?_; (case hd => rfl); (case hg => rfl); (case hr => first | (go_simp; done) | (go_simp; rfl)); intro gb111 hg w25 hbox hb; have n0_ := Aside0.mk (below_step z45_ hb); have n1_ := Aside0.mk (hbox); have n2_ := Aside0.mk ((by rw [hg]; exact (below_size z45_) : w.heap.size ≤ gb111)); have n3_ := Aside0.mk ((by rw [hg]; exact (below_size z45_) : w.heap.size ≤ gb111)); clear HB; have HB := n0_; have BK111 := n1_; have GW111 := n2_; have GE111 := n3_; clear n0_ n1_ n2_ n3_; clear hb hbox hg) | ((with_reducible refine gate_dst (N := 3) rfl ?_); refine box_event ?hg (N := 3) ?hd (cs := #[.string a1_0, .string a1_1, .int .i64 a1_2]) (t := 32) ?hr ?_; (case hd => rfl); (case hg => rfl); (case hr => first | (go_simp; done) | (go_simp; rfl)); intro gb112 hg w26 hbox hb; have n0_ := Aside0.mk (blk_below (g := gb111) (o := .cells #[.string a0_0, .string a0_1, .int .i64 a0_2] 32 (0, 0)) z48_ hb); have n1_ := Aside0.mk (below_step z31_ hb); have n2_ := Aside0.mk (hbox); have n3_ := Aside0.mk ((by rw [hg]; exact (below_size z31_) : w.heap.size ≤ gb112)); have n4_ := Aside0.mk ((by rw [hg]; exact (below_size z31_) : w.heap.size ≤ gb112)); have n5_ := Aside0.mk ((by rw [hg]; exact Nat.ne_of_lt (blk_lt (g := gb111) (o := .cells #[.string a0_0, .string a0_1, .int .i64 a0_2] 32 (0, 0)) z48_) : gb111 ≠ gb112)); have n6_ := Aside0.mk ((by rw [hg]; exact Nat.ne_of_gt (blk_lt (g := gb111) (o := .cells #[.string a0_0, .string a0_1, .int .i64 a0_2] 32 (0, 0)) z48_) : gb112 ≠ gb111)); clear BK111; clear HB; have BK111 := n0_; have HB := n1_; have BK112 := n2_; have GW112 := n3_; have GE112 := n4_; have NB111_112 := n5_; have NB112_111 := n6_; clear n0_ n1_ n2_ n3_ n4_ n5_ n6_; clear hb hbox hg; have hnb27 := NB111_112.out; have hnc27 := NB112_111.out; have hcz28_0 : w26.cell? ⟨gb111, 0, none⟩ = some (.string a0_0) := (blk_cell BK111.out 0).trans rfl; have hcz28_1 : w26.cell? ⟨gb111, 1, none⟩ = some (.string a0_1) := (blk_cell BK111.out 1).trans rfl; have hcz28_2 : w26.cell? ⟨gb111, 2, none⟩ = some (.int .i64 a0_2) := (blk_cell BK111.out 2).trans rfl; have hfz28_0 := blk_frozen BK111.out 0; have hfz28_1 := blk_frozen BK111.out 1; have hfz28_2 := blk_frozen BK111.out 2) | ((with_reducible refine gate_callee (f := 16) rfl ?_); refine goesL_ (some 6) rfl rfl Tryz.func16 (by kernel_rfl) rfl #[.agg #[.string a0_0, .string a0_1, .int .i64 a0_2]] rfl z44_ ?_; (with_reducible refine (pursuivantref08_Good.calls k a0_0 a0_1 a0_2 true _ ?gw29_ A3.out).mono ?_); (case gw29_ => exact z5_); rintro e w29 ⟨rfl, hb⟩; refine ⟨_, rfl, ?_⟩; have n0_ := Aside0.mk (blk_below (g := gb111) (o := .cells #[.string a0_0, .string a0_1, .int .i64 a0_2] 32 (0, 0)) z48_ hb); have n1_ := Aside0.mk (blk_below (g := gb112) (o := .cells #[.string a1_0, .string a1_1, .int .i64 a1_2] 32 (0, 0)) z49_ hb); have n2_ := Aside0.mk (below_step z22_ hb); clear BK111; clear BK112; clear HB; have BK111 := n0_; have BK112 := n1_; have HB := n2_; clear n0_ n1_ n2_; (try clear hb); (try clear hb2); (try clear hk); (try clear hi); have hcz30_0 : w29.cell? ⟨gb111, 0, none⟩ = some (.string a0_0) := (blk_cell BK111.out 0).trans rfl; have hcz30_1 : w29.cell? ⟨gb111, 1, none⟩ = some (.string a0_1) := (blk_cell BK111.out 1).trans rfl; have hcz30_2 : w29.cell? ⟨gb111, 2, none⟩ = some (.int .i64 a0_2) := (blk_cell BK111.out 2).trans rfl; have hfz30_0 := blk_frozen BK111.out 0; have hfz30_1 := blk_frozen BK111.out 1; have hfz30_2 := blk_frozen BK111.out 2) | (go_at_call 49; (fail_if_success (have z_ := U_14)); have U_14 := trivial; (with_reducible refine (pursuivantref08_Nobody.calls a0_0 a0_1 a0_2 false _ ?gw30_ A5.out).mono ?_); (case gw30_ => exact z5_); rintro e w31 ⟨rfl, hb⟩; have n0_ := Aside0.mk (blk_below (g := gb111) (o := .cells #[.string a0_0, .string a0_1, .int .i64 a0_2] 32 (0, 0)) z48_ hb); have n1_ := Aside0.mk (blk_below (g := gb112) (o := .cells #[.string a1_0, .string a1_1, .int .i64 a1_2] 32 (0, 0)) z49_ hb); have n2_ := Aside0.mk (below_step z22_ hb); clear BK111; clear BK112; clear HB; have BK111 := n0_; have BK112 := n1_; have HB := n2_; clear n0_ n1_ n2_; (try clear hb); (try clear hb2); (try clear hk); (try clear hi); have hcz32_0 : w31.cell? ⟨gb111, 0, none⟩ = some (.string a0_0) := (blk_cell BK111.out 0).trans rfl; have hcz32_1 : w31.cell? ⟨gb111, 1, none⟩ = some (.string a0_1) := (blk_cell BK111.out 1).trans rfl; have hcz32_2 : w31.cell? ⟨gb111, 2, none⟩ = some (.int .i64 a0_2) := (blk_cell BK111.out 2).trans rfl; have hfz32_0 := blk_frozen BK111.out 0; have hfz32_1 := blk_frozen BK111.out 1; have hfz32_2 := blk_frozen BK111.out 2; have hcz33_0 : w31.cell? ⟨gb112, 0, none⟩ = some (.string a1_0) := (blk_cell BK112.out 0).trans rfl; have hcz33_1 : w31.cell? ⟨gb112, 1, none⟩ = some (.string a1_1) := (blk_cell BK112.out 1).trans rfl; have hcz33_2 : w31.cell? ⟨gb112, 2, none⟩ = some (.int .i64 a1_2) := (blk_cell BK112.out 2).trans rfl; have hfz33_0 := blk_frozen BK112.out 0; have hfz33_1 := blk_frozen BK112.out 1; have hfz33_2 := blk_frozen BK112.out 2))
     go_ret
     exact ⟨z46_, z22_⟩
   ·rw [if_neg c14] at H
    have c14b0 : (a0_0.toList == a1_0.toList) = false := beq_eq_false_iff_ne.mpr c14
    have c14b1 : (a0_0.toList != a1_0.toList) = true := bne_iff_ne.mpr c14
    obtain rfl := Option.some.inj H
    go_enter Tryz.func21, Tryz.ntmps21
    go_wp2_with (first | ((with_reducible refine gate_dst (N := 2) rfl ?_); refine box_event ?hg (N := 2) ?hd (cs := #[.string a0_0, .string a0_1, .int .i64 a0_2]) (t := 32) ?hr ?_; (case hd => rfl); (case hg => rfl); (case hr => first | (go_simp; done) | (go_simp; rfl)); intro gb111 hg w34 hbox hb; have n0_ := Aside0.mk (below_step z45_ hb); have n1_ := Aside0.mk (hbox); have n2_ := Aside0.mk ((by rw [hg]; exact (below_size z45_) : w.heap.size ≤ gb111)); have n3_ := Aside0.mk ((by rw [hg]; exact (below_size z45_) : w.heap.size ≤ gb111)); clear HB; have HB := n0_; have BK111 := n1_; have GW111 := n2_; have GE111 := n3_; clear n0_ n1_ n2_ n3_; clear hb hbox hg) | ((with_reducible refine gate_dst (N := 3) rfl ?_); refine box_event ?hg (N := 3) ?hd (cs := #[.string a1_0, .string a1_1, .int .i64 a1_2]) (t := 32) ?hr ?_; (case hd => rfl); (case hg => rfl); (case hr => first | (go_simp; done) | (go_simp; rfl)); intro gb112 hg w35 hbox hb; have n0_ := Aside0.mk (blk_below (g := gb111) (o := .cells #[.string a0_0, .string a0_1, .int .i64 a0_2] 32 (0, 0)) z48_ hb); have n1_ := Aside0.mk (below_step z31_ hb); have n2_ := Aside0.mk (hbox); have n3_ := Aside0.mk ((by rw [hg]; exact (below_size z31_) : w.heap.size ≤ gb112)); have n4_ := Aside0.mk ((by rw [hg]; exact (below_size z31_) : w.heap.size ≤ gb112)); have n5_ := Aside0.mk ((by rw [hg]; exact Nat.ne_of_lt (blk_lt (g := gb111) (o := .cells #[.string a0_0, .string a0_1, .int .i64 a0_2] 32 (0, 0)) z48_) : gb111 ≠ gb112)); have n6_ := Aside0.mk ((by rw [hg]; exact Nat.ne_of_gt (blk_lt (g := gb111) (o := .cells #[.string a0_0, .string a0_1, .int .i64 a0_2] 32 (0, 0)) z48_) : gb112 ≠ gb111)); clear BK111; clear HB; have BK111 := n0_; have HB := n1_; have BK112 := n2_; have GW112 := n3_; have GE112 := n4_; have NB111_112 := n5_; have NB112_111 := n6_; clear n0_ n1_ n2_ n3_ n4_ n5_ n6_; clear hb hbox hg; have hnb36 := NB111_112.out; have hnc36 := NB112_111.out; have hcz37_0 : w35.cell? ⟨gb111, 0, none⟩ = some (.string a0_0) := (blk_cell BK111.out 0).trans rfl; have hcz37_1 : w35.cell? ⟨gb111, 1, none⟩ = some (.string a0_1) := (blk_cell BK111.out 1).trans rfl; have hcz37_2 : w35.cell? ⟨gb111, 2, none⟩ = some (.int .i64 a0_2) := (blk_cell BK111.out 2).trans rfl; have hfz37_0 := blk_frozen BK111.out 0; have hfz37_1 := blk_frozen BK111.out 1; have hfz37_2 := blk_frozen BK111.out 2) | ((with_reducible refine gate_callee (f := 16) rfl ?_); refine goesL_ (some 6) rfl rfl Tryz.func16 (by kernel_rfl) rfl #[.agg #[.string a0_0, .string a0_1, .int .i64 a0_2]] rfl z44_ ?_; (with_reducible refine (pursuivantref08_Good.calls k a0_0 a0_1 a0_2 true _ ?gw31_ A3.out).mono ?_); (case gw31_ => exact z5_); rintro e w38 ⟨rfl, hb⟩; refine ⟨_, rfl, ?_⟩; have n0_ := Aside0.mk (blk_below (g := gb111) (o := .cells #[.string a0_0, .string a0_1, .int .i64 a0_2] 32 (0, 0)) z48_ hb); have n1_ := Aside0.mk (blk_below (g := gb112) (o := .cells #[.string a1_0, .string a1_1, .int .i64 a1_2] 32 (0, 0)) z49_ hb); have n2_ := Aside0.mk (below_step z22_ hb); clear BK111; clear BK112; clear HB; have BK111 := n0_; have BK112 := n1_; have HB := n2_; clear n0_ n1_ n2_; (try clear hb); (try clear hb2); (try clear hk); (try clear hi); have hcz39_0 : w38.cell? ⟨gb111, 0, none⟩ = some (.string a0_0) := (blk_cell BK111.out 0).trans rfl; have hcz39_1 : w38.cell? ⟨gb111, 1, none⟩ = some (.string a0_1) := (blk_cell BK111.out 1).trans rfl; have hcz39_2 : w38.cell? ⟨gb111, 2, none⟩ = some (.int .i64 a0_2) := (blk_cell BK111.out 2).trans rfl; have hfz39_0 := blk_frozen BK111.out 0; have hfz39_1 := blk_frozen BK111.out 1; have hfz39_2 := blk_frozen BK111.out 2) | (go_at_call 49; (fail_if_success (have z_ := U_15)); have U_15 := trivial; (with_reducible refine (pursuivantref08_Nobody.calls a0_0 a0_1 a0_2 false _ ?gw32_ A5.out).mono ?_); (case gw32_ => exact z5_); rintro e w40 ⟨rfl, hb⟩; have n0_ := Aside0.mk (blk_below (g := gb111) (o := .cells #[.string a0_0, .string a0_1, .int .i64 a0_2] 32 (0, 0)) z48_ hb); have n1_ := Aside0.mk (blk_below (g := gb112) (o := .cells #[.string a1_0, .string a1_1, .int .i64 a1_2] 32 (0, 0)) z49_ hb); have n2_ := Aside0.mk (below_step z22_ hb); clear BK111; clear BK112; clear HB; have BK111 := n0_; have BK112 := n1_; have HB := n2_; clear n0_ n1_ n2_; (try clear hb); (try clear hb2); (try clear hk); (try clear hi); have hcz41_0 : w40.cell? ⟨gb111, 0, none⟩ = some (.string a0_0) := (blk_cell BK111.out 0).trans rfl; have hcz41_1 : w40.cell? ⟨gb111, 1, none⟩ = some (.string a0_1) := (blk_cell BK111.out 1).trans rfl; have hcz41_2 : w40.cell? ⟨gb111, 2, none⟩ = some (.int .i64 a0_2) := (blk_cell BK111.out 2).trans rfl; have hfz41_0 := blk_frozen BK111.out 0; have hfz41_1 := blk_frozen BK111.out 1; have hfz41_2 := blk_frozen BK111.out 2; have hcz42_0 : w40.cell? ⟨gb112, 0, none⟩ = some (.string a1_0) := (blk_cell BK112.out 0).trans rfl; have hcz42_1 : w40.cell? ⟨gb112, 1, none⟩ = some (.string a1_1) := (blk_cell BK112.out 1).trans rfl; have hcz42_2 : w40.cell? ⟨gb112, 2, none⟩ = some (.int .i64 a1_2) := (blk_cell BK112.out 2).trans rfl; have hfz42_0 := blk_frozen BK112.out 0; have hfz42_1 := blk_frozen BK112.out 1; have hfz42_2 := blk_frozen BK112.out 2))
    go_ret
    exact ⟨z46_, z22_⟩
 ·replace c4 := Bool.eq_false_iff.mpr c4
  subst c4
  have H1 : (some false) = some r := by rw [if_neg (show ¬ (false = true) by decide)] at H; exact H
  clear H
  have H := H1
  clear H1
  obtain rfl := Option.some.inj H
  go_enter Tryz.func21, Tryz.ntmps21
  go_wp2_with (first | ((with_reducible refine gate_dst (N := 2) rfl ?_); refine box_event ?hg (N := 2) ?hd (cs := #[.string a0_0, .string a0_1, .int .i64 a0_2]) (t := 32) ?hr ?_; (case hd => rfl); (case hg => rfl); (case hr => first | (go_simp; done) | (go_simp; rfl)); intro gb111 hg w43 hbox hb; have n0_ := Aside0.mk (below_step z45_ hb); have n1_ := Aside0.mk (hbox); have n2_ := Aside0.mk ((by rw [hg]; exact (below_size z45_) : w.heap.size ≤ gb111)); have n3_ := Aside0.mk ((by rw [hg]; exact (below_size z45_) : w.heap.size ≤ gb111)); clear HB; have HB := n0_; have BK111 := n1_; have GW111 := n2_; have GE111 := n3_; clear n0_ n1_ n2_ n3_; clear hb hbox hg) | ((with_reducible refine gate_dst (N := 3) rfl ?_); refine box_event ?hg (N := 3) ?hd (cs := #[.string a1_0, .string a1_1, .int .i64 a1_2]) (t := 32) ?hr ?_; (case hd => rfl); (case hg => rfl); (case hr => first | (go_simp; done) | (go_simp; rfl)); intro gb112 hg w44 hbox hb; have n0_ := Aside0.mk (blk_below (g := gb111) (o := .cells #[.string a0_0, .string a0_1, .int .i64 a0_2] 32 (0, 0)) z48_ hb); have n1_ := Aside0.mk (below_step z31_ hb); have n2_ := Aside0.mk (hbox); have n3_ := Aside0.mk ((by rw [hg]; exact (below_size z31_) : w.heap.size ≤ gb112)); have n4_ := Aside0.mk ((by rw [hg]; exact (below_size z31_) : w.heap.size ≤ gb112)); have n5_ := Aside0.mk ((by rw [hg]; exact Nat.ne_of_lt (blk_lt (g := gb111) (o := .cells #[.string a0_0, .string a0_1, .int .i64 a0_2] 32 (0, 0)) z48_) : gb111 ≠ gb112)); have n6_ := Aside0.mk ((by rw [hg]; exact Nat.ne_of_gt (blk_lt (g := gb111) (o := .cells #[.string a0_0, .string a0_1, .int .i64 a0_2] 32 (0, 0)) z48_) : gb112 ≠ gb111)); clear BK111; clear HB; have BK111 := n0_; have HB := n1_; have BK112 := n2_; have GW112 := n3_; have GE112 := n4_; have NB111_112 := n5_; have NB112_111 := n6_; clear n0_ n1_ n2_ n3_ n4_ n5_ n6_; clear hb hbox hg; have hnb45 := NB111_112.out; have hnc45 := NB112_111.out; have hcz46_0 : w44.cell? ⟨gb111, 0, none⟩ = some (.string a0_0) := (blk_cell BK111.out 0).trans rfl; have hcz46_1 : w44.cell? ⟨gb111, 1, none⟩ = some (.string a0_1) := (blk_cell BK111.out 1).trans rfl; have hcz46_2 : w44.cell? ⟨gb111, 2, none⟩ = some (.int .i64 a0_2) := (blk_cell BK111.out 2).trans rfl; have hfz46_0 := blk_frozen BK111.out 0; have hfz46_1 := blk_frozen BK111.out 1; have hfz46_2 := blk_frozen BK111.out 2) | ((with_reducible refine gate_callee (f := 16) rfl ?_); refine goesL_ (some 6) rfl rfl Tryz.func16 (by kernel_rfl) rfl #[.agg #[.string a0_0, .string a0_1, .int .i64 a0_2]] rfl z44_ ?_; (with_reducible refine (pursuivantref08_Good.calls k a0_0 a0_1 a0_2 false _ ?gw33_ A3.out).mono ?_); (case gw33_ => exact z5_); rintro e w47 ⟨rfl, hb⟩; refine ⟨_, rfl, ?_⟩; have n0_ := Aside0.mk (blk_below (g := gb111) (o := .cells #[.string a0_0, .string a0_1, .int .i64 a0_2] 32 (0, 0)) z48_ hb); have n1_ := Aside0.mk (blk_below (g := gb112) (o := .cells #[.string a1_0, .string a1_1, .int .i64 a1_2] 32 (0, 0)) z49_ hb); have n2_ := Aside0.mk (below_step z22_ hb); clear BK111; clear BK112; clear HB; have BK111 := n0_; have BK112 := n1_; have HB := n2_; clear n0_ n1_ n2_; (try clear hb); (try clear hb2); (try clear hk); (try clear hi)))
  go_ret
  exact ⟨z46_, z22_⟩

def url_clean.l0 : Nat → ByteArray → ByteArray → Int → Int → Option (Bool)
 | 0, _, _, _, _ => none
 | k + 1, x0, x1, x7, x8 => if x8 < x7 then (if 0 ≤ x8 then (if x8 < (x0.size : Int) then (if (bt x0 x8) < 33 then (some false) else (if (bt x0 x8) > 126 then (some false) else ((strings_IndexByte.f x1 (bt x0 x8)).bind fun t115 => (if t115 ≥ 0 then (some false) else (url_clean.l0 k x0 x1 x7 (wrap64 (x8 + 1))))))) else (none)) else (none)) else (some true)
def url_clean.f (k : Nat) (a0 a1 : ByteArray) : Option (Bool) := url_clean.l0 k a0 a1 (a0.size : Int) 0
set_option maxHeartbeats 8000000 in
set_option maxRecDepth 100000 in
theorem url_clean.calls (k : Nat) (a0 a1 : ByteArray) (r : Bool) (w : World) (hG_ : GW w) (h : url_clean.f k a0 a1 = some r) :
  Calls Tryz.prog 129 #[.string a0, .string a1] w fun e w' => e = .returned (.bool r) ∧ Drawn0 w w' := by
 have H : (url_clean.l0 k a0 a1 (a0.size : Int) 0) = some r := h
 clear h
 have H' := Aside0.mk H
 clear H
 go_enter Tryz.func129, Tryz.ntmps129
 go_wp2
 go_loopg [8] k (fun kq v8 w' => ∃ (x8_1 : Int), v8 = .int .i64 x8_1 ∧ Aside0 (url_clean.l0 kq a0 a1 (a0.size : Int) x8_1 = some r) ∧ Aside0 (kq ≤ k) ∧ Drawn0 w w')
 case atStart => exact ⟨(0), z64_, H', ⟨Nat.le_refl _⟩, z65_⟩
 case round =>
  clear H'
  obtain ⟨x8_1, rfl, HA, HK1, ⟨m1, rfl⟩⟩ := hrel
  cases gk with
  | zero => exact absurd HA.out (by simp [url_clean.l0])
  | succ k1 =>
   have H := HA.out
   clear HA
   simp only [url_clean.l0] at H
   by_cases c3 : x8_1 < (a0.size : Int)
   ·rw [if_pos c3] at H
    have c3b0 : decide (x8_1 < (a0.size : Int)) = true := decide_eq_true c3; clear c3
    by_cases c4 : 0 ≤ x8_1
    ·rw [if_pos c4] at H
     have c4b0 : decide (0 ≤ x8_1) = true := decide_eq_true c4; clear c4
     by_cases c5 : x8_1 < (a0.size : Int)
     ·rw [if_pos c5] at H
      have c5b0 : decide (x8_1 < (a0.size : Int)) = true := decide_eq_true c5; clear c5
      by_cases c7 : (bt a0 x8_1) < 33
      ·rw [if_pos c7] at H
       have c7b0 : decide ((bt a0 x8_1) < 33) = true := decide_eq_true c7; clear c7
       obtain rfl := Option.some.inj H
       have p6 : 0 ≤ (x8_1 : Int) := of_decide_eq_true z67_
       have q6 : x8_1 < (a0.size : Int) := of_decide_eq_true z67_
       have hx6 := bt_at a0 x8_1
       replace p6 := eq_true p6
       replace q6 := eq_true q6
       go_wp2
       go_ret
       exact ⟨z64_, z65_⟩
      ·rw [if_neg c7] at H
       have c7b0 : decide ((bt a0 x8_1) < 33) = false := decide_eq_false c7; clear c7
       by_cases c9 : (bt a0 x8_1) > 126
       ·rw [if_pos c9] at H
        have c9b0 : decide (126 < (bt a0 x8_1)) = true := decide_eq_true c9; clear c9
        obtain rfl := Option.some.inj H
        have p6 : 0 ≤ (x8_1 : Int) := of_decide_eq_true z67_
        have q6 : x8_1 < (a0.size : Int) := of_decide_eq_true z67_
        have hx6 := bt_at a0 x8_1
        replace p6 := eq_true p6
        replace q6 := eq_true q6
        have p8 : 0 ≤ (x8_1 : Int) := of_decide_eq_true z67_
        have q8 : x8_1 < (a0.size : Int) := of_decide_eq_true z67_
        have hx8 := bt_at a0 x8_1
        replace p8 := eq_true p8
        replace q8 := eq_true q8
        go_wp2
        go_ret
        exact ⟨z64_, z65_⟩
       ·rw [if_neg c9] at H
        have c9b0 : decide (126 < (bt a0 x8_1)) = false := decide_eq_false c9; clear c9
        replace H := Option.bind_eq_some_iff.mp H
        obtain ⟨t115, A110, H⟩ := H
        replace H : (if t115 ≥ 0 then (some false) else (url_clean.l0 k1 a0 a1 (a0.size : Int) (wrap64 (x8_1 + 1)))) = some r := H
        have A11 := Aside0.mk A110; clear A110
        by_cases c12 : t115 ≥ 0
        ·rw [if_pos c12] at H
         have c12b0 : decide (0 ≤ t115) = true := decide_eq_true c12; clear c12
         obtain rfl := Option.some.inj H
         have p6 : 0 ≤ (x8_1 : Int) := of_decide_eq_true z67_
         have q6 : x8_1 < (a0.size : Int) := of_decide_eq_true z67_
         have hx6 := bt_at a0 x8_1
         replace p6 := eq_true p6
         replace q6 := eq_true q6
         have p8 : 0 ≤ (x8_1 : Int) := of_decide_eq_true z67_
         have q8 : x8_1 < (a0.size : Int) := of_decide_eq_true z67_
         have hx8 := bt_at a0 x8_1
         replace p8 := eq_true p8
         replace q8 := eq_true q8
         have p10 : 0 ≤ (x8_1 : Int) := of_decide_eq_true z67_
         have q10 : x8_1 < (a0.size : Int) := of_decide_eq_true z67_
         have hx10 := bt_at a0 x8_1
         replace p10 := eq_true p10
         replace q10 := eq_true q10
         go_wp2_with (first | (go_at_call 88; (fail_if_success (have z_ := U_16)); have U_16 := trivial; (with_reducible refine (strings_IndexByte.calls a1 (bt a0 x8_1) t115 _ ?gw34_ A11.out).mono ?_); (case gw34_ => exact z16_); rintro e w' ⟨rfl, ⟨nd, rfl⟩⟩))
         go_ret
         exact ⟨z64_, z65_⟩
        ·rw [if_neg c12] at H
         have c12b0 : decide (0 ≤ t115) = false := decide_eq_false c12; clear c12
         have H' := Aside0.mk H
         clear H
         have p6 : 0 ≤ (x8_1 : Int) := of_decide_eq_true z67_
         have q6 : x8_1 < (a0.size : Int) := of_decide_eq_true z67_
         have hx6 := bt_at a0 x8_1
         replace p6 := eq_true p6
         replace q6 := eq_true q6
         have p8 : 0 ≤ (x8_1 : Int) := of_decide_eq_true z67_
         have q8 : x8_1 < (a0.size : Int) := of_decide_eq_true z67_
         have hx8 := bt_at a0 x8_1
         replace p8 := eq_true p8
         replace q8 := eq_true q8
         have p10 : 0 ≤ (x8_1 : Int) := of_decide_eq_true z67_
         have q10 : x8_1 < (a0.size : Int) := of_decide_eq_true z67_
         have hx10 := bt_at a0 x8_1
         replace p10 := eq_true p10
         replace q10 := eq_true q10
         go_wp2_with (first | (go_at_call 88; (fail_if_success (have z_ := U_17)); have U_17 := trivial; (with_reducible refine (strings_IndexByte.calls a1 (bt a0 x8_1) t115 _ ?gw35_ A11.out).mono ?_); (case gw35_ => exact z16_); rintro e w' ⟨rfl, ⟨nd, rfl⟩⟩))
         go_roundg k1
         case measure => have := HK1.out; omega
         case rel => exact ⟨(wrap64 (x8_1 + 1)), z64_, H', ⟨z70_⟩, z65_⟩
     ·rw [if_neg c5] at H
      exact absurd H (by simp)
    ·rw [if_neg c4] at H
     exact absurd H (by simp)
   ·rw [if_neg c3] at H
    have c3b0 : decide (x8_1 < (a0.size : Int)) = false := decide_eq_false c3; clear c3
    obtain rfl := Option.some.inj H
    go_wp2
    go_ret
    exact ⟨z64_, z65_⟩

mutual
def url_text.j0 : Nat → ByteArray → ByteArray → ByteArray → ByteArray → Int → ByteArray → Bool → ByteArray → Bool → ByteArray → Option (ByteArray)
 | 0, _, _, _, _, _, _, _, _, _, _ => none
 | k + 1, x3, x117000, x117001, x117002, x117003, x117004, x117005, x117006, x117007, x117008 => if x3.size + x117002.size ≤ 9223372036854775807 then (if x117003 = 0 then (url_text.j1 k (x3 ++ x117002) x117000 x117001 x117002 x117003 x117004 x117005 x117006 x117007 x117008) else ((strconv_Itoa.f x117003).bind fun t117 => (if 1 + t117.size ≤ 9223372036854775807 then (if (x3 ++ x117002).size + ((⟨#[58]⟩ : ByteArray) ++ t117).size ≤ 9223372036854775807 then (url_text.j1 k ((x3 ++ x117002) ++ ((⟨#[58]⟩ : ByteArray) ++ t117)) x117000 x117001 x117002 x117003 x117004 x117005 x117006 x117007 x117008) else (none)) else (none)))) else (none)
def url_text.j1 : Nat → ByteArray → ByteArray → ByteArray → ByteArray → Int → ByteArray → Bool → ByteArray → Bool → ByteArray → Option (ByteArray)
 | 0, _, _, _, _, _, _, _, _, _, _ => none
 | k + 1, x3, x117000, x117001, x117002, x117003, x117004, x117005, x117006, x117007, x117008 => if x3.size + x117004.size ≤ 9223372036854775807 then (if x117005 = true then (if 1 + x117006.size ≤ 9223372036854775807 then (if (x3 ++ x117004).size + ((⟨#[63]⟩ : ByteArray) ++ x117006).size ≤ 9223372036854775807 then (if x117007 = true then (if 1 + x117008.size ≤ 9223372036854775807 then (if ((x3 ++ x117004) ++ ((⟨#[63]⟩ : ByteArray) ++ x117006)).size + ((⟨#[35]⟩ : ByteArray) ++ x117008).size ≤ 9223372036854775807 then (some (((x3 ++ x117004) ++ ((⟨#[63]⟩ : ByteArray) ++ x117006)) ++ ((⟨#[35]⟩ : ByteArray) ++ x117008))) else (none)) else (none)) else (some ((x3 ++ x117004) ++ ((⟨#[63]⟩ : ByteArray) ++ x117006)))) else (none)) else (none)) else (if x117007 = true then (if 1 + x117008.size ≤ 9223372036854775807 then (if (x3 ++ x117004).size + ((⟨#[35]⟩ : ByteArray) ++ x117008).size ≤ 9223372036854775807 then (some ((x3 ++ x117004) ++ ((⟨#[35]⟩ : ByteArray) ++ x117008))) else (none)) else (none)) else (some (x3 ++ x117004)))) else (none)
end
def url_text.f (k : Nat) (a0_0 a0_1 a0_2 : ByteArray) (a0_3 : Int) (a0_4 : ByteArray) (a0_5 : Bool) (a0_6 : ByteArray) (a0_7 : Bool) (a0_8 : ByteArray) : Option (ByteArray) := if a0_0.size + 3 ≤ 9223372036854775807 then (if a0_1.toList = ([] : List UInt8) then (url_text.j0 k (a0_0 ++ (⟨#[58, 47, 47]⟩ : ByteArray)) a0_0 a0_1 a0_2 a0_3 a0_4 a0_5 a0_6 a0_7 a0_8) else (if a0_1.size + 1 ≤ 9223372036854775807 then (if (a0_0 ++ (⟨#[58, 47, 47]⟩ : ByteArray)).size + (a0_1 ++ (⟨#[64]⟩ : ByteArray)).size ≤ 9223372036854775807 then (url_text.j0 k ((a0_0 ++ (⟨#[58, 47, 47]⟩ : ByteArray)) ++ (a0_1 ++ (⟨#[64]⟩ : ByteArray))) a0_0 a0_1 a0_2 a0_3 a0_4 a0_5 a0_6 a0_7 a0_8) else (none)) else (none))) else (none)
set_option maxHeartbeats 8000000 in
set_option maxRecDepth 100000 in
theorem url_text.calls (k : Nat) (a0_0 a0_1 a0_2 : ByteArray) (a0_3 : Int) (a0_4 : ByteArray) (a0_5 : Bool) (a0_6 : ByteArray) (a0_7 : Bool) (a0_8 r : ByteArray) (w : World) (hG_ : GW w) (h : url_text.f k a0_0 a0_1 a0_2 a0_3 a0_4 a0_5 a0_6 a0_7 a0_8 = some r) :
  Calls Tryz.prog 130 #[.agg #[.string a0_0, .string a0_1, .string a0_2, .int .i64 a0_3, .string a0_4, .bool a0_5, .string a0_6, .bool a0_7, .string a0_8]] w fun e w' => e = .returned (.string r) ∧ Below w.heap.size w w' := by
 have hu30 := Tryz.underlying30
 have HB := Aside0.mk (Below.refl w.heap.size w)
 have H : (if a0_0.size + 3 ≤ 9223372036854775807 then (if a0_1.toList = ([] : List UInt8) then (url_text.j0 k (a0_0 ++ (⟨#[58, 47, 47]⟩ : ByteArray)) a0_0 a0_1 a0_2 a0_3 a0_4 a0_5 a0_6 a0_7 a0_8) else (if a0_1.size + 1 ≤ 9223372036854775807 then (if (a0_0 ++ (⟨#[58, 47, 47]⟩ : ByteArray)).size + (a0_1 ++ (⟨#[64]⟩ : ByteArray)).size ≤ 9223372036854775807 then (url_text.j0 k ((a0_0 ++ (⟨#[58, 47, 47]⟩ : ByteArray)) ++ (a0_1 ++ (⟨#[64]⟩ : ByteArray))) a0_0 a0_1 a0_2 a0_3 a0_4 a0_5 a0_6 a0_7 a0_8) else (none)) else (none))) else (none)) = some r := h
 clear h
 by_cases c2 : a0_0.size + 3 ≤ 9223372036854775807
 ·rw [if_pos c2] at H
  have c2b0 := eq_true c2; have c2b1 : decide (a0_0.size + 3 ≤ 9223372036854775807) = true := decide_eq_true c2
  try have c2b2 : (9223372036854775807 < a0_0.size + 3) = False := eq_false (Nat.not_lt.2 c2)
  have HC3 := Aside0.mk H; clear H
  go_enter Tryz.func130, Tryz.ntmps130
  go_upto_if 9 with (first | ((with_reducible refine gate_dst (N := 1) rfl ?_); refine box_event ?hg (N := 1) ?hd (cs := #[.string a0_0, .string a0_1, .string a0_2, .int .i64 a0_3, .string a0_4, .bool a0_5, .string a0_6, .bool a0_7, .string a0_8]) (t := 30) ?hr ?_; (case hd => rfl); (case hg => rfl); (case hr => first | (go_simp; done) | (go_simp; rfl)); intro gb116 hg w4 hbox hb; have n0_ := Aside0.mk (below_step z45_ hb); have n1_ := Aside0.mk (hbox); have n2_ := Aside0.mk ((by rw [hg]; exact (below_size z45_) : w.heap.size ≤ gb116)); have n3_ := Aside0.mk ((by rw [hg]; exact (below_size z45_) : w.heap.size ≤ gb116)); clear HB; have HB := n0_; have BK116 := n1_; have GW116 := n2_; have GE116 := n3_; clear n0_ n1_ n2_ n3_; clear hb hbox hg; have hcz5_0 : w4.cell? ⟨gb116, 0, none⟩ = some (.string a0_0) := (blk_cell BK116.out 0).trans rfl; have hcz5_1 : w4.cell? ⟨gb116, 1, none⟩ = some (.string a0_1) := (blk_cell BK116.out 1).trans rfl; have hcz5_2 : w4.cell? ⟨gb116, 2, none⟩ = some (.string a0_2) := (blk_cell BK116.out 2).trans rfl; have hcz5_3 : w4.cell? ⟨gb116, 3, none⟩ = some (.int .i64 a0_3) := (blk_cell BK116.out 3).trans rfl; have hcz5_4 : w4.cell? ⟨gb116, 4, none⟩ = some (.string a0_4) := (blk_cell BK116.out 4).trans rfl; have hcz5_5 : w4.cell? ⟨gb116, 5, none⟩ = some (.bool a0_5) := (blk_cell BK116.out 5).trans rfl; have hcz5_6 : w4.cell? ⟨gb116, 6, none⟩ = some (.string a0_6) := (blk_cell BK116.out 6).trans rfl; have hcz5_7 : w4.cell? ⟨gb116, 7, none⟩ = some (.bool a0_7) := (blk_cell BK116.out 7).trans rfl; have hcz5_8 : w4.cell? ⟨gb116, 8, none⟩ = some (.string a0_8) := (blk_cell BK116.out 8).trans rfl; have hfz5_0 := blk_frozen BK116.out 0; have hfz5_1 := blk_frozen BK116.out 1; have hfz5_2 := blk_frozen BK116.out 2; have hfz5_3 := blk_frozen BK116.out 3; have hfz5_4 := blk_frozen BK116.out 4; have hfz5_5 := blk_frozen BK116.out 5; have hfz5_6 := blk_frozen BK116.out 6; have hfz5_7 := blk_frozen BK116.out 7; have hfz5_8 := blk_frozen BK116.out 8))
  (try simp only [Act.put, List.setIfInBounds_toArray, List.set_cons_zero, List.set_cons_succ])
  go_cut [3] (fun v3 wc => ∃ (kq : Nat) (x3_2 : ByteArray), v3 = .string x3_2 ∧ Aside0 (url_text.j0 kq x3_2 a0_0 a0_1 a0_2 a0_3 a0_4 a0_5 a0_6 a0_7 a0_8 = some r) ∧ Aside0 (kq ≤ k) ∧ Aside0 (wc.heap[gb116]? = some (.cells #[.string a0_0, .string a0_1, .string a0_2, .int .i64 a0_3, .string a0_4, .bool a0_5, .string a0_6, .bool a0_7, .string a0_8] 30 (0, 0))) ∧ Aside0 (Below w.heap.size w wc))
  case first =>
   have H := HC3.out
   clear HC3
   by_cases c6 : a0_1.toList = ([] : List UInt8)
   ·rw [if_pos c6] at H
    have c6b0 : (a0_1.toList == ([] : List UInt8)) = true := beq_iff_eq.mpr c6
    try have c6e0 : a0_1.toList.isEmpty = true := by rw [← nil_beq]; exact c6b0
    have c6b1 : (a0_1.toList != ([] : List UInt8)) = false := bne_eq_false_iff_eq.mpr c6
    clear c6
    (first | rw [c6b0] | (simp only [i64_w, i32_w]; rw [c6b0]) | rw [c6e0] | skip)
    have H' := Aside0.mk H
    clear H; go_wp2; go_meet
    case rel => exact ⟨_, (a0_0 ++ (⟨#[58, 47, 47]⟩ : ByteArray)), z64_, H', ⟨z69_⟩, ⟨z50_⟩, ⟨z32_⟩⟩
   ·rw [if_neg c6] at H
    have c6b0 : (a0_1.toList == ([] : List UInt8)) = false := beq_eq_false_iff_ne.mpr c6
    try have c6e0 : a0_1.toList.isEmpty = false := by rw [← nil_beq]; exact c6b0
    have c6b1 : (a0_1.toList != ([] : List UInt8)) = true := bne_iff_ne.mpr c6
    (first | rw [c6b0] | (simp only [i64_w, i32_w]; rw [c6b0]) | rw [c6e0] | skip)
    by_cases c7 : a0_1.size + 1 ≤ 9223372036854775807
    ·rw [if_pos c7] at H
     have c7b0 := eq_true c7; have c7b1 : decide (a0_1.size + 1 ≤ 9223372036854775807) = true := decide_eq_true c7
     try have c7b2 : (9223372036854775807 < a0_1.size + 1) = False := eq_false (Nat.not_lt.2 c7)
     try have c7c0 : (9223372036854775807 ≤ a0_1.size) = False := eq_false (by omega)
     try have c7c1 : (a0_1.size < 9223372036854775807) = True := eq_true (by omega)
     by_cases c8 : (a0_0 ++ (⟨#[58, 47, 47]⟩ : ByteArray)).size + (a0_1 ++ (⟨#[64]⟩ : ByteArray)).size ≤ 9223372036854775807
     ·rw [if_pos c8] at H
      have c8b0 := eq_true c8
      try have c8m : ((a0_0.size + 3) + (a0_1.size + 1) ≤ 9223372036854775807) = True := by first | exact c8b0 | (have h_ := c8; simp only [ByteArray.size_append, Int.natCast_add] at h_; exact eq_true h_)
      have c8b1 : decide ((a0_0 ++ (⟨#[58, 47, 47]⟩ : ByteArray)).size + (a0_1 ++ (⟨#[64]⟩ : ByteArray)).size ≤ 9223372036854775807) = true := decide_eq_true c8
      try have c8b1n : decide ((a0_0.size + 3) + (a0_1.size + 1) ≤ 9223372036854775807) = true := by first | exact c8b1 | (have h_ := c8b1; simp only [ByteArray.size_append, Int.natCast_add] at h_; exact h_)
      try have c8b2 : (9223372036854775807 < (a0_0 ++ (⟨#[58, 47, 47]⟩ : ByteArray)).size + (a0_1 ++ (⟨#[64]⟩ : ByteArray)).size) = False := eq_false (Nat.not_lt.2 c8)
      try have c8b2n : (9223372036854775807 < (a0_0.size + 3) + (a0_1.size + 1)) = False := by first | exact c8b2 | (have h_ := c8b2; simp only [ByteArray.size_append, Int.natCast_add] at h_; exact h_)
      have H' := Aside0.mk H
      clear H; obtain ⟨hcz9_0, hcz9_1, hcz9_2, hcz9_3, hcz9_4, hcz9_5, hcz9_6, hcz9_7, hcz9_8⟩ := blkc9_ BK116.out; obtain ⟨hfz9_0, hfz9_1, hfz9_2, hfz9_3, hfz9_4, hfz9_5, hfz9_6, hfz9_7, hfz9_8⟩ := blkf9_ BK116.out; go_wp2; go_meet
      case rel => exact ⟨_, ((a0_0 ++ (⟨#[58, 47, 47]⟩ : ByteArray)) ++ (a0_1 ++ (⟨#[64]⟩ : ByteArray))), z64_, H', ⟨z69_⟩, ⟨z50_⟩, ⟨z32_⟩⟩
     ·rw [if_neg c8] at H
      exact absurd H (by simp)
    ·rw [if_neg c7] at H
     exact absurd H (by simp)
  case rest =>
   clear HC3; (try clear c2); (try clear c2b0); (try clear c2b1); (try clear c2b2); (try clear hcz5_0 hcz5_1 hcz5_2 hcz5_3 hcz5_4 hcz5_5 hcz5_6 hcz5_7 hcz5_8); (try clear hfz5_0 hfz5_1 hfz5_2 hfz5_3 hfz5_4 hfz5_5 hfz5_6 hfz5_7 hfz5_8)
   obtain ⟨kq, x3_2, rfl, HA, HJ2, BK116, HB⟩ := hcut
   cases kq with
   | zero => exact absurd HA.out (by simp [url_text.j0])
   | succ kj2 =>
    have H := HA.out
    clear HA
    simp only [url_text.j0] at H
    by_cases c10 : x3_2.size + a0_2.size ≤ 9223372036854775807
    ·rw [if_pos c10] at H
     have c10b0 := eq_true c10; have c10b1 : decide (x3_2.size + a0_2.size ≤ 9223372036854775807) = true := decide_eq_true c10
     try have c10b2 : (9223372036854775807 < x3_2.size + a0_2.size) = False := eq_false (Nat.not_lt.2 c10)
     have HC11 := Aside0.mk H; clear H; obtain ⟨hcz12_0, hcz12_1, hcz12_2, hcz12_3, hcz12_4, hcz12_5, hcz12_6, hcz12_7, hcz12_8⟩ := blkc9_ BK116.out; obtain ⟨hfz12_0, hfz12_1, hfz12_2, hfz12_3, hfz12_4, hfz12_5, hfz12_6, hfz12_7, hfz12_8⟩ := blkf9_ BK116.out
     go_upto_if 21 with (fail)
     go_cut [3] (fun v3 wc => ∃ (kq : Nat) (x3_10 : ByteArray), v3 = .string x3_10 ∧ Aside0 (url_text.j1 kq x3_10 a0_0 a0_1 a0_2 a0_3 a0_4 a0_5 a0_6 a0_7 a0_8 = some r) ∧ Aside0 (kq ≤ kj2) ∧ Aside0 (wc.heap[gb116]? = some (.cells #[.string a0_0, .string a0_1, .string a0_2, .int .i64 a0_3, .string a0_4, .bool a0_5, .string a0_6, .bool a0_7, .string a0_8] 30 (0, 0))) ∧ Aside0 (Below w.heap.size w wc))
     case first =>
      have H := HC11.out
      clear HC11
      by_cases c13 : a0_3 = 0
      ·rw [if_pos c13] at H
       have c13b0 : (a0_3 == 0) = true := beq_iff_eq.mpr c13
       have c13b1 : (a0_3 != 0) = false := bne_eq_false_iff_eq.mpr c13
       clear c13
       (first | rw [c13b0] | (simp only [i64_w, i32_w]; rw [c13b0]) | skip)
       have H' := Aside0.mk H
       clear H; go_wp2; go_meet
       case rel => exact ⟨_, (x3_2 ++ a0_2), z64_, H', ⟨z66_⟩, ⟨z50_⟩, ⟨z32_⟩⟩
      ·rw [if_neg c13] at H
       have c13b0 : (a0_3 == 0) = false := beq_eq_false_iff_ne.mpr c13
       have c13b1 : (a0_3 != 0) = true := bne_iff_ne.mpr c13
       (first | rw [c13b0] | (simp only [i64_w, i32_w]; rw [c13b0]) | skip)
       replace H := Option.bind_eq_some_iff.mp H
       obtain ⟨t117, A140, H⟩ := H
       replace H : (if 1 + t117.size ≤ 9223372036854775807 then (if (x3_2 ++ a0_2).size + ((⟨#[58]⟩ : ByteArray) ++ t117).size ≤ 9223372036854775807 then (url_text.j1 kj2 ((x3_2 ++ a0_2) ++ ((⟨#[58]⟩ : ByteArray) ++ t117)) a0_0 a0_1 a0_2 a0_3 a0_4 a0_5 a0_6 a0_7 a0_8) else (none)) else (none)) = some r := H
       have A14 := Aside0.mk A140; clear A140
       by_cases c15 : 1 + t117.size ≤ 9223372036854775807
       ·rw [if_pos c15] at H
        have c15b0 := eq_true c15; have c15b1 : decide (1 + t117.size ≤ 9223372036854775807) = true := decide_eq_true c15
        try have c15b2 : (9223372036854775807 < 1 + t117.size) = False := eq_false (Nat.not_lt.2 c15)
        try have c15c0 : (9223372036854775807 ≤ t117.size) = False := eq_false (by omega)
        try have c15c1 : (t117.size < 9223372036854775807) = True := eq_true (by omega)
        by_cases c16 : (x3_2 ++ a0_2).size + ((⟨#[58]⟩ : ByteArray) ++ t117).size ≤ 9223372036854775807
        ·rw [if_pos c16] at H
         have c16b0 := eq_true c16
         try have c16m : ((x3_2.size + a0_2.size) + (1 + t117.size) ≤ 9223372036854775807) = True := by first | exact c16b0 | (have h_ := c16; simp only [ByteArray.size_append, Int.natCast_add] at h_; exact eq_true h_)
         have c16b1 : decide ((x3_2 ++ a0_2).size + ((⟨#[58]⟩ : ByteArray) ++ t117).size ≤ 9223372036854775807) = true := decide_eq_true c16
         try have c16b1n : decide ((x3_2.size + a0_2.size) + (1 + t117.size) ≤ 9223372036854775807) = true := by first | exact c16b1 | (have h_ := c16b1; simp only [ByteArray.size_append, Int.natCast_add] at h_; exact h_)
         try have c16b2 : (9223372036854775807 < (x3_2 ++ a0_2).size + ((⟨#[58]⟩ : ByteArray) ++ t117).size) = False := eq_false (Nat.not_lt.2 c16)
         try have c16b2n : (9223372036854775807 < (x3_2.size + a0_2.size) + (1 + t117.size)) = False := by first | exact c16b2 | (have h_ := c16b2; simp only [ByteArray.size_append, Int.natCast_add] at h_; exact h_)
         have H' := Aside0.mk H
         clear H; obtain ⟨hcz17_0, hcz17_1, hcz17_2, hcz17_3, hcz17_4, hcz17_5, hcz17_6, hcz17_7, hcz17_8⟩ := blkc9_ BK116.out; obtain ⟨hfz17_0, hfz17_1, hfz17_2, hfz17_3, hfz17_4, hfz17_5, hfz17_6, hfz17_7, hfz17_8⟩ := blkf9_ BK116.out
         go_wp2_with (first | ((with_reducible refine gate_callee (f := 61) rfl ?_); refine goesL_ (some 25) rfl rfl Tryz.func61 (by kernel_rfl) rfl #[.int .i64 a0_3] rfl z44_ ?_; (with_reducible refine (strconv_Itoa.calls a0_3 t117 _ ?gw36_ A14.out).mono ?_); (case gw36_ => first | (with_reducible exact hG_) | ((with_reducible refine GW.below hG_ ?_); (repeat (first | (with_reducible exact HB.out) | (with_reducible apply below_alloc) | (with_reducible apply pw_below_drewN) | (with_reducible apply below_drew1) | (with_reducible apply below_drew) | (with_reducible exact Below.refl _ _) | (with_reducible refine below_set ?_ GE116.out))); done) | exact hG_ | (refine GW.below hG_ ?_; first | (with_reducible exact HB.out) | (repeat (first | (with_reducible first | exact HB.out | apply below_alloc | apply pw_below_drewN | apply below_drew1 | apply below_drew | exact Below.refl _ _) | exact HB.out))) | (apply GW.drewN; exact hG_) | (apply GW.drew; exact hG_)); rintro e w18 ⟨rfl, hb⟩; refine ⟨_, rfl, ?_⟩; have n0_ := Aside0.mk (blk_below (g := gb116) (o := .cells #[.string a0_0, .string a0_1, .string a0_2, .int .i64 a0_3, .string a0_4, .bool a0_5, .string a0_6, .bool a0_7, .string a0_8] 30 (0, 0)) z50_ hb); have n1_ := Aside0.mk (below_step z32_ hb); clear BK116; clear HB; have BK116 := n0_; have HB := n1_; clear n0_ n1_; (try clear hb); (try clear hb2); (try clear hk); (try clear hi)))
         go_meet
         case rel => exact ⟨_, ((x3_2 ++ a0_2) ++ ((⟨#[58]⟩ : ByteArray) ++ t117)), z64_, H', ⟨z66_⟩, ⟨z50_⟩, ⟨z32_⟩⟩
        ·rw [if_neg c16] at H
         exact absurd H (by simp)
       ·rw [if_neg c15] at H
        exact absurd H (by simp)
     case rest =>
      clear HC11; (try clear c2); (try clear c2b0); (try clear c2b1); (try clear c2b2); (try clear c10); (try clear c10b0); (try clear c10b1); (try clear c10b2); (try clear hcz12_0 hcz12_1 hcz12_2 hcz12_3 hcz12_4 hcz12_5 hcz12_6 hcz12_7 hcz12_8); (try clear hcz5_0 hcz5_1 hcz5_2 hcz5_3 hcz5_4 hcz5_5 hcz5_6 hcz5_7 hcz5_8); (try clear hfz12_0 hfz12_1 hfz12_2 hfz12_3 hfz12_4 hfz12_5 hfz12_6 hfz12_7 hfz12_8); (try clear hfz5_0 hfz5_1 hfz5_2 hfz5_3 hfz5_4 hfz5_5 hfz5_6 hfz5_7 hfz5_8)
      obtain ⟨kq, x3_10, rfl, HA, HJ10, BK116, HB⟩ := hcut
      cases kq with
      | zero => exact absurd HA.out (by simp [url_text.j1])
      | succ kj10 =>
       have H := HA.out
       clear HA
       simp only [url_text.j1] at H
       by_cases c19 : x3_10.size + a0_4.size ≤ 9223372036854775807
       ·rw [if_pos c19] at H
        have c19b0 := eq_true c19; have c19b1 : decide (x3_10.size + a0_4.size ≤ 9223372036854775807) = true := decide_eq_true c19
        try have c19b2 : (9223372036854775807 < x3_10.size + a0_4.size) = False := eq_false (Nat.not_lt.2 c19)
        by_cases c20 : a0_5 = true
        ·subst c20
         have H1 : (if 1 + a0_6.size ≤ 9223372036854775807 then (if (x3_10 ++ a0_4).size + ((⟨#[63]⟩ : ByteArray) ++ a0_6).size ≤ 9223372036854775807 then (if a0_7 = true then (if 1 + a0_8.size ≤ 9223372036854775807 then (if ((x3_10 ++ a0_4) ++ ((⟨#[63]⟩ : ByteArray) ++ a0_6)).size + ((⟨#[35]⟩ : ByteArray) ++ a0_8).size ≤ 9223372036854775807 then (some (((x3_10 ++ a0_4) ++ ((⟨#[63]⟩ : ByteArray) ++ a0_6)) ++ ((⟨#[35]⟩ : ByteArray) ++ a0_8))) else (none)) else (none)) else (some ((x3_10 ++ a0_4) ++ ((⟨#[63]⟩ : ByteArray) ++ a0_6)))) else (none)) else (none)) = some r := by rw [if_pos rfl] at H; exact H
         clear H
         have H := H1
         clear H1
         by_cases c21 : 1 + a0_6.size ≤ 9223372036854775807
         ·rw [if_pos c21] at H
          have c21b0 := eq_true c21; have c21b1 : decide (1 + a0_6.size ≤ 9223372036854775807) = true := decide_eq_true c21
          try have c21b2 : (9223372036854775807 < 1 + a0_6.size) = False := eq_false (Nat.not_lt.2 c21)
          try have c21c0 : (9223372036854775807 ≤ a0_6.size) = False := eq_false (by omega)
          try have c21c1 : (a0_6.size < 9223372036854775807) = True := eq_true (by omega)
          by_cases c22 : (x3_10 ++ a0_4).size + ((⟨#[63]⟩ : ByteArray) ++ a0_6).size ≤ 9223372036854775807
          ·rw [if_pos c22] at H
           have c22b0 := eq_true c22
           try have c22m : ((x3_10.size + a0_4.size) + (1 + a0_6.size) ≤ 9223372036854775807) = True := by first | exact c22b0 | (have h_ := c22; simp only [ByteArray.size_append, Int.natCast_add] at h_; exact eq_true h_)
           have c22b1 : decide ((x3_10 ++ a0_4).size + ((⟨#[63]⟩ : ByteArray) ++ a0_6).size ≤ 9223372036854775807) = true := decide_eq_true c22
           try have c22b1n : decide ((x3_10.size + a0_4.size) + (1 + a0_6.size) ≤ 9223372036854775807) = true := by first | exact c22b1 | (have h_ := c22b1; simp only [ByteArray.size_append, Int.natCast_add] at h_; exact h_)
           try have c22b2 : (9223372036854775807 < (x3_10 ++ a0_4).size + ((⟨#[63]⟩ : ByteArray) ++ a0_6).size) = False := eq_false (Nat.not_lt.2 c22)
           try have c22b2n : (9223372036854775807 < (x3_10.size + a0_4.size) + (1 + a0_6.size)) = False := by first | exact c22b2 | (have h_ := c22b2; simp only [ByteArray.size_append, Int.natCast_add] at h_; exact h_)
           by_cases c23 : a0_7 = true
           ·subst c23
            have H1 : (if 1 + a0_8.size ≤ 9223372036854775807 then (if ((x3_10 ++ a0_4) ++ ((⟨#[63]⟩ : ByteArray) ++ a0_6)).size + ((⟨#[35]⟩ : ByteArray) ++ a0_8).size ≤ 9223372036854775807 then (some (((x3_10 ++ a0_4) ++ ((⟨#[63]⟩ : ByteArray) ++ a0_6)) ++ ((⟨#[35]⟩ : ByteArray) ++ a0_8))) else (none)) else (none)) = some r := by rw [if_pos rfl] at H; exact H
            clear H
            have H := H1
            clear H1
            by_cases c24 : 1 + a0_8.size ≤ 9223372036854775807
            ·rw [if_pos c24] at H
             have c24b0 := eq_true c24; have c24b1 : decide (1 + a0_8.size ≤ 9223372036854775807) = true := decide_eq_true c24
             try have c24b2 : (9223372036854775807 < 1 + a0_8.size) = False := eq_false (Nat.not_lt.2 c24)
             try have c24c0 : (9223372036854775807 ≤ a0_8.size) = False := eq_false (by omega)
             try have c24c1 : (a0_8.size < 9223372036854775807) = True := eq_true (by omega)
             by_cases c25 : ((x3_10 ++ a0_4) ++ ((⟨#[63]⟩ : ByteArray) ++ a0_6)).size + ((⟨#[35]⟩ : ByteArray) ++ a0_8).size ≤ 9223372036854775807
             ·rw [if_pos c25] at H
              have c25b0 := eq_true c25
              try have c25m : ((x3_10.size + a0_4.size + (1 + a0_6.size)) + (1 + a0_8.size) ≤ 9223372036854775807) = True := by first | exact c25b0 | (have h_ := c25; simp only [ByteArray.size_append, Int.natCast_add] at h_; exact eq_true h_)
              have c25b1 : decide (((x3_10 ++ a0_4) ++ ((⟨#[63]⟩ : ByteArray) ++ a0_6)).size + ((⟨#[35]⟩ : ByteArray) ++ a0_8).size ≤ 9223372036854775807) = true := decide_eq_true c25
              try have c25b1n : decide ((x3_10.size + a0_4.size + (1 + a0_6.size)) + (1 + a0_8.size) ≤ 9223372036854775807) = true := by first | exact c25b1 | (have h_ := c25b1; simp only [ByteArray.size_append, Int.natCast_add] at h_; exact h_)
              try have c25b2 : (9223372036854775807 < ((x3_10 ++ a0_4) ++ ((⟨#[63]⟩ : ByteArray) ++ a0_6)).size + ((⟨#[35]⟩ : ByteArray) ++ a0_8).size) = False := eq_false (Nat.not_lt.2 c25)
              try have c25b2n : (9223372036854775807 < (x3_10.size + a0_4.size + (1 + a0_6.size)) + (1 + a0_8.size)) = False := by first | exact c25b2 | (have h_ := c25b2; simp only [ByteArray.size_append, Int.natCast_add] at h_; exact h_)
              obtain rfl := Option.some.inj H
              obtain ⟨hcz26_0, hcz26_1, hcz26_2, hcz26_3, hcz26_4, hcz26_5, hcz26_6, hcz26_7, hcz26_8⟩ := blkc9_ BK116.out; obtain ⟨hfz26_0, hfz26_1, hfz26_2, hfz26_3, hfz26_4, hfz26_5, hfz26_6, hfz26_7, hfz26_8⟩ := blkf9_ BK116.out; go_wp2
              go_ret
              exact ⟨z46_, z32_⟩
             ·rw [if_neg c25] at H
              exact absurd H (by simp)
            ·rw [if_neg c24] at H
             exact absurd H (by simp)
           ·replace c23 := Bool.eq_false_iff.mpr c23
            subst c23
            have H1 : (some ((x3_10 ++ a0_4) ++ ((⟨#[63]⟩ : ByteArray) ++ a0_6))) = some r := by rw [if_neg (show ¬ (false = true) by decide)] at H; exact H
            clear H
            have H := H1
            clear H1
            obtain rfl := Option.some.inj H
            obtain ⟨hcz27_0, hcz27_1, hcz27_2, hcz27_3, hcz27_4, hcz27_5, hcz27_6, hcz27_7, hcz27_8⟩ := blkc9_ BK116.out; obtain ⟨hfz27_0, hfz27_1, hfz27_2, hfz27_3, hfz27_4, hfz27_5, hfz27_6, hfz27_7, hfz27_8⟩ := blkf9_ BK116.out; go_wp2
            go_ret
            exact ⟨z46_, z32_⟩
          ·rw [if_neg c22] at H
           exact absurd H (by simp)
         ·rw [if_neg c21] at H
          exact absurd H (by simp)
        ·replace c20 := Bool.eq_false_iff.mpr c20
         subst c20
         have H1 : (if a0_7 = true then (if 1 + a0_8.size ≤ 9223372036854775807 then (if (x3_10 ++ a0_4).size + ((⟨#[35]⟩ : ByteArray) ++ a0_8).size ≤ 9223372036854775807 then (some ((x3_10 ++ a0_4) ++ ((⟨#[35]⟩ : ByteArray) ++ a0_8))) else (none)) else (none)) else (some (x3_10 ++ a0_4))) = some r := by rw [if_neg (show ¬ (false = true) by decide)] at H; exact H
         clear H
         have H := H1
         clear H1
         by_cases c28 : a0_7 = true
         ·subst c28
          have H1 : (if 1 + a0_8.size ≤ 9223372036854775807 then (if (x3_10 ++ a0_4).size + ((⟨#[35]⟩ : ByteArray) ++ a0_8).size ≤ 9223372036854775807 then (some ((x3_10 ++ a0_4) ++ ((⟨#[35]⟩ : ByteArray) ++ a0_8))) else (none)) else (none)) = some r := by rw [if_pos rfl] at H; exact H
          clear H
          have H := H1
          clear H1
          by_cases c29 : 1 + a0_8.size ≤ 9223372036854775807
          ·rw [if_pos c29] at H
           have c29b0 := eq_true c29; have c29b1 : decide (1 + a0_8.size ≤ 9223372036854775807) = true := decide_eq_true c29
           try have c29b2 : (9223372036854775807 < 1 + a0_8.size) = False := eq_false (Nat.not_lt.2 c29)
           try have c29c0 : (9223372036854775807 ≤ a0_8.size) = False := eq_false (by omega)
           try have c29c1 : (a0_8.size < 9223372036854775807) = True := eq_true (by omega)
           by_cases c30 : (x3_10 ++ a0_4).size + ((⟨#[35]⟩ : ByteArray) ++ a0_8).size ≤ 9223372036854775807
           ·rw [if_pos c30] at H
            have c30b0 := eq_true c30
            try have c30m : ((x3_10.size + a0_4.size) + (1 + a0_8.size) ≤ 9223372036854775807) = True := by first | exact c30b0 | (have h_ := c30; simp only [ByteArray.size_append, Int.natCast_add] at h_; exact eq_true h_)
            have c30b1 : decide ((x3_10 ++ a0_4).size + ((⟨#[35]⟩ : ByteArray) ++ a0_8).size ≤ 9223372036854775807) = true := decide_eq_true c30
            try have c30b1n : decide ((x3_10.size + a0_4.size) + (1 + a0_8.size) ≤ 9223372036854775807) = true := by first | exact c30b1 | (have h_ := c30b1; simp only [ByteArray.size_append, Int.natCast_add] at h_; exact h_)
            try have c30b2 : (9223372036854775807 < (x3_10 ++ a0_4).size + ((⟨#[35]⟩ : ByteArray) ++ a0_8).size) = False := eq_false (Nat.not_lt.2 c30)
            try have c30b2n : (9223372036854775807 < (x3_10.size + a0_4.size) + (1 + a0_8.size)) = False := by first | exact c30b2 | (have h_ := c30b2; simp only [ByteArray.size_append, Int.natCast_add] at h_; exact h_)
            obtain rfl := Option.some.inj H
            obtain ⟨hcz31_0, hcz31_1, hcz31_2, hcz31_3, hcz31_4, hcz31_5, hcz31_6, hcz31_7, hcz31_8⟩ := blkc9_ BK116.out; obtain ⟨hfz31_0, hfz31_1, hfz31_2, hfz31_3, hfz31_4, hfz31_5, hfz31_6, hfz31_7, hfz31_8⟩ := blkf9_ BK116.out; go_wp2
            go_ret
            exact ⟨z46_, z32_⟩
           ·rw [if_neg c30] at H
            exact absurd H (by simp)
          ·rw [if_neg c29] at H
           exact absurd H (by simp)
         ·replace c28 := Bool.eq_false_iff.mpr c28
          subst c28
          have H1 : (some (x3_10 ++ a0_4)) = some r := by rw [if_neg (show ¬ (false = true) by decide)] at H; exact H
          clear H
          have H := H1
          clear H1
          obtain rfl := Option.some.inj H
          obtain ⟨hcz32_0, hcz32_1, hcz32_2, hcz32_3, hcz32_4, hcz32_5, hcz32_6, hcz32_7, hcz32_8⟩ := blkc9_ BK116.out; obtain ⟨hfz32_0, hfz32_1, hfz32_2, hfz32_3, hfz32_4, hfz32_5, hfz32_6, hfz32_7, hfz32_8⟩ := blkf9_ BK116.out; go_wp2
          go_ret
          exact ⟨z46_, z32_⟩
       ·rw [if_neg c19] at H
        exact absurd H (by simp)
    ·rw [if_neg c10] at H
     exact absurd H (by simp)
 ·rw [if_neg c2] at H
  exact absurd H (by simp)

def source_goes.f (a0 a1 : ByteArray) : Option (Bool) := if a0.toList = a1.toList then (some true) else (if a0.toList = ([104, 116, 116, 112] : List UInt8) then (some (a1.toList == ([104, 116, 116, 112, 115] : List UInt8))) else (some false))
set_option maxHeartbeats 8000000 in
set_option maxRecDepth 100000 in
theorem source_goes.calls (a0 a1 : ByteArray) (r : Bool) (w : World) (hG_ : GW w) (h : source_goes.f a0 a1 = some r) :
  Calls Tryz.prog 50 #[.string a0, .string a1] w fun e w' => e = .returned (.bool r) ∧ Drawn0 w w' := by
 have H : (if a0.toList = a1.toList then (some true) else (if a0.toList = ([104, 116, 116, 112] : List UInt8) then (some (a1.toList == ([104, 116, 116, 112, 115] : List UInt8))) else (some false))) = some r := h
 clear h
 by_cases c3 : a0.toList = a1.toList
 ·rw [if_pos c3] at H
  have c3b0 : (a0.toList == a1.toList) = true := beq_iff_eq.mpr c3
  have c3b1 : (a0.toList != a1.toList) = false := bne_eq_false_iff_eq.mpr c3
  clear c3
  obtain rfl := Option.some.inj H
  go_enter Tryz.func50, Tryz.ntmps50
  go_wp2
  go_ret
  exact ⟨z64_, z65_⟩
 ·rw [if_neg c3] at H
  have c3b0 : (a0.toList == a1.toList) = false := beq_eq_false_iff_ne.mpr c3
  have c3b1 : (a0.toList != a1.toList) = true := bne_iff_ne.mpr c3
  by_cases c4 : a0.toList = ([104, 116, 116, 112] : List UInt8)
  ·rw [if_pos c4] at H
   have c4b0 : (a0.toList == ([104, 116, 116, 112] : List UInt8)) = true := beq_iff_eq.mpr c4
   have c4b1 : (a0.toList != ([104, 116, 116, 112] : List UInt8)) = false := bne_eq_false_iff_eq.mpr c4
   clear c4
   obtain rfl := Option.some.inj H
   go_enter Tryz.func50, Tryz.ntmps50
   go_wp2
   go_ret
   exact ⟨z64_, z65_⟩
  ·rw [if_neg c4] at H
   have c4b0 : (a0.toList == ([104, 116, 116, 112] : List UInt8)) = false := beq_eq_false_iff_ne.mpr c4
   have c4b1 : (a0.toList != ([104, 116, 116, 112] : List UInt8)) = true := bne_iff_ne.mpr c4
   obtain rfl := Option.some.inj H
   go_enter Tryz.func50, Tryz.ntmps50
   go_wp2
   go_ret
   exact ⟨z64_, z65_⟩

def source_path.f (a0_0 : Int) (a0_1 : ByteArray) (a0_2 : Bool) (a0_3 : ByteArray) (a0_4 : Int) (a0_5 a0_6 a1_0 a1_1 a1_2 : ByteArray) (a1_3 : Int) (a1_4 : ByteArray) (a1_5 : Bool) (a1_6 : ByteArray) (a1_7 : Bool) (a1_8 : ByteArray) : Option (Bool) := (strings_HasSuffix.f a0_5 (⟨#[47]⟩ : ByteArray)).bind fun t132 => (if t132 = true then ((strings_HasPrefix.f a1_4 a0_5).bind fun t133 => (some t133)) else (some (a1_4.toList == a0_5.toList)))
set_option maxHeartbeats 8000000 in
set_option maxRecDepth 100000 in
theorem source_path.calls (a0_0 : Int) (a0_1 : ByteArray) (a0_2 : Bool) (a0_3 : ByteArray) (a0_4 : Int) (a0_5 a0_6 a1_0 a1_1 a1_2 : ByteArray) (a1_3 : Int) (a1_4 : ByteArray) (a1_5 : Bool) (a1_6 : ByteArray) (a1_7 : Bool) (a1_8 : ByteArray) (r : Bool) (w : World) (hG_ : GW w) (h : source_path.f a0_0 a0_1 a0_2 a0_3 a0_4 a0_5 a0_6 a1_0 a1_1 a1_2 a1_3 a1_4 a1_5 a1_6 a1_7 a1_8 = some r) :
  Calls Tryz.prog 54 #[.agg #[.int .i64 a0_0, .string a0_1, .bool a0_2, .string a0_3, .int .i64 a0_4, .string a0_5, .string a0_6], .agg #[.string a1_0, .string a1_1, .string a1_2, .int .i64 a1_3, .string a1_4, .bool a1_5, .string a1_6, .bool a1_7, .string a1_8]] w fun e w' => e = .returned (.bool r) ∧ Below w.heap.size w w' := by
 have hu23 := Tryz.underlying23
 have hu30 := Tryz.underlying30
 have HB := Aside0.mk (Below.refl w.heap.size w)
 have H : ((strings_HasSuffix.f a0_5 (⟨#[47]⟩ : ByteArray)).bind fun t132 => (if t132 = true then ((strings_HasPrefix.f a1_4 a0_5).bind fun t133 => (some t133)) else (some (a1_4.toList == a0_5.toList)))) = some r := h
 clear h
 replace H := Option.bind_eq_some_iff.mp H
 obtain ⟨t132, A30, H⟩ := H
 replace H : (if t132 = true then ((strings_HasPrefix.f a1_4 a0_5).bind fun t133 => (some t133)) else (some (a1_4.toList == a0_5.toList))) = some r := H
 have A3 := Aside0.mk A30; clear A30
 by_cases c4 : t132 = true
 ·subst c4
  have H1 : ((strings_HasPrefix.f a1_4 a0_5).bind fun t133 => (some t133)) = some r := by rw [if_pos rfl] at H; exact H
  clear H
  have H := H1
  clear H1
  replace H := Option.bind_eq_some_iff.mp H
  obtain ⟨t133, A50, H⟩ := H
  replace H : (some t133) = some r := H
  have A5 := Aside0.mk A50; clear A50
  obtain rfl := Option.some.inj H
  go_enter Tryz.func54, Tryz.ntmps54
  go_wp2_with (first | ((with_reducible refine gate_dst (N := 2) rfl ?_); refine box_event ?hg (N := 2) ?hd (cs := #[.int .i64 a0_0, .string a0_1, .bool a0_2, .string a0_3, .int .i64 a0_4, .string a0_5, .string a0_6]) (t := 23) ?hr ?_; (case hd => rfl); (case hg => rfl); (case hr => first | (go_simp; done) | (go_simp; rfl)); intro gb130 hg w6 hbox hb; have n0_ := Aside0.mk (below_step z45_ hb); have n1_ := Aside0.mk (hbox); have n2_ := Aside0.mk ((by rw [hg]; exact (below_size z45_) : w.heap.size ≤ gb130)); have n3_ := Aside0.mk ((by rw [hg]; exact (below_size z45_) : w.heap.size ≤ gb130)); clear HB; have HB := n0_; have BK130 := n1_; have GW130 := n2_; have GE130 := n3_; clear n0_ n1_ n2_ n3_; clear hb hbox hg) | ((with_reducible refine gate_dst (N := 3) rfl ?_); refine box_event ?hg (N := 3) ?hd (cs := #[.string a1_0, .string a1_1, .string a1_2, .int .i64 a1_3, .string a1_4, .bool a1_5, .string a1_6, .bool a1_7, .string a1_8]) (t := 30) ?hr ?_; (case hd => rfl); (case hg => rfl); (case hr => first | (go_simp; done) | (go_simp; rfl)); intro gb131 hg w7 hbox hb; have n0_ := Aside0.mk (blk_below (g := gb130) (o := .cells #[.int .i64 a0_0, .string a0_1, .bool a0_2, .string a0_3, .int .i64 a0_4, .string a0_5, .string a0_6] 23 (0, 0)) z51_ hb); have n1_ := Aside0.mk (below_step z33_ hb); have n2_ := Aside0.mk (hbox); have n3_ := Aside0.mk ((by rw [hg]; exact (below_size z33_) : w.heap.size ≤ gb131)); have n4_ := Aside0.mk ((by rw [hg]; exact (below_size z33_) : w.heap.size ≤ gb131)); have n5_ := Aside0.mk ((by rw [hg]; exact Nat.ne_of_lt (blk_lt (g := gb130) (o := .cells #[.int .i64 a0_0, .string a0_1, .bool a0_2, .string a0_3, .int .i64 a0_4, .string a0_5, .string a0_6] 23 (0, 0)) z51_) : gb130 ≠ gb131)); have n6_ := Aside0.mk ((by rw [hg]; exact Nat.ne_of_gt (blk_lt (g := gb130) (o := .cells #[.int .i64 a0_0, .string a0_1, .bool a0_2, .string a0_3, .int .i64 a0_4, .string a0_5, .string a0_6] 23 (0, 0)) z51_) : gb131 ≠ gb130)); clear BK130; clear HB; have BK130 := n0_; have HB := n1_; have BK131 := n2_; have GW131 := n3_; have GE131 := n4_; have NB130_131 := n5_; have NB131_130 := n6_; clear n0_ n1_ n2_ n3_ n4_ n5_ n6_; clear hb hbox hg; have hnb8 := NB130_131.out; have hnc8 := NB131_130.out; have hcz9_0 : w7.cell? ⟨gb130, 0, none⟩ = some (.int .i64 a0_0) := (blk_cell BK130.out 0).trans rfl; have hcz9_1 : w7.cell? ⟨gb130, 1, none⟩ = some (.string a0_1) := (blk_cell BK130.out 1).trans rfl; have hcz9_2 : w7.cell? ⟨gb130, 2, none⟩ = some (.bool a0_2) := (blk_cell BK130.out 2).trans rfl; have hcz9_3 : w7.cell? ⟨gb130, 3, none⟩ = some (.string a0_3) := (blk_cell BK130.out 3).trans rfl; have hcz9_4 : w7.cell? ⟨gb130, 4, none⟩ = some (.int .i64 a0_4) := (blk_cell BK130.out 4).trans rfl; have hcz9_5 : w7.cell? ⟨gb130, 5, none⟩ = some (.string a0_5) := (blk_cell BK130.out 5).trans rfl; have hcz9_6 : w7.cell? ⟨gb130, 6, none⟩ = some (.string a0_6) := (blk_cell BK130.out 6).trans rfl; have hfz9_0 := blk_frozen BK130.out 0; have hfz9_1 := blk_frozen BK130.out 1; have hfz9_2 := blk_frozen BK130.out 2; have hfz9_3 := blk_frozen BK130.out 3; have hfz9_4 := blk_frozen BK130.out 4; have hfz9_5 := blk_frozen BK130.out 5; have hfz9_6 := blk_frozen BK130.out 6) | ((with_reducible refine gate_callee (f := 97) rfl ?_); refine goesL_ (some 7) rfl rfl Tryz.func97 (by kernel_rfl) rfl #[.string a0_5, .string (⟨#[47]⟩ : ByteArray)] rfl z44_ ?_; (with_reducible refine (strings_HasSuffix.calls a0_5 (⟨#[47]⟩ : ByteArray) true _ ?gw37_ A3.out).mono ?_); (case gw37_ => exact z6_); rintro e w' ⟨rfl, ⟨nd, rfl⟩⟩; refine ⟨_, rfl, ?_⟩; have hcz10_0 : w7.cell? ⟨gb131, 0, none⟩ = some (.string a1_0) := (blk_cell BK131.out 0).trans rfl; have hcz10_1 : w7.cell? ⟨gb131, 1, none⟩ = some (.string a1_1) := (blk_cell BK131.out 1).trans rfl; have hcz10_2 : w7.cell? ⟨gb131, 2, none⟩ = some (.string a1_2) := (blk_cell BK131.out 2).trans rfl; have hcz10_3 : w7.cell? ⟨gb131, 3, none⟩ = some (.int .i64 a1_3) := (blk_cell BK131.out 3).trans rfl; have hcz10_4 : w7.cell? ⟨gb131, 4, none⟩ = some (.string a1_4) := (blk_cell BK131.out 4).trans rfl; have hcz10_5 : w7.cell? ⟨gb131, 5, none⟩ = some (.bool a1_5) := (blk_cell BK131.out 5).trans rfl; have hcz10_6 : w7.cell? ⟨gb131, 6, none⟩ = some (.string a1_6) := (blk_cell BK131.out 6).trans rfl; have hcz10_7 : w7.cell? ⟨gb131, 7, none⟩ = some (.bool a1_7) := (blk_cell BK131.out 7).trans rfl; have hcz10_8 : w7.cell? ⟨gb131, 8, none⟩ = some (.string a1_8) := (blk_cell BK131.out 8).trans rfl; have hfz10_0 := blk_frozen BK131.out 0; have hfz10_1 := blk_frozen BK131.out 1; have hfz10_2 := blk_frozen BK131.out 2; have hfz10_3 := blk_frozen BK131.out 3; have hfz10_4 := blk_frozen BK131.out 4; have hfz10_5 := blk_frozen BK131.out 5; have hfz10_6 := blk_frozen BK131.out 6; have hfz10_7 := blk_frozen BK131.out 7; have hfz10_8 := blk_frozen BK131.out 8) | ((with_reducible refine gate_callee (f := 38) rfl ?_); refine goesL_ (some 12) rfl rfl Tryz.func38 (by kernel_rfl) rfl #[.string a1_4, .string a0_5] rfl z44_ ?_; (with_reducible refine (strings_HasPrefix.calls a1_4 a0_5 t133 _ ?gw38_ A5.out).mono ?_); (case gw38_ => exact z6_); rintro e w' ⟨rfl, ⟨nd, rfl⟩⟩; refine ⟨_, rfl, ?_⟩))
  go_ret
  exact ⟨z46_, by repeat (first | (with_reducible first | exact HB.out | apply below_alloc | apply pw_below_drewN | apply below_drew1 | refine below_set ?_ GE130.out | refine below_set ?_ GE131.out) | exact HB.out)⟩
 ·replace c4 := Bool.eq_false_iff.mpr c4
  subst c4
  have H1 : (some (a1_4.toList == a0_5.toList)) = some r := by rw [if_neg (show ¬ (false = true) by decide)] at H; exact H
  clear H
  have H := H1
  clear H1
  obtain rfl := Option.some.inj H
  go_enter Tryz.func54, Tryz.ntmps54
  go_wp2_with (first | ((with_reducible refine gate_dst (N := 2) rfl ?_); refine box_event ?hg (N := 2) ?hd (cs := #[.int .i64 a0_0, .string a0_1, .bool a0_2, .string a0_3, .int .i64 a0_4, .string a0_5, .string a0_6]) (t := 23) ?hr ?_; (case hd => rfl); (case hg => rfl); (case hr => first | (go_simp; done) | (go_simp; rfl)); intro gb130 hg w11 hbox hb; have n0_ := Aside0.mk (below_step z45_ hb); have n1_ := Aside0.mk (hbox); have n2_ := Aside0.mk ((by rw [hg]; exact (below_size z45_) : w.heap.size ≤ gb130)); have n3_ := Aside0.mk ((by rw [hg]; exact (below_size z45_) : w.heap.size ≤ gb130)); clear HB; have HB := n0_; have BK130 := n1_; have GW130 := n2_; have GE130 := n3_; clear n0_ n1_ n2_ n3_; clear hb hbox hg) | ((with_reducible refine gate_dst (N := 3) rfl ?_); refine box_event ?hg (N := 3) ?hd (cs := #[.string a1_0, .string a1_1, .string a1_2, .int .i64 a1_3, .string a1_4, .bool a1_5, .string a1_6, .bool a1_7, .string a1_8]) (t := 30) ?hr ?_; (case hd => rfl); (case hg => rfl); (case hr => first | (go_simp; done) | (go_simp; rfl)); intro gb131 hg w12 hbox hb; have n0_ := Aside0.mk (blk_below (g := gb130) (o := .cells #[.int .i64 a0_0, .string a0_1, .bool a0_2, .string a0_3, .int .i64 a0_4, .string a0_5, .string a0_6] 23 (0, 0)) z51_ hb); have n1_ := Aside0.mk (below_step z33_ hb); have n2_ := Aside0.mk (hbox); have n3_ := Aside0.mk ((by rw [hg]; exact (below_size z33_) : w.heap.size ≤ gb131)); have n4_ := Aside0.mk ((by rw [hg]; exact (below_size z33_) : w.heap.size ≤ gb131)); have n5_ := Aside0.mk ((by rw [hg]; exact Nat.ne_of_lt (blk_lt (g := gb130) (o := .cells #[.int .i64 a0_0, .string a0_1, .bool a0_2, .string a0_3, .int .i64 a0_4, .string a0_5, .string a0_6] 23 (0, 0)) z51_) : gb130 ≠ gb131)); have n6_ := Aside0.mk ((by rw [hg]; exact Nat.ne_of_gt (blk_lt (g := gb130) (o := .cells #[.int .i64 a0_0, .string a0_1, .bool a0_2, .string a0_3, .int .i64 a0_4, .string a0_5, .string a0_6] 23 (0, 0)) z51_) : gb131 ≠ gb130)); clear BK130; clear HB; have BK130 := n0_; have HB := n1_; have BK131 := n2_; have GW131 := n3_; have GE131 := n4_; have NB130_131 := n5_; have NB131_130 := n6_; clear n0_ n1_ n2_ n3_ n4_ n5_ n6_; clear hb hbox hg; have hnb13 := NB130_131.out; have hnc13 := NB131_130.out; have hcz14_0 : w12.cell? ⟨gb130, 0, none⟩ = some (.int .i64 a0_0) := (blk_cell BK130.out 0).trans rfl; have hcz14_1 : w12.cell? ⟨gb130, 1, none⟩ = some (.string a0_1) := (blk_cell BK130.out 1).trans rfl; have hcz14_2 : w12.cell? ⟨gb130, 2, none⟩ = some (.bool a0_2) := (blk_cell BK130.out 2).trans rfl; have hcz14_3 : w12.cell? ⟨gb130, 3, none⟩ = some (.string a0_3) := (blk_cell BK130.out 3).trans rfl; have hcz14_4 : w12.cell? ⟨gb130, 4, none⟩ = some (.int .i64 a0_4) := (blk_cell BK130.out 4).trans rfl; have hcz14_5 : w12.cell? ⟨gb130, 5, none⟩ = some (.string a0_5) := (blk_cell BK130.out 5).trans rfl; have hcz14_6 : w12.cell? ⟨gb130, 6, none⟩ = some (.string a0_6) := (blk_cell BK130.out 6).trans rfl; have hfz14_0 := blk_frozen BK130.out 0; have hfz14_1 := blk_frozen BK130.out 1; have hfz14_2 := blk_frozen BK130.out 2; have hfz14_3 := blk_frozen BK130.out 3; have hfz14_4 := blk_frozen BK130.out 4; have hfz14_5 := blk_frozen BK130.out 5; have hfz14_6 := blk_frozen BK130.out 6) | ((with_reducible refine gate_callee (f := 97) rfl ?_); refine goesL_ (some 7) rfl rfl Tryz.func97 (by kernel_rfl) rfl #[.string a0_5, .string (⟨#[47]⟩ : ByteArray)] rfl z44_ ?_; (with_reducible refine (strings_HasSuffix.calls a0_5 (⟨#[47]⟩ : ByteArray) false _ ?gw39_ A3.out).mono ?_); (case gw39_ => exact z6_); rintro e w' ⟨rfl, ⟨nd, rfl⟩⟩; refine ⟨_, rfl, ?_⟩; have hcz15_0 : w12.cell? ⟨gb131, 0, none⟩ = some (.string a1_0) := (blk_cell BK131.out 0).trans rfl; have hcz15_1 : w12.cell? ⟨gb131, 1, none⟩ = some (.string a1_1) := (blk_cell BK131.out 1).trans rfl; have hcz15_2 : w12.cell? ⟨gb131, 2, none⟩ = some (.string a1_2) := (blk_cell BK131.out 2).trans rfl; have hcz15_3 : w12.cell? ⟨gb131, 3, none⟩ = some (.int .i64 a1_3) := (blk_cell BK131.out 3).trans rfl; have hcz15_4 : w12.cell? ⟨gb131, 4, none⟩ = some (.string a1_4) := (blk_cell BK131.out 4).trans rfl; have hcz15_5 : w12.cell? ⟨gb131, 5, none⟩ = some (.bool a1_5) := (blk_cell BK131.out 5).trans rfl; have hcz15_6 : w12.cell? ⟨gb131, 6, none⟩ = some (.string a1_6) := (blk_cell BK131.out 6).trans rfl; have hcz15_7 : w12.cell? ⟨gb131, 7, none⟩ = some (.bool a1_7) := (blk_cell BK131.out 7).trans rfl; have hcz15_8 : w12.cell? ⟨gb131, 8, none⟩ = some (.string a1_8) := (blk_cell BK131.out 8).trans rfl; have hfz15_0 := blk_frozen BK131.out 0; have hfz15_1 := blk_frozen BK131.out 1; have hfz15_2 := blk_frozen BK131.out 2; have hfz15_3 := blk_frozen BK131.out 3; have hfz15_4 := blk_frozen BK131.out 4; have hfz15_5 := blk_frozen BK131.out 5; have hfz15_6 := blk_frozen BK131.out 6; have hfz15_7 := blk_frozen BK131.out 7; have hfz15_8 := blk_frozen BK131.out 8))
  go_ret
  exact ⟨z46_, by repeat (first | (with_reducible first | exact HB.out | apply below_alloc | apply pw_below_drewN | apply below_drew1 | refine below_set ?_ GE130.out | refine below_set ?_ GE131.out) | exact HB.out)⟩

def source_plain.f (a0_0 : Int) (a0_1 : ByteArray) (a0_2 : Bool) (a0_3 : ByteArray) (a0_4 : Int) (a0_5 a0_6 : ByteArray) : Option (Bool) := some (a0_1.toList == ([] : List UInt8) && (!a0_2 && (a0_3.toList == ([] : List UInt8) && (a0_4 == 0 && (a0_5.toList == ([] : List UInt8) && (a0_6.toList == ([] : List UInt8)))))))
set_option maxHeartbeats 8000000 in
set_option maxRecDepth 100000 in
theorem source_plain.calls (a0_0 : Int) (a0_1 : ByteArray) (a0_2 : Bool) (a0_3 : ByteArray) (a0_4 : Int) (a0_5 a0_6 : ByteArray) (r : Bool) (w : World) (hG_ : GW w) (h : source_plain.f a0_0 a0_1 a0_2 a0_3 a0_4 a0_5 a0_6 = some r) :
  Calls Tryz.prog 57 #[.agg #[.int .i64 a0_0, .string a0_1, .bool a0_2, .string a0_3, .int .i64 a0_4, .string a0_5, .string a0_6]] w fun e w' => e = .returned (.bool r) ∧ Below w.heap.size w w' := by
 have hu23 := Tryz.underlying23
 have HB := Aside0.mk (Below.refl w.heap.size w)
 have H : (some (a0_1.toList == ([] : List UInt8) && (!a0_2 && (a0_3.toList == ([] : List UInt8) && (a0_4 == 0 && (a0_5.toList == ([] : List UInt8) && (a0_6.toList == ([] : List UInt8)))))))) = some r := h
 clear h
 obtain rfl := Option.some.inj H
 go_enter Tryz.func57, Tryz.ntmps57
 go_wp2_with (first | ((with_reducible refine gate_dst (N := 1) rfl ?_); refine box_event ?hg (N := 1) ?hd (cs := #[.int .i64 a0_0, .string a0_1, .bool a0_2, .string a0_3, .int .i64 a0_4, .string a0_5, .string a0_6]) (t := 23) ?hr ?_; (case hd => rfl); (case hg => rfl); (case hr => first | (go_simp; done) | (go_simp; rfl)); intro gb134 hg w2 hbox hb; have n0_ := Aside0.mk (below_step z45_ hb); have n1_ := Aside0.mk (hbox); have n2_ := Aside0.mk ((by rw [hg]; exact (below_size z45_) : w.heap.size ≤ gb134)); have n3_ := Aside0.mk ((by rw [hg]; exact (below_size z45_) : w.heap.size ≤ gb134)); clear HB; have HB := n0_; have BK134 := n1_; have GW134 := n2_; have GE134 := n3_; clear n0_ n1_ n2_ n3_; clear hb hbox hg; have hcz3_0 : w2.cell? ⟨gb134, 0, none⟩ = some (.int .i64 a0_0) := (blk_cell BK134.out 0).trans rfl; have hcz3_1 : w2.cell? ⟨gb134, 1, none⟩ = some (.string a0_1) := (blk_cell BK134.out 1).trans rfl; have hcz3_2 : w2.cell? ⟨gb134, 2, none⟩ = some (.bool a0_2) := (blk_cell BK134.out 2).trans rfl; have hcz3_3 : w2.cell? ⟨gb134, 3, none⟩ = some (.string a0_3) := (blk_cell BK134.out 3).trans rfl; have hcz3_4 : w2.cell? ⟨gb134, 4, none⟩ = some (.int .i64 a0_4) := (blk_cell BK134.out 4).trans rfl; have hcz3_5 : w2.cell? ⟨gb134, 5, none⟩ = some (.string a0_5) := (blk_cell BK134.out 5).trans rfl; have hcz3_6 : w2.cell? ⟨gb134, 6, none⟩ = some (.string a0_6) := (blk_cell BK134.out 6).trans rfl; have hfz3_0 := blk_frozen BK134.out 0; have hfz3_1 := blk_frozen BK134.out 1; have hfz3_2 := blk_frozen BK134.out 2; have hfz3_3 := blk_frozen BK134.out 3; have hfz3_4 := blk_frozen BK134.out 4; have hfz3_5 := blk_frozen BK134.out 5; have hfz3_6 := blk_frozen BK134.out 6))
 go_ret
 exact ⟨z46_, by repeat (first | (with_reducible first | exact HB.out | apply below_alloc | apply pw_below_drewN | apply below_drew1 | refine below_set ?_ GE134.out) | exact HB.out)⟩

def source_random.l0 : Nat → ByteArray → Int → Int → Option (Bool)
 | 0, _, _, _ => none
 | k + 1, x0, x6, x7 => if x7 < x6 then (if 0 ≤ x7 then (if x7 < (x0.size : Int) then (if (Go.bits .or .u8 (bt x0 x7) 32) < 97 then (if (bt x0 x7) < 48 then ((strings_IndexByte.f (⟨#[43, 47, 95, 45, 61]⟩ : ByteArray) (bt x0 x7)).bind fun t135 => (if t135 < 0 then (some false) else (source_random.l0 k x0 x6 (wrap64 (x7 + 1))))) else (if (bt x0 x7) > 57 then ((strings_IndexByte.f (⟨#[43, 47, 95, 45, 61]⟩ : ByteArray) (bt x0 x7)).bind fun t136 => (if t136 < 0 then (some false) else (source_random.l0 k x0 x6 (wrap64 (x7 + 1))))) else (source_random.l0 k x0 x6 (wrap64 (x7 + 1))))) else (if (Go.bits .or .u8 (bt x0 x7) 32) > 122 then (if (bt x0 x7) < 48 then ((strings_IndexByte.f (⟨#[43, 47, 95, 45, 61]⟩ : ByteArray) (bt x0 x7)).bind fun t137 => (if t137 < 0 then (some false) else (source_random.l0 k x0 x6 (wrap64 (x7 + 1))))) else (if (bt x0 x7) > 57 then ((strings_IndexByte.f (⟨#[43, 47, 95, 45, 61]⟩ : ByteArray) (bt x0 x7)).bind fun t138 => (if t138 < 0 then (some false) else (source_random.l0 k x0 x6 (wrap64 (x7 + 1))))) else (source_random.l0 k x0 x6 (wrap64 (x7 + 1))))) else (source_random.l0 k x0 x6 (wrap64 (x7 + 1))))) else (none)) else (none)) else (some (x0.toList != ([] : List UInt8)))
def source_random.f (k : Nat) (a0 : ByteArray) : Option (Bool) := source_random.l0 k a0 (a0.size : Int) 0
set_option maxHeartbeats 8000000 in
set_option maxRecDepth 100000 in
theorem source_random.calls (k : Nat) (a0 : ByteArray) (r : Bool) (w : World) (hG_ : GW w) (h : source_random.f k a0 = some r) :
  Calls Tryz.prog 59 #[.string a0] w fun e w' => e = .returned (.bool r) ∧ Drawn0 w w' := by
 have H : (source_random.l0 k a0 (a0.size : Int) 0) = some r := h
 clear h
 have H' := Aside0.mk H
 clear H
 go_enter Tryz.func59, Tryz.ntmps59
 go_wp2
 go_loopg [7] k (fun kq v7 w' => ∃ (x7_1 : Int), v7 = .int .i64 x7_1 ∧ Aside0 (source_random.l0 kq a0 (a0.size : Int) x7_1 = some r) ∧ Aside0 (kq ≤ k) ∧ Drawn0 w w')
 case atStart => exact ⟨(0), z64_, H', ⟨Nat.le_refl _⟩, z65_⟩
 case round =>
  clear H'
  obtain ⟨x7_1, rfl, HA, HK1, ⟨m1, rfl⟩⟩ := hrel
  cases gk with
  | zero => exact absurd HA.out (by simp [source_random.l0])
  | succ k1 =>
   have H := HA.out
   clear HA
   simp only [source_random.l0] at H
   by_cases c2 : x7_1 < (a0.size : Int)
   ·rw [if_pos c2] at H
    have c2b0 : decide (x7_1 < (a0.size : Int)) = true := decide_eq_true c2; clear c2
    by_cases c3 : 0 ≤ x7_1
    ·rw [if_pos c3] at H
     have c3b0 : decide (0 ≤ x7_1) = true := decide_eq_true c3; clear c3
     by_cases c4 : x7_1 < (a0.size : Int)
     ·rw [if_pos c4] at H
      have c4b0 : decide (x7_1 < (a0.size : Int)) = true := decide_eq_true c4; clear c4
      by_cases c6 : (Go.bits .or .u8 (bt a0 x7_1) 32) < 97
      ·rw [if_pos c6] at H
       have c6b0 : decide ((Go.bits .or .u8 (bt a0 x7_1) 32) < 97) = true := decide_eq_true c6; clear c6
       by_cases c7 : (bt a0 x7_1) < 48
       ·rw [if_pos c7] at H
        have c7b0 : decide ((bt a0 x7_1) < 48) = true := decide_eq_true c7; clear c7
        replace H := Option.bind_eq_some_iff.mp H
        obtain ⟨t135, A80, H⟩ := H
        replace H : (if t135 < 0 then (some false) else (source_random.l0 k1 a0 (a0.size : Int) (wrap64 (x7_1 + 1)))) = some r := H
        have A8 := Aside0.mk A80; clear A80
        by_cases c9 : t135 < 0
        ·rw [if_pos c9] at H
         have c9b0 : decide (t135 < 0) = true := decide_eq_true c9; clear c9
         obtain rfl := Option.some.inj H
         have p5 : 0 ≤ (x7_1 : Int) := of_decide_eq_true z67_
         have q5 : x7_1 < (a0.size : Int) := of_decide_eq_true z67_
         have hx5 := bt_at a0 x7_1
         replace p5 := eq_true p5
         replace q5 := eq_true q5
         go_wp2_with (first | (go_at_call 88; (fail_if_success (have z_ := U_18)); have U_18 := trivial; (with_reducible refine (strings_IndexByte.calls (⟨#[43, 47, 95, 45, 61]⟩ : ByteArray) (bt a0 x7_1) t135 _ ?gw40_ A8.out).mono ?_); (case gw40_ => exact z16_); rintro e w' ⟨rfl, ⟨nd, rfl⟩⟩))
         go_ret
         exact ⟨z64_, z65_⟩
        ·rw [if_neg c9] at H
         have c9b0 : decide (t135 < 0) = false := decide_eq_false c9; clear c9
         have H' := Aside0.mk H
         clear H
         have p5 : 0 ≤ (x7_1 : Int) := of_decide_eq_true z67_
         have q5 : x7_1 < (a0.size : Int) := of_decide_eq_true z67_
         have hx5 := bt_at a0 x7_1
         replace p5 := eq_true p5
         replace q5 := eq_true q5
         go_wp2_with (first | (go_at_call 88; (fail_if_success (have z_ := U_19)); have U_19 := trivial; (with_reducible refine (strings_IndexByte.calls (⟨#[43, 47, 95, 45, 61]⟩ : ByteArray) (bt a0 x7_1) t135 _ ?gw41_ A8.out).mono ?_); (case gw41_ => exact z16_); rintro e w' ⟨rfl, ⟨nd, rfl⟩⟩))
         go_roundg k1
         case measure => have := HK1.out; omega
         case rel => exact ⟨(wrap64 (x7_1 + 1)), z64_, H', ⟨z70_⟩, z65_⟩
       ·rw [if_neg c7] at H
        have c7b0 : decide ((bt a0 x7_1) < 48) = false := decide_eq_false c7; clear c7
        by_cases c10 : (bt a0 x7_1) > 57
        ·rw [if_pos c10] at H
         have c10b0 : decide (57 < (bt a0 x7_1)) = true := decide_eq_true c10; clear c10
         replace H := Option.bind_eq_some_iff.mp H
         obtain ⟨t136, A110, H⟩ := H
         replace H : (if t136 < 0 then (some false) else (source_random.l0 k1 a0 (a0.size : Int) (wrap64 (x7_1 + 1)))) = some r := H
         have A11 := Aside0.mk A110; clear A110
         by_cases c12 : t136 < 0
         ·rw [if_pos c12] at H
          have c12b0 : decide (t136 < 0) = true := decide_eq_true c12; clear c12
          obtain rfl := Option.some.inj H
          have p5 : 0 ≤ (x7_1 : Int) := of_decide_eq_true z67_
          have q5 : x7_1 < (a0.size : Int) := of_decide_eq_true z67_
          have hx5 := bt_at a0 x7_1
          replace p5 := eq_true p5
          replace q5 := eq_true q5
          go_wp2_with (first | (go_at_call 88; (fail_if_success (have z_ := U_20)); have U_20 := trivial; (with_reducible refine (strings_IndexByte.calls (⟨#[43, 47, 95, 45, 61]⟩ : ByteArray) (bt a0 x7_1) t136 _ ?gw42_ A11.out).mono ?_); (case gw42_ => exact z16_); rintro e w' ⟨rfl, ⟨nd, rfl⟩⟩))
          go_ret
          exact ⟨z64_, z65_⟩
         ·rw [if_neg c12] at H
          have c12b0 : decide (t136 < 0) = false := decide_eq_false c12; clear c12
          have H' := Aside0.mk H
          clear H
          have p5 : 0 ≤ (x7_1 : Int) := of_decide_eq_true z67_
          have q5 : x7_1 < (a0.size : Int) := of_decide_eq_true z67_
          have hx5 := bt_at a0 x7_1
          replace p5 := eq_true p5
          replace q5 := eq_true q5
          go_wp2_with (first | (go_at_call 88; (fail_if_success (have z_ := U_21)); have U_21 := trivial; (with_reducible refine (strings_IndexByte.calls (⟨#[43, 47, 95, 45, 61]⟩ : ByteArray) (bt a0 x7_1) t136 _ ?gw43_ A11.out).mono ?_); (case gw43_ => exact z16_); rintro e w' ⟨rfl, ⟨nd, rfl⟩⟩))
          go_roundg k1
          case measure => have := HK1.out; omega
          case rel => exact ⟨(wrap64 (x7_1 + 1)), z64_, H', ⟨z70_⟩, z65_⟩
        ·rw [if_neg c10] at H
         have c10b0 : decide (57 < (bt a0 x7_1)) = false := decide_eq_false c10; clear c10
         have H' := Aside0.mk H
         clear H
         have p5 : 0 ≤ (x7_1 : Int) := of_decide_eq_true z67_
         have q5 : x7_1 < (a0.size : Int) := of_decide_eq_true z67_
         have hx5 := bt_at a0 x7_1
         replace p5 := eq_true p5
         replace q5 := eq_true q5
         go_wp2
         go_roundg k1
         case measure => have := HK1.out; omega
         case rel => exact ⟨(wrap64 (x7_1 + 1)), z64_, H', ⟨z70_⟩, z65_⟩
      ·rw [if_neg c6] at H
       have c6b0 : decide ((Go.bits .or .u8 (bt a0 x7_1) 32) < 97) = false := decide_eq_false c6; clear c6
       by_cases c13 : (Go.bits .or .u8 (bt a0 x7_1) 32) > 122
       ·rw [if_pos c13] at H
        have c13b0 : decide (122 < (Go.bits .or .u8 (bt a0 x7_1) 32)) = true := decide_eq_true c13; clear c13
        by_cases c14 : (bt a0 x7_1) < 48
        ·rw [if_pos c14] at H
         have c14b0 : decide ((bt a0 x7_1) < 48) = true := decide_eq_true c14; clear c14
         replace H := Option.bind_eq_some_iff.mp H
         obtain ⟨t137, A150, H⟩ := H
         replace H : (if t137 < 0 then (some false) else (source_random.l0 k1 a0 (a0.size : Int) (wrap64 (x7_1 + 1)))) = some r := H
         have A15 := Aside0.mk A150; clear A150
         by_cases c16 : t137 < 0
         ·rw [if_pos c16] at H
          have c16b0 : decide (t137 < 0) = true := decide_eq_true c16; clear c16
          obtain rfl := Option.some.inj H
          have p5 : 0 ≤ (x7_1 : Int) := of_decide_eq_true z67_
          have q5 : x7_1 < (a0.size : Int) := of_decide_eq_true z67_
          have hx5 := bt_at a0 x7_1
          replace p5 := eq_true p5
          replace q5 := eq_true q5
          go_wp2_with (first | (go_at_call 88; (fail_if_success (have z_ := U_22)); have U_22 := trivial; (with_reducible refine (strings_IndexByte.calls (⟨#[43, 47, 95, 45, 61]⟩ : ByteArray) (bt a0 x7_1) t137 _ ?gw44_ A15.out).mono ?_); (case gw44_ => exact z16_); rintro e w' ⟨rfl, ⟨nd, rfl⟩⟩))
          go_ret
          exact ⟨z64_, z65_⟩
         ·rw [if_neg c16] at H
          have c16b0 : decide (t137 < 0) = false := decide_eq_false c16; clear c16
          have H' := Aside0.mk H
          clear H
          have p5 : 0 ≤ (x7_1 : Int) := of_decide_eq_true z67_
          have q5 : x7_1 < (a0.size : Int) := of_decide_eq_true z67_
          have hx5 := bt_at a0 x7_1
          replace p5 := eq_true p5
          replace q5 := eq_true q5
          go_wp2_with (first | (go_at_call 88; (fail_if_success (have z_ := U_23)); have U_23 := trivial; (with_reducible refine (strings_IndexByte.calls (⟨#[43, 47, 95, 45, 61]⟩ : ByteArray) (bt a0 x7_1) t137 _ ?gw45_ A15.out).mono ?_); (case gw45_ => exact z16_); rintro e w' ⟨rfl, ⟨nd, rfl⟩⟩))
          go_roundg k1
          case measure => have := HK1.out; omega
          case rel => exact ⟨(wrap64 (x7_1 + 1)), z64_, H', ⟨z70_⟩, z65_⟩
        ·rw [if_neg c14] at H
         have c14b0 : decide ((bt a0 x7_1) < 48) = false := decide_eq_false c14; clear c14
         by_cases c17 : (bt a0 x7_1) > 57
         ·rw [if_pos c17] at H
          have c17b0 : decide (57 < (bt a0 x7_1)) = true := decide_eq_true c17; clear c17
          replace H := Option.bind_eq_some_iff.mp H
          obtain ⟨t138, A180, H⟩ := H
          replace H : (if t138 < 0 then (some false) else (source_random.l0 k1 a0 (a0.size : Int) (wrap64 (x7_1 + 1)))) = some r := H
          have A18 := Aside0.mk A180; clear A180
          by_cases c19 : t138 < 0
          ·rw [if_pos c19] at H
           have c19b0 : decide (t138 < 0) = true := decide_eq_true c19; clear c19
           obtain rfl := Option.some.inj H
           have p5 : 0 ≤ (x7_1 : Int) := of_decide_eq_true z67_
           have q5 : x7_1 < (a0.size : Int) := of_decide_eq_true z67_
           have hx5 := bt_at a0 x7_1
           replace p5 := eq_true p5
           replace q5 := eq_true q5
           go_wp2_with (first | (go_at_call 88; (fail_if_success (have z_ := U_24)); have U_24 := trivial; (with_reducible refine (strings_IndexByte.calls (⟨#[43, 47, 95, 45, 61]⟩ : ByteArray) (bt a0 x7_1) t138 _ ?gw46_ A18.out).mono ?_); (case gw46_ => exact z16_); rintro e w' ⟨rfl, ⟨nd, rfl⟩⟩))
           go_ret
           exact ⟨z64_, z65_⟩
          ·rw [if_neg c19] at H
           have c19b0 : decide (t138 < 0) = false := decide_eq_false c19; clear c19
           have H' := Aside0.mk H
           clear H
           have p5 : 0 ≤ (x7_1 : Int) := of_decide_eq_true z67_
           have q5 : x7_1 < (a0.size : Int) := of_decide_eq_true z67_
           have hx5 := bt_at a0 x7_1
           replace p5 := eq_true p5
           replace q5 := eq_true q5
           go_wp2_with (first | (go_at_call 88; (fail_if_success (have z_ := U_25)); have U_25 := trivial; (with_reducible refine (strings_IndexByte.calls (⟨#[43, 47, 95, 45, 61]⟩ : ByteArray) (bt a0 x7_1) t138 _ ?gw47_ A18.out).mono ?_); (case gw47_ => exact z16_); rintro e w' ⟨rfl, ⟨nd, rfl⟩⟩))
           go_roundg k1
           case measure => have := HK1.out; omega
           case rel => exact ⟨(wrap64 (x7_1 + 1)), z64_, H', ⟨z70_⟩, z65_⟩
         ·rw [if_neg c17] at H
          have c17b0 : decide (57 < (bt a0 x7_1)) = false := decide_eq_false c17; clear c17
          have H' := Aside0.mk H
          clear H
          have p5 : 0 ≤ (x7_1 : Int) := of_decide_eq_true z67_
          have q5 : x7_1 < (a0.size : Int) := of_decide_eq_true z67_
          have hx5 := bt_at a0 x7_1
          replace p5 := eq_true p5
          replace q5 := eq_true q5
          go_wp2
          go_roundg k1
          case measure => have := HK1.out; omega
          case rel => exact ⟨(wrap64 (x7_1 + 1)), z64_, H', ⟨z70_⟩, z65_⟩
       ·rw [if_neg c13] at H
        have c13b0 : decide (122 < (Go.bits .or .u8 (bt a0 x7_1) 32)) = false := decide_eq_false c13; clear c13
        have H' := Aside0.mk H
        clear H
        have p5 : 0 ≤ (x7_1 : Int) := of_decide_eq_true z67_
        have q5 : x7_1 < (a0.size : Int) := of_decide_eq_true z67_
        have hx5 := bt_at a0 x7_1
        replace p5 := eq_true p5
        replace q5 := eq_true q5
        go_wp2
        go_roundg k1
        case measure => have := HK1.out; omega
        case rel => exact ⟨(wrap64 (x7_1 + 1)), z64_, H', ⟨z70_⟩, z65_⟩
     ·rw [if_neg c4] at H
      exact absurd H (by simp)
    ·rw [if_neg c3] at H
     exact absurd H (by simp)
   ·rw [if_neg c2] at H
    have c2b0 : decide (x7_1 < (a0.size : Int)) = false := decide_eq_false c2; clear c2
    obtain rfl := Option.some.inj H
    go_wp2
    go_ret
    exact ⟨z64_, z65_⟩

def pursuivantref11_Goes.f (a0 a1 : ByteArray) : Option (Bool) := if a0.toList = a1.toList then (some true) else (if a0.toList = ([104, 116, 116, 112] : List UInt8) then (some (a1.toList == ([104, 116, 116, 112, 115] : List UInt8))) else (some false))
set_option maxHeartbeats 8000000 in
set_option maxRecDepth 100000 in
theorem pursuivantref11_Goes.calls (a0 a1 : ByteArray) (r : Bool) (w : World) (hG_ : GW w) (h : pursuivantref11_Goes.f a0 a1 = some r) :
  Calls Tryz.prog 55 #[.string a0, .string a1] w fun e w' => e = .returned (.bool r) ∧ Drawn0 w w' := by
 have H : (if a0.toList = a1.toList then (some true) else (if a0.toList = ([104, 116, 116, 112] : List UInt8) then (some (a1.toList == ([104, 116, 116, 112, 115] : List UInt8))) else (some false))) = some r := h
 clear h
 by_cases c3 : a0.toList = a1.toList
 ·rw [if_pos c3] at H
  have c3b0 : (a0.toList == a1.toList) = true := beq_iff_eq.mpr c3
  have c3b1 : (a0.toList != a1.toList) = false := bne_eq_false_iff_eq.mpr c3
  clear c3
  obtain rfl := Option.some.inj H
  go_enter Tryz.func55, Tryz.ntmps55
  go_wp2
  go_ret
  exact ⟨z64_, z65_⟩
 ·rw [if_neg c3] at H
  have c3b0 : (a0.toList == a1.toList) = false := beq_eq_false_iff_ne.mpr c3
  have c3b1 : (a0.toList != a1.toList) = true := bne_iff_ne.mpr c3
  by_cases c4 : a0.toList = ([104, 116, 116, 112] : List UInt8)
  ·rw [if_pos c4] at H
   have c4b0 : (a0.toList == ([104, 116, 116, 112] : List UInt8)) = true := beq_iff_eq.mpr c4
   have c4b1 : (a0.toList != ([104, 116, 116, 112] : List UInt8)) = false := bne_eq_false_iff_eq.mpr c4
   clear c4
   obtain rfl := Option.some.inj H
   go_enter Tryz.func55, Tryz.ntmps55
   go_wp2
   go_ret
   exact ⟨z64_, z65_⟩
  ·rw [if_neg c4] at H
   have c4b0 : (a0.toList == ([104, 116, 116, 112] : List UInt8)) = false := beq_eq_false_iff_ne.mpr c4
   have c4b1 : (a0.toList != ([104, 116, 116, 112] : List UInt8)) = true := bne_iff_ne.mpr c4
   obtain rfl := Option.some.inj H
   go_enter Tryz.func55, Tryz.ntmps55
   go_wp2
   go_ret
   exact ⟨z64_, z65_⟩

end Go.Proofs.YteemgpciheheoaaGreatDoorRRR.Hand
