/- What each Go function here computes, and that its call computes it, over contracts proved by hand (written by this project's xprint.py, which drives the kit's print). -/
import Derived.Test.YtfibkgmbgdaeoaaDoorZ
import Derived.Test.YtfibkgmbgdaeoaaDoorK
import Derived.Test.YtfibkgmbgdaeoaaDoorLib
import Derived.Test.YtfibkgmbgdaeoaaDoorLow
import Derived.Test.YtfibkgmbgdaeoaaDoorFA1
namespace Go.Proofs.YtfibkgmbgdaeoaaDoor.Hand
open Go.RowKit Go.Proofs.YtfibkgmbgdaeoaaDoorW.PrintWords Go.Proofs.YtfibkgmbgdaeoaaDoorW.PrintLast Go.Proofs.YtfibkgmbgdaeoaaDoorW.PrintMore
attribute [local go_sem] Instr.field asAgg max2_int min2_int max_two min_two max_three min_three max_four min_four   -- for this text's walks alone
set_option linter.unusedVariables false
set_option linter.unusedSimpArgs false

attribute [local go_sem high] eqA23
mutual
def host_label.j0 : Nat → ByteArray → Bool → Option (Bool)
 | 0, _, _ => none
 | k + 1, x0, x24 => if x24 = true then (some false) else (host_label.l0 k x0 (x0.size : Int) 0)
def host_label.l0 : Nat → ByteArray → Int → Int → Option (Bool)
 | 0, _, _, _ => none
 | k + 1, x0, x26, x27 => if x27 < x26 then (if 0 ≤ x27 then (if x27 < (x0.size : Int) then (if (bt x0 x27) < 97 then (if (bt x0 x27) < 48 then (if (bt x0 x27) = 45 then (host_label.l0 k x0 x26 (wrap64 (x27 + 1))) else (some false)) else (if (bt x0 x27) > 57 then (if (bt x0 x27) = 45 then (host_label.l0 k x0 x26 (wrap64 (x27 + 1))) else (some false)) else (host_label.l0 k x0 x26 (wrap64 (x27 + 1))))) else (if (bt x0 x27) > 122 then (if (bt x0 x27) < 48 then (if (bt x0 x27) = 45 then (host_label.l0 k x0 x26 (wrap64 (x27 + 1))) else (some false)) else (if (bt x0 x27) > 57 then (if (bt x0 x27) = 45 then (host_label.l0 k x0 x26 (wrap64 (x27 + 1))) else (some false)) else (host_label.l0 k x0 x26 (wrap64 (x27 + 1))))) else (host_label.l0 k x0 x26 (wrap64 (x27 + 1))))) else (none)) else (none)) else (some true)
end
def host_label.f (k : Nat) (a0 : ByteArray) : Option (Bool) := if a0.toList = ([] : List UInt8) then (host_label.j0 k a0 true) else (if (a0.size : Int) > 63 then (host_label.j0 k a0 true) else (if 0 < (a0.size : Int) then (if (bt a0 0) = 45 then (host_label.j0 k a0 true) else (if 0 ≤ (wrap64 ((a0.size : Int) - 1)) then (if (wrap64 ((a0.size : Int) - 1)) < (a0.size : Int) then (host_label.j0 k a0 ((bt a0 (wrap64 ((a0.size : Int) - 1))) == 45)) else (none)) else (none))) else (none)))
set_option maxHeartbeats 8000000 in
set_option maxRecDepth 100000 in
theorem host_label.calls (k : Nat) (a0 : ByteArray) (r : Bool) (w : World) (hG_ : GW w) (h : host_label.f k a0 = some r) :
  Calls Tryd.prog 53 #[.string a0] w fun e w' => e = .returned (.bool r) ∧ Drawn0 w w' := by
 have H : (if a0.toList = ([] : List UInt8) then (host_label.j0 k a0 true) else (if (a0.size : Int) > 63 then (host_label.j0 k a0 true) else (if 0 < (a0.size : Int) then (if (bt a0 0) = 45 then (host_label.j0 k a0 true) else (if 0 ≤ (wrap64 ((a0.size : Int) - 1)) then (if (wrap64 ((a0.size : Int) - 1)) < (a0.size : Int) then (host_label.j0 k a0 ((bt a0 (wrap64 ((a0.size : Int) - 1))) == 45)) else (none)) else (none))) else (none)))) = some r := h
 clear h; have HC2 := Aside0.mk H; clear H
 go_enter Tryd.func53, Tryd.ntmps53
 go_upto_region 1 with (fail)
 go_cut [24] (fun v24 wc => ∃ (kq : Nat) (x24_1 : Bool), v24 = .bool x24_1 ∧ Aside0 (host_label.j0 kq a0 x24_1 = some r) ∧ Aside0 (kq ≤ k) ∧ Drawn0 w wc)
 case first =>
  have H := HC2.out
  clear HC2
  by_cases c3 : a0.toList = ([] : List UInt8)
  ·rw [if_pos c3] at H
   have c3b0 : (a0.toList == ([] : List UInt8)) = true := beq_iff_eq.mpr c3
   try have c3e0 : a0.toList.isEmpty = true := by rw [← nil_beq]; exact c3b0
   have c3b1 : (a0.toList != ([] : List UInt8)) = false := bne_eq_false_iff_eq.mpr c3
   clear c3
   (first | rw [c3b0] | (simp only [i64_w, i32_w]; rw [c3b0]) | rw [c3e0] | skip)
   have H' := Aside0.mk H
   clear H; go_wp2; go_meet
   case rel => exact ⟨_, (true), z59_, H', ⟨z65_⟩, z60_⟩
  ·rw [if_neg c3] at H
   have c3b0 : (a0.toList == ([] : List UInt8)) = false := beq_eq_false_iff_ne.mpr c3
   try have c3e0 : a0.toList.isEmpty = false := by rw [← nil_beq]; exact c3b0
   have c3b1 : (a0.toList != ([] : List UInt8)) = true := bne_iff_ne.mpr c3
   (first | rw [c3b0] | (simp only [i64_w, i32_w]; rw [c3b0]) | rw [c3e0] | skip)
   by_cases c4 : (a0.size : Int) > 63
   ·rw [if_pos c4] at H
    have c4b0 : decide (63 < (a0.size : Int)) = true := decide_eq_true c4
    have c4b1 : decide (63 < a0.size) = true := decide_eq_true (by omega)
    clear c4
    have H' := Aside0.mk H
    clear H; go_wp2; go_meet
    case rel => exact ⟨_, (true), z59_, H', ⟨z65_⟩, z60_⟩
   ·rw [if_neg c4] at H
    have c4b0 : decide (63 < (a0.size : Int)) = false := decide_eq_false c4
    have c4b1 : decide (63 < a0.size) = false := decide_eq_false (by omega)
    clear c4
    by_cases c5 : 0 < (a0.size : Int)
    ·rw [if_pos c5] at H
     have c5b0 : decide (0 < (a0.size : Int)) = true := decide_eq_true c5
     have c5b1 : decide (0 < a0.size) = true := decide_eq_true (by omega)
     clear c5
     by_cases c7 : (bt a0 0) = 45
     ·rw [if_pos c7] at H
      have c7b0 : ((bt a0 0) == 45) = true := beq_iff_eq.mpr c7
      have c7b1 : ((bt a0 0) != 45) = false := bne_eq_false_iff_eq.mpr c7
      clear c7
      have H' := Aside0.mk H
      clear H
      have p6 : 0 ≤ (0 : Int) := (by omega)
      have q6 : 0 < a0.size := (by have : (0 : Int) < (a0.size : Int) := of_decide_eq_true z63_; omega)
      have hx6 : ∀ h : 0 < a0.size, ((a0[0]'h).toNat : Int) = bt a0 0 := bt_at a0 0
      clear p6
      have qi6 : (0 < (a0.size : Int)) = True := eq_true (of_decide_eq_true z63_)
      replace q6 := eq_true q6
      go_wp2; go_meet
      case rel => exact ⟨_, (true), z59_, H', ⟨z65_⟩, z60_⟩
     ·rw [if_neg c7] at H
      have c7b0 : ((bt a0 0) == 45) = false := beq_eq_false_iff_ne.mpr c7
      have c7b1 : ((bt a0 0) != 45) = true := bne_iff_ne.mpr c7
      obtain ⟨ji8, hji8⟩ : ∃ j_ : Int, (wrap64 ((a0.size : Int) - 1)) = j_ := ⟨_, rfl⟩
      replace H : (if 0 ≤ (ji8) then (if (ji8) < (a0.size : Int) then (host_label.j0 k a0 ((bt a0 (ji8)) == 45)) else (none)) else (none)) = some r := by first | (rw [hji8] at H; exact H) | (simp only [hji8] at H ⊢; exact H)
      have hji8w : (IntKind.i64.wrap ((a0.size : Int) - 1)) = ji8 := (i64_w _).trans hji8
      by_cases c9 : 0 ≤ (ji8)
      ·rw [if_pos c9] at H
       have c9b0 : decide (0 ≤ (ji8)) = true := decide_eq_true c9; clear c9
       by_cases c10 : (ji8) < (a0.size : Int)
       ·rw [if_pos c10] at H
        have c10b0 : decide ((ji8) < (a0.size : Int)) = true := decide_eq_true c10; clear c10
        have H' := Aside0.mk H
        clear H
        have p6 : 0 ≤ (0 : Int) := (by omega)
        have q6 : 0 < a0.size := (by have : (0 : Int) < (a0.size : Int) := of_decide_eq_true z63_; omega)
        have hx6 : ∀ h : 0 < a0.size, ((a0[0]'h).toNat : Int) = bt a0 0 := bt_at a0 0
        clear p6
        have qi6 : (0 < (a0.size : Int)) = True := eq_true (of_decide_eq_true z63_)
        replace q6 := eq_true q6
        have p11 : 0 ≤ ((ji8) : Int) := of_decide_eq_true z63_
        have q11 : (ji8) < (a0.size : Int) := of_decide_eq_true z63_
        have hx11 := bt_at a0 (ji8)
        replace p11 := eq_true p11
        replace q11 := eq_true q11
        go_wp2; go_meet
        case rel => exact ⟨_, (((bt a0 (ji8)) == 45)), (by first | rfl | (simp [nil_bne, nil_beq]; done) | (simp; done) | (simp only [← hji8] <;> (first | rfl | simp)) | (simp [*]; done)), H', ⟨z65_⟩, z60_⟩
       ·rw [if_neg c10] at H
        exact absurd H (by simp)
      ·rw [if_neg c9] at H
       exact absurd H (by simp)
    ·rw [if_neg c5] at H
     exact absurd H (by simp)
 case rest =>
  clear HC2
  obtain ⟨kq, x24_1, rfl, HA, HJ1, ⟨mc1, rfl⟩⟩ := hcut
  cases kq with
  | zero => exact absurd HA.out (by simp [host_label.j0])
  | succ kj1 =>
   have H := HA.out
   clear HA
   simp only [host_label.j0] at H
   by_cases c12 : x24_1 = true
   ·subst c12
    have H1 : (some false) = some r := by rw [if_pos rfl] at H; exact H
    clear H
    have H := H1
    clear H1
    obtain rfl := Option.some.inj H
    go_wp2
    go_ret
    exact ⟨z59_, z60_⟩
   ·replace c12 := Bool.eq_false_iff.mpr c12
    subst c12
    have H1 : (host_label.l0 kj1 a0 (a0.size : Int) 0) = some r := by rw [if_neg (show ¬ (false = true) by decide)] at H; exact H
    clear H
    have H := H1
    clear H1
    have H' := Aside0.mk H
    clear H; go_wp2
    go_loopg [27] kj1 (fun kq v27 w' => ∃ (x27_2 : Int), v27 = .int .i64 x27_2 ∧ Aside0 (host_label.l0 kq a0 (a0.size : Int) x27_2 = some r) ∧ Aside0 (kq ≤ kj1) ∧ Drawn0 w w')
    case atStart => exact ⟨(0), z59_, H', ⟨Nat.le_refl _⟩, z60_⟩
    case round =>
     clear H'; (try clear c12)
     obtain ⟨x27_2, rfl, HA, HK2, ⟨m2, rfl⟩⟩ := hrel
     cases gk with
     | zero => exact absurd HA.out (by simp [host_label.l0])
     | succ k2 =>
      have H := HA.out
      clear HA
      simp only [host_label.l0] at H
      by_cases c13 : x27_2 < (a0.size : Int)
      ·rw [if_pos c13] at H
       have c13b0 : decide (x27_2 < (a0.size : Int)) = true := decide_eq_true c13; clear c13
       by_cases c14 : 0 ≤ x27_2
       ·rw [if_pos c14] at H
        have c14b0 : decide (0 ≤ x27_2) = true := decide_eq_true c14; clear c14
        by_cases c15 : x27_2 < (a0.size : Int)
        ·rw [if_pos c15] at H
         have c15b0 : decide (x27_2 < (a0.size : Int)) = true := decide_eq_true c15; clear c15
         by_cases c17 : (bt a0 x27_2) < 97
         ·rw [if_pos c17] at H
          have c17b0 : decide ((bt a0 x27_2) < 97) = true := decide_eq_true c17; clear c17
          by_cases c18 : (bt a0 x27_2) < 48
          ·rw [if_pos c18] at H
           have c18b0 : decide ((bt a0 x27_2) < 48) = true := decide_eq_true c18; clear c18
           by_cases c19 : (bt a0 x27_2) = 45
           ·rw [if_pos c19] at H
            have c19b0 : ((bt a0 x27_2) == 45) = true := beq_iff_eq.mpr c19
            have c19b1 : ((bt a0 x27_2) != 45) = false := bne_eq_false_iff_eq.mpr c19
            clear c19
            have H' := Aside0.mk H
            clear H
            have p16 : 0 ≤ (x27_2 : Int) := of_decide_eq_true z63_
            have q16 : x27_2 < (a0.size : Int) := of_decide_eq_true z63_
            have hx16 := bt_at a0 x27_2
            replace p16 := eq_true p16
            replace q16 := eq_true q16
            go_wp2
            go_roundg k2
            case measure => have := HJ1.out; have := HK2.out; omega
            case rel => exact ⟨(wrap64 (x27_2 + 1)), z59_, H', ⟨z64_⟩, z60_⟩
           ·rw [if_neg c19] at H
            have c19b0 : ((bt a0 x27_2) == 45) = false := beq_eq_false_iff_ne.mpr c19
            have c19b1 : ((bt a0 x27_2) != 45) = true := bne_iff_ne.mpr c19
            obtain rfl := Option.some.inj H
            have p16 : 0 ≤ (x27_2 : Int) := of_decide_eq_true z63_
            have q16 : x27_2 < (a0.size : Int) := of_decide_eq_true z63_
            have hx16 := bt_at a0 x27_2
            replace p16 := eq_true p16
            replace q16 := eq_true q16
            go_wp2
            go_ret
            exact ⟨z59_, z60_⟩
          ·rw [if_neg c18] at H
           have c18b0 : decide ((bt a0 x27_2) < 48) = false := decide_eq_false c18; clear c18
           by_cases c20 : (bt a0 x27_2) > 57
           ·rw [if_pos c20] at H
            have c20b0 : decide (57 < (bt a0 x27_2)) = true := decide_eq_true c20; clear c20
            by_cases c21 : (bt a0 x27_2) = 45
            ·rw [if_pos c21] at H
             have c21b0 : ((bt a0 x27_2) == 45) = true := beq_iff_eq.mpr c21
             have c21b1 : ((bt a0 x27_2) != 45) = false := bne_eq_false_iff_eq.mpr c21
             clear c21
             have H' := Aside0.mk H
             clear H
             have p16 : 0 ≤ (x27_2 : Int) := of_decide_eq_true z63_
             have q16 : x27_2 < (a0.size : Int) := of_decide_eq_true z63_
             have hx16 := bt_at a0 x27_2
             replace p16 := eq_true p16
             replace q16 := eq_true q16
             go_wp2
             go_roundg k2
             case measure => have := HJ1.out; have := HK2.out; omega
             case rel => exact ⟨(wrap64 (x27_2 + 1)), z59_, H', ⟨z64_⟩, z60_⟩
            ·rw [if_neg c21] at H
             have c21b0 : ((bt a0 x27_2) == 45) = false := beq_eq_false_iff_ne.mpr c21
             have c21b1 : ((bt a0 x27_2) != 45) = true := bne_iff_ne.mpr c21
             obtain rfl := Option.some.inj H
             have p16 : 0 ≤ (x27_2 : Int) := of_decide_eq_true z63_
             have q16 : x27_2 < (a0.size : Int) := of_decide_eq_true z63_
             have hx16 := bt_at a0 x27_2
             replace p16 := eq_true p16
             replace q16 := eq_true q16
             go_wp2
             go_ret
             exact ⟨z59_, z60_⟩
           ·rw [if_neg c20] at H
            have c20b0 : decide (57 < (bt a0 x27_2)) = false := decide_eq_false c20; clear c20
            have H' := Aside0.mk H
            clear H
            have p16 : 0 ≤ (x27_2 : Int) := of_decide_eq_true z63_
            have q16 : x27_2 < (a0.size : Int) := of_decide_eq_true z63_
            have hx16 := bt_at a0 x27_2
            replace p16 := eq_true p16
            replace q16 := eq_true q16
            go_wp2
            go_roundg k2
            case measure => have := HJ1.out; have := HK2.out; omega
            case rel => exact ⟨(wrap64 (x27_2 + 1)), z59_, H', ⟨z64_⟩, z60_⟩
         ·rw [if_neg c17] at H
          have c17b0 : decide ((bt a0 x27_2) < 97) = false := decide_eq_false c17; clear c17
          by_cases c22 : (bt a0 x27_2) > 122
          ·rw [if_pos c22] at H
           have c22b0 : decide (122 < (bt a0 x27_2)) = true := decide_eq_true c22; clear c22
           by_cases c23 : (bt a0 x27_2) < 48
           ·rw [if_pos c23] at H
            have c23b0 : decide ((bt a0 x27_2) < 48) = true := decide_eq_true c23; clear c23
            by_cases c24 : (bt a0 x27_2) = 45
            ·rw [if_pos c24] at H
             have c24b0 : ((bt a0 x27_2) == 45) = true := beq_iff_eq.mpr c24
             have c24b1 : ((bt a0 x27_2) != 45) = false := bne_eq_false_iff_eq.mpr c24
             clear c24
             have H' := Aside0.mk H
             clear H
             have p16 : 0 ≤ (x27_2 : Int) := of_decide_eq_true z63_
             have q16 : x27_2 < (a0.size : Int) := of_decide_eq_true z63_
             have hx16 := bt_at a0 x27_2
             replace p16 := eq_true p16
             replace q16 := eq_true q16
             go_wp2
             go_roundg k2
             case measure => have := HJ1.out; have := HK2.out; omega
             case rel => exact ⟨(wrap64 (x27_2 + 1)), z59_, H', ⟨z64_⟩, z60_⟩
            ·rw [if_neg c24] at H
             have c24b0 : ((bt a0 x27_2) == 45) = false := beq_eq_false_iff_ne.mpr c24
             have c24b1 : ((bt a0 x27_2) != 45) = true := bne_iff_ne.mpr c24
             obtain rfl := Option.some.inj H
             have p16 : 0 ≤ (x27_2 : Int) := of_decide_eq_true z63_
             have q16 : x27_2 < (a0.size : Int) := of_decide_eq_true z63_
             have hx16 := bt_at a0 x27_2
             replace p16 := eq_true p16
             replace q16 := eq_true q16
             go_wp2
             go_ret
             exact ⟨z59_, z60_⟩
           ·rw [if_neg c23] at H
            have c23b0 : decide ((bt a0 x27_2) < 48) = false := decide_eq_false c23; clear c23
            by_cases c25 : (bt a0 x27_2) > 57
            ·rw [if_pos c25] at H
             have c25b0 : decide (57 < (bt a0 x27_2)) = true := decide_eq_true c25; clear c25
             by_cases c26 : (bt a0 x27_2) = 45
             ·rw [if_pos c26] at H
              have c26b0 : ((bt a0 x27_2) == 45) = true := beq_iff_eq.mpr c26
              have c26b1 : ((bt a0 x27_2) != 45) = false := bne_eq_false_iff_eq.mpr c26
              clear c26
              have H' := Aside0.mk H
              clear H
              have p16 : 0 ≤ (x27_2 : Int) := of_decide_eq_true z63_
              have q16 : x27_2 < (a0.size : Int) := of_decide_eq_true z63_
              have hx16 := bt_at a0 x27_2
              replace p16 := eq_true p16
              replace q16 := eq_true q16
              go_wp2
              go_roundg k2
              case measure => have := HJ1.out; have := HK2.out; omega
              case rel => exact ⟨(wrap64 (x27_2 + 1)), z59_, H', ⟨z64_⟩, z60_⟩
             ·rw [if_neg c26] at H
              have c26b0 : ((bt a0 x27_2) == 45) = false := beq_eq_false_iff_ne.mpr c26
              have c26b1 : ((bt a0 x27_2) != 45) = true := bne_iff_ne.mpr c26
              obtain rfl := Option.some.inj H
              have p16 : 0 ≤ (x27_2 : Int) := of_decide_eq_true z63_
              have q16 : x27_2 < (a0.size : Int) := of_decide_eq_true z63_
              have hx16 := bt_at a0 x27_2
              replace p16 := eq_true p16
              replace q16 := eq_true q16
              go_wp2
              go_ret
              exact ⟨z59_, z60_⟩
            ·rw [if_neg c25] at H
             have c25b0 : decide (57 < (bt a0 x27_2)) = false := decide_eq_false c25; clear c25
             have H' := Aside0.mk H
             clear H
             have p16 : 0 ≤ (x27_2 : Int) := of_decide_eq_true z63_
             have q16 : x27_2 < (a0.size : Int) := of_decide_eq_true z63_
             have hx16 := bt_at a0 x27_2
             replace p16 := eq_true p16
             replace q16 := eq_true q16
             go_wp2
             go_roundg k2
             case measure => have := HJ1.out; have := HK2.out; omega
             case rel => exact ⟨(wrap64 (x27_2 + 1)), z59_, H', ⟨z64_⟩, z60_⟩
          ·rw [if_neg c22] at H
           have c22b0 : decide (122 < (bt a0 x27_2)) = false := decide_eq_false c22; clear c22
           have H' := Aside0.mk H
           clear H
           have p16 : 0 ≤ (x27_2 : Int) := of_decide_eq_true z63_
           have q16 : x27_2 < (a0.size : Int) := of_decide_eq_true z63_
           have hx16 := bt_at a0 x27_2
           replace p16 := eq_true p16
           replace q16 := eq_true q16
           go_wp2
           go_roundg k2
           case measure => have := HJ1.out; have := HK2.out; omega
           case rel => exact ⟨(wrap64 (x27_2 + 1)), z59_, H', ⟨z64_⟩, z60_⟩
        ·rw [if_neg c15] at H
         exact absurd H (by simp)
       ·rw [if_neg c14] at H
        exact absurd H (by simp)
      ·rw [if_neg c13] at H
       have c13b0 : decide (x27_2 < (a0.size : Int)) = false := decide_eq_false c13; clear c13
       obtain rfl := Option.some.inj H
       go_wp2
       go_ret
       exact ⟨z59_, z60_⟩

def host_Default.f (a0 : ByteArray) : Option (Int) := if a0.toList = ([104, 116, 116, 112] : List UInt8) then (some 80) else (if a0.toList = ([104, 116, 116, 112, 115] : List UInt8) then (some 443) else (some 0))
set_option maxHeartbeats 8000000 in
set_option maxRecDepth 100000 in
theorem host_Default.calls (a0 : ByteArray) (r : Int) (w : World) (hG_ : GW w) (h : host_Default.f a0 = some r) :
  Calls Tryd.prog 13 #[.string a0] w fun e w' => e = .returned (.int .i64 r) ∧ Drawn0 w w' := by
 have H : (if a0.toList = ([104, 116, 116, 112] : List UInt8) then (some 80) else (if a0.toList = ([104, 116, 116, 112, 115] : List UInt8) then (some 443) else (some 0))) = some r := h
 clear h
 by_cases c2 : a0.toList = ([104, 116, 116, 112] : List UInt8)
 ·rw [if_pos c2] at H
  have c2b0 : (a0.toList == ([104, 116, 116, 112] : List UInt8)) = true := beq_iff_eq.mpr c2
  have c2b1 : (a0.toList != ([104, 116, 116, 112] : List UInt8)) = false := bne_eq_false_iff_eq.mpr c2
  clear c2
  obtain rfl := Option.some.inj H
  go_enter Tryd.func13, Tryd.ntmps13
  go_wp2
  go_ret
  exact ⟨z59_, z60_⟩
 ·rw [if_neg c2] at H
  have c2b0 : (a0.toList == ([104, 116, 116, 112] : List UInt8)) = false := beq_eq_false_iff_ne.mpr c2
  have c2b1 : (a0.toList != ([104, 116, 116, 112] : List UInt8)) = true := bne_iff_ne.mpr c2
  by_cases c3 : a0.toList = ([104, 116, 116, 112, 115] : List UInt8)
  ·rw [if_pos c3] at H
   have c3b0 : (a0.toList == ([104, 116, 116, 112, 115] : List UInt8)) = true := beq_iff_eq.mpr c3
   have c3b1 : (a0.toList != ([104, 116, 116, 112, 115] : List UInt8)) = false := bne_eq_false_iff_eq.mpr c3
   clear c3
   obtain rfl := Option.some.inj H
   go_enter Tryd.func13, Tryd.ntmps13
   go_wp2
   go_ret
   exact ⟨z59_, z60_⟩
  ·rw [if_neg c3] at H
   have c3b0 : (a0.toList == ([104, 116, 116, 112, 115] : List UInt8)) = false := beq_eq_false_iff_ne.mpr c3
   have c3b1 : (a0.toList != ([104, 116, 116, 112, 115] : List UInt8)) = true := bne_iff_ne.mpr c3
   obtain rfl := Option.some.inj H
   go_enter Tryd.func13, Tryd.ntmps13
   go_wp2
   go_ret
   exact ⟨z59_, z60_⟩

def pursuivantref05_letter.f (a0 : Int) : Option (Bool) := if a0 ≥ 97 then (if a0 ≤ 122 then (some true) else (if a0 ≥ 48 then (if a0 ≤ 57 then (some true) else (some (a0 == 45))) else (some (a0 == 45)))) else (if a0 ≥ 48 then (if a0 ≤ 57 then (some true) else (some (a0 == 45))) else (some (a0 == 45)))
set_option maxHeartbeats 8000000 in
set_option maxRecDepth 100000 in
theorem pursuivantref05_letter.calls (a0 : Int) (r : Bool) (w : World) (hG_ : GW w) (h : pursuivantref05_letter.f a0 = some r) :
  Calls Tryd.prog 37 #[.int .u8 a0] w fun e w' => e = .returned (.bool r) ∧ Drawn0 w w' := by
 have H : (if a0 ≥ 97 then (if a0 ≤ 122 then (some true) else (if a0 ≥ 48 then (if a0 ≤ 57 then (some true) else (some (a0 == 45))) else (some (a0 == 45)))) else (if a0 ≥ 48 then (if a0 ≤ 57 then (some true) else (some (a0 == 45))) else (some (a0 == 45)))) = some r := h
 clear h
 by_cases c2 : a0 ≥ 97
 ·rw [if_pos c2] at H
  have c2b0 : decide (97 ≤ a0) = true := decide_eq_true c2; clear c2
  by_cases c3 : a0 ≤ 122
  ·rw [if_pos c3] at H
   have c3b0 : decide (a0 ≤ 122) = true := decide_eq_true c3; clear c3
   obtain rfl := Option.some.inj H
   go_enter Tryd.func37, Tryd.ntmps37
   go_wp2
   go_ret
   exact ⟨z59_, z60_⟩
  ·rw [if_neg c3] at H
   have c3b0 : decide (a0 ≤ 122) = false := decide_eq_false c3; clear c3
   by_cases c4 : a0 ≥ 48
   ·rw [if_pos c4] at H
    have c4b0 : decide (48 ≤ a0) = true := decide_eq_true c4; clear c4
    by_cases c5 : a0 ≤ 57
    ·rw [if_pos c5] at H
     have c5b0 : decide (a0 ≤ 57) = true := decide_eq_true c5; clear c5
     obtain rfl := Option.some.inj H
     go_enter Tryd.func37, Tryd.ntmps37
     go_wp2
     go_ret
     exact ⟨z59_, z60_⟩
    ·rw [if_neg c5] at H
     have c5b0 : decide (a0 ≤ 57) = false := decide_eq_false c5; clear c5
     obtain rfl := Option.some.inj H
     go_enter Tryd.func37, Tryd.ntmps37
     go_wp2
     go_ret
     exact ⟨z59_, z60_⟩
   ·rw [if_neg c4] at H
    have c4b0 : decide (48 ≤ a0) = false := decide_eq_false c4; clear c4
    obtain rfl := Option.some.inj H
    go_enter Tryd.func37, Tryd.ntmps37
    go_wp2
    go_ret
    exact ⟨z59_, z60_⟩
 ·rw [if_neg c2] at H
  have c2b0 : decide (97 ≤ a0) = false := decide_eq_false c2; clear c2
  by_cases c6 : a0 ≥ 48
  ·rw [if_pos c6] at H
   have c6b0 : decide (48 ≤ a0) = true := decide_eq_true c6; clear c6
   by_cases c7 : a0 ≤ 57
   ·rw [if_pos c7] at H
    have c7b0 : decide (a0 ≤ 57) = true := decide_eq_true c7; clear c7
    obtain rfl := Option.some.inj H
    go_enter Tryd.func37, Tryd.ntmps37
    go_wp2
    go_ret
    exact ⟨z59_, z60_⟩
   ·rw [if_neg c7] at H
    have c7b0 : decide (a0 ≤ 57) = false := decide_eq_false c7; clear c7
    obtain rfl := Option.some.inj H
    go_enter Tryd.func37, Tryd.ntmps37
    go_wp2
    go_ret
    exact ⟨z59_, z60_⟩
  ·rw [if_neg c6] at H
   have c6b0 : decide (48 ≤ a0) = false := decide_eq_false c6; clear c6
   obtain rfl := Option.some.inj H
   go_enter Tryd.func37, Tryd.ntmps37
   go_wp2
   go_ret
   exact ⟨z59_, z60_⟩

mutual
def pursuivantref05_Good.l0 : Nat → ByteArray → Int → Int → Option (Bool)
 | 0, _, _, _ => none
 | k + 1, x0, x3, x4 => if x4 ≤ (x0.size : Int) then (if x4 < (x0.size : Int) then (if 0 ≤ x4 then (pursuivantref05_Good.j1 k x0 x3 x4 ((bt x0 x4) != 46)) else (none)) else (pursuivantref05_Good.j1 k x0 x3 x4 false)) else (some true)
def pursuivantref05_Good.j1 : Nat → ByteArray → Int → Int → Bool → Option (Bool)
 | 0, _, _, _, _ => none
 | k + 1, x0, x3, x4, x23 => if x23 = true then (if 0 ≤ x4 then (if x4 < (x0.size : Int) then ((pursuivantref05_letter.f (bt x0 x4)).bind fun t101 => (if t101 = true then (pursuivantref05_Good.l0 k x0 x3 (wrap64 (x4 + 1))) else (some false))) else (none)) else (none)) else (if x4 = x3 then (some false) else (if (wrap64 (x4 - x3)) > 63 then (some false) else (if 0 ≤ x3 then (if x3 < (x0.size : Int) then (if (bt x0 x3) = 45 then (some false) else (if 0 ≤ (wrap64 (x4 - 1)) then (if (wrap64 (x4 - 1)) < (x0.size : Int) then (if (bt x0 (wrap64 (x4 - 1))) = 45 then (some false) else (pursuivantref05_Good.l0 k x0 (wrap64 (x4 + 1)) (wrap64 (x4 + 1)))) else (none)) else (none))) else (none)) else (none))))
end
def pursuivantref05_Good.f (k : Nat) (a0 : ByteArray) : Option (Bool) := if (a0.size : Int) > 253 then (some false) else (pursuivantref05_Good.l0 k a0 0 0)
theorem pursuivantref05_Good.mono_l : ∀ k, (∀ y0 y1 y2, LeO (pursuivantref05_Good.l0 k y0 y1 y2) (pursuivantref05_Good.l0 (k + 1) y0 y1 y2)) ∧ (∀ y0 y1 y2 y3, LeO (pursuivantref05_Good.j1 k y0 y1 y2 y3) (pursuivantref05_Good.j1 (k + 1) y0 y1 y2 y3))
 | 0 => ⟨fun _ _ _ r h => by simp [pursuivantref05_Good.l0] at h, fun _ _ _ _ r h => by simp [pursuivantref05_Good.j1] at h⟩
 | k + 1 => by
  obtain ⟨ih0, ih1⟩ := pursuivantref05_Good.mono_l k
  refine ⟨?_, ?_⟩
  ·intro y0 y1 y2
   unfold pursuivantref05_Good.l0
   repeat' first
   | (with_reducible exact ih0 _ _ _)
   | (with_reducible exact ih1 _ _ _ _)
   | (with_reducible exact LeO.refl _)
   | (with_reducible exact LeO.none _)
   | (with_reducible refine LeO.ite ?_ ?_)
   | (with_reducible refine LeO.bind ?_ (fun _ => ?_))
   | exact ih0 _ _ _
   | exact ih1 _ _ _ _
   | exact LeO.none _
   | refine LeO.ite ?_ ?_
   | refine LeO.bind ?_ (fun _ => ?_)
  ·intro y0 y1 y2 y3
   unfold pursuivantref05_Good.j1
   repeat' first
   | (with_reducible exact ih0 _ _ _)
   | (with_reducible exact ih1 _ _ _ _)
   | (with_reducible exact LeO.refl _)
   | (with_reducible exact LeO.none _)
   | (with_reducible refine LeO.ite ?_ ?_)
   | (with_reducible refine LeO.bind ?_ (fun _ => ?_))
   | exact ih0 _ _ _
   | exact ih1 _ _ _ _
   | exact LeO.none _
   | refine LeO.ite ?_ ?_
   | refine LeO.bind ?_ (fun _ => ?_)
theorem pursuivantref05_Good.mono : ∀ a0 k, LeO (pursuivantref05_Good.f k a0) (pursuivantref05_Good.f (k + 1) a0) := by
 intro a0 k
 obtain ⟨ih0, ih1⟩ := pursuivantref05_Good.mono_l k
 unfold pursuivantref05_Good.f
 repeat' first
   | (with_reducible exact ih0 _ _ _)
   | (with_reducible exact ih1 _ _ _ _)
   | (with_reducible exact LeO.refl _)
   | (with_reducible exact LeO.none _)
   | (with_reducible refine LeO.ite ?_ ?_)
   | (with_reducible refine LeO.bind ?_ (fun _ => ?_))
   | exact ih0 _ _ _
   | exact ih1 _ _ _ _
   | exact LeO.none _
   | refine LeO.ite ?_ ?_
   | refine LeO.bind ?_ (fun _ => ?_)
set_option maxHeartbeats 8000000 in
set_option maxRecDepth 100000 in
theorem pursuivantref05_Good.calls (k : Nat) (a0 : ByteArray) (r : Bool) (w : World) (hG_ : GW w) (h : pursuivantref05_Good.f k a0 = some r) :
  Calls Tryd.prog 19 #[.string a0] w fun e w' => e = .returned (.bool r) ∧ Drawn0 w w' := by
 have H : (if (a0.size : Int) > 253 then (some false) else (pursuivantref05_Good.l0 k a0 0 0)) = some r := h
 clear h
 by_cases c2 : (a0.size : Int) > 253
 ·rw [if_pos c2] at H
  have c2b0 : decide (253 < (a0.size : Int)) = true := decide_eq_true c2
  have c2b1 : decide (253 < a0.size) = true := decide_eq_true (by omega)
  clear c2
  obtain rfl := Option.some.inj H
  go_enter Tryd.func19, Tryd.ntmps19
  go_wp2
  go_ret
  exact ⟨z59_, z60_⟩
 ·rw [if_neg c2] at H
  have c2b0 : decide (253 < (a0.size : Int)) = false := decide_eq_false c2
  have c2b1 : decide (253 < a0.size) = false := decide_eq_false (by omega)
  clear c2
  have H' := Aside0.mk H
  clear H
  go_enter Tryd.func19, Tryd.ntmps19
  go_wp2
  go_loopg [3, 4] k (fun kq v3 v4 w' => ∃ (x3_1 x4_1 : Int), v3 = .int .i64 x3_1 ∧ v4 = .int .i64 x4_1 ∧ Aside0 (pursuivantref05_Good.l0 kq a0 x3_1 x4_1 = some r) ∧ Aside0 (kq ≤ k) ∧ Drawn0 w w')
  case atStart => exact ⟨(0), (0), z59_, z59_, H', ⟨Nat.le_refl _⟩, z60_⟩
  case round =>
   clear H'; (try clear c2); (try clear c2b0); (try clear c2b1)
   obtain ⟨x3_1, x4_1, rfl, rfl, HA, HK1, ⟨m1, rfl⟩⟩ := hrel
   cases gk with
   | zero => exact absurd HA.out (by simp [pursuivantref05_Good.l0])
   | succ k1 =>
    have H := HA.out
    clear HA
    simp only [pursuivantref05_Good.l0] at H
    by_cases c3 : x4_1 ≤ (a0.size : Int)
    ·rw [if_pos c3] at H
     have c3b0 : decide (x4_1 ≤ (a0.size : Int)) = true := decide_eq_true c3; clear c3; have HC4 := Aside0.mk H; clear H
     go_upto_region 7 with (fail)
     go_cut [23] (fun v23 wc => ∃ (kq : Nat) (x23_3 : Bool), v23 = .bool x23_3 ∧ Aside0 (pursuivantref05_Good.j1 kq a0 x3_1 x4_1 x23_3 = some r) ∧ Aside0 (kq ≤ k1) ∧ Drawn0 w wc)
     case first =>
      have H := HC4.out
      clear HC4
      by_cases c5 : x4_1 < (a0.size : Int)
      ·rw [if_pos c5] at H
       have c5b0 : decide (x4_1 < (a0.size : Int)) = true := decide_eq_true c5; clear c5
       (first | rw [c5b0] | (simp only [i64_w, i32_w]; rw [c5b0]) | skip)
       by_cases c6 : 0 ≤ x4_1
       ·rw [if_pos c6] at H
        have c6b0 : decide (0 ≤ x4_1) = true := decide_eq_true c6; clear c6
        have H' := Aside0.mk H
        clear H
        have p7 : 0 ≤ (x4_1 : Int) := of_decide_eq_true z63_
        have q7 : x4_1 < (a0.size : Int) := of_decide_eq_true z63_
        have hx7 := bt_at a0 x4_1
        replace p7 := eq_true p7
        replace q7 := eq_true q7
        go_wp2; go_meet
        case rel => exact ⟨_, (((bt a0 x4_1) != 46)), z59_, H', ⟨by have := HK1.out; first | omega | exact Nat.le_refl _⟩, z60_⟩
       ·rw [if_neg c6] at H
        exact absurd H (by simp)
      ·rw [if_neg c5] at H
       have c5b0 : decide (x4_1 < (a0.size : Int)) = false := decide_eq_false c5; clear c5
       (first | rw [c5b0] | (simp only [i64_w, i32_w]; rw [c5b0]) | skip)
       have H' := Aside0.mk H
       clear H; go_wp2; go_meet
       case rel => exact ⟨_, (false), z59_, H', ⟨by have := HK1.out; first | omega | exact Nat.le_refl _⟩, z60_⟩
     case rest =>
      clear HC4; (try clear c2); (try clear c2b0); (try clear c2b1); (try clear c3); (try clear c3b0)
      obtain ⟨kq, x23_3, rfl, HA, HJ3, ⟨mc3, rfl⟩⟩ := hcut
      cases kq with
      | zero => exact absurd HA.out (by simp [pursuivantref05_Good.j1])
      | succ kj3 =>
       have H := HA.out
       clear HA
       simp only [pursuivantref05_Good.j1] at H
       by_cases c8 : x23_3 = true
       ·subst c8
        have H1 : (if 0 ≤ x4_1 then (if x4_1 < (a0.size : Int) then ((pursuivantref05_letter.f (bt a0 x4_1)).bind fun t101 => (if t101 = true then (pursuivantref05_Good.l0 kj3 a0 x3_1 (wrap64 (x4_1 + 1))) else (some false))) else (none)) else (none)) = some r := by rw [if_pos rfl] at H; exact H
        clear H
        have H := H1
        clear H1
        by_cases c9 : 0 ≤ x4_1
        ·rw [if_pos c9] at H
         have c9b0 : decide (0 ≤ x4_1) = true := decide_eq_true c9; clear c9
         by_cases c10 : x4_1 < (a0.size : Int)
         ·rw [if_pos c10] at H
          have c10b0 : decide (x4_1 < (a0.size : Int)) = true := decide_eq_true c10; clear c10
          replace H := Option.bind_eq_some_iff.mp H
          obtain ⟨t101, A120, H⟩ := H
          replace H : (if t101 = true then (pursuivantref05_Good.l0 kj3 a0 x3_1 (wrap64 (x4_1 + 1))) else (some false)) = some r := H
          have A12 := Aside0.mk A120; clear A120
          by_cases c13 : t101 = true
          ·subst c13
           have H1 : (pursuivantref05_Good.l0 kj3 a0 x3_1 (wrap64 (x4_1 + 1))) = some r := by rw [if_pos rfl] at H; exact H
           clear H
           have H := H1
           clear H1
           have H' := Aside0.mk H
           clear H
           have p11 : 0 ≤ (x4_1 : Int) := of_decide_eq_true z63_
           have q11 : x4_1 < (a0.size : Int) := of_decide_eq_true z63_
           have hx11 := bt_at a0 x4_1
           replace p11 := eq_true p11
           replace q11 := eq_true q11
           go_wp2_with (first | ((with_reducible refine gate_callee (f := 37) rfl ?_); refine goesL_ (some 27) rfl rfl Tryd.func37 (by kernel_rfl) rfl #[.int .u8 (bt a0 x4_1)] rfl z39_ ?_; (with_reducible refine (pursuivantref05_letter.calls (bt a0 x4_1) true _ ?gw1_ A12.out).mono ?_); (case gw1_ => exact z14_); rintro e w' ⟨rfl, ⟨nd, rfl⟩⟩; refine ⟨_, rfl, ?_⟩))
           go_roundg kj3
           case measure => have := HK1.out; have := HJ3.out; omega
           case rel => exact ⟨(x3_1), (wrap64 (x4_1 + 1)), z59_, z59_, H', ⟨by have := HK1.out; have := HJ3.out; omega⟩, z60_⟩
          ·replace c13 := Bool.eq_false_iff.mpr c13
           subst c13
           have H1 : (some false) = some r := by rw [if_neg (show ¬ (false = true) by decide)] at H; exact H
           clear H
           have H := H1
           clear H1
           obtain rfl := Option.some.inj H
           have p11 : 0 ≤ (x4_1 : Int) := of_decide_eq_true z63_
           have q11 : x4_1 < (a0.size : Int) := of_decide_eq_true z63_
           have hx11 := bt_at a0 x4_1
           replace p11 := eq_true p11
           replace q11 := eq_true q11
           go_wp2_with (first | ((with_reducible refine gate_callee (f := 37) rfl ?_); refine goesL_ (some 27) rfl rfl Tryd.func37 (by kernel_rfl) rfl #[.int .u8 (bt a0 x4_1)] rfl z39_ ?_; (with_reducible refine (pursuivantref05_letter.calls (bt a0 x4_1) false _ ?gw2_ A12.out).mono ?_); (case gw2_ => exact z14_); rintro e w' ⟨rfl, ⟨nd, rfl⟩⟩; refine ⟨_, rfl, ?_⟩))
           go_ret
           exact ⟨z59_, z60_⟩
         ·rw [if_neg c10] at H
          exact absurd H (by simp)
        ·rw [if_neg c9] at H
         exact absurd H (by simp)
       ·replace c8 := Bool.eq_false_iff.mpr c8
        subst c8
        have H1 : (if x4_1 = x3_1 then (some false) else (if (wrap64 (x4_1 - x3_1)) > 63 then (some false) else (if 0 ≤ x3_1 then (if x3_1 < (a0.size : Int) then (if (bt a0 x3_1) = 45 then (some false) else (if 0 ≤ (wrap64 (x4_1 - 1)) then (if (wrap64 (x4_1 - 1)) < (a0.size : Int) then (if (bt a0 (wrap64 (x4_1 - 1))) = 45 then (some false) else (pursuivantref05_Good.l0 kj3 a0 (wrap64 (x4_1 + 1)) (wrap64 (x4_1 + 1)))) else (none)) else (none))) else (none)) else (none)))) = some r := by rw [if_neg (show ¬ (false = true) by decide)] at H; exact H
        clear H
        have H := H1
        clear H1
        by_cases c14 : x4_1 = x3_1
        ·rw [if_pos c14] at H
         have c14b0 : (x4_1 == x3_1) = true := beq_iff_eq.mpr c14
         have c14b1 : (x4_1 != x3_1) = false := bne_eq_false_iff_eq.mpr c14
         clear c14
         obtain rfl := Option.some.inj H
         go_wp2
         go_ret
         exact ⟨z59_, z60_⟩
        ·rw [if_neg c14] at H
         have c14b0 : (x4_1 == x3_1) = false := beq_eq_false_iff_ne.mpr c14
         have c14b1 : (x4_1 != x3_1) = true := bne_iff_ne.mpr c14
         by_cases c15 : (wrap64 (x4_1 - x3_1)) > 63
         ·rw [if_pos c15] at H
          have c15b0 : decide (63 < (wrap64 (x4_1 - x3_1))) = true := decide_eq_true c15; clear c15
          obtain rfl := Option.some.inj H
          go_wp2
          go_ret
          exact ⟨z59_, z60_⟩
         ·rw [if_neg c15] at H
          have c15b0 : decide (63 < (wrap64 (x4_1 - x3_1))) = false := decide_eq_false c15; clear c15
          by_cases c16 : 0 ≤ x3_1
          ·rw [if_pos c16] at H
           have c16b0 : decide (0 ≤ x3_1) = true := decide_eq_true c16; clear c16
           by_cases c17 : x3_1 < (a0.size : Int)
           ·rw [if_pos c17] at H
            have c17b0 : decide (x3_1 < (a0.size : Int)) = true := decide_eq_true c17; clear c17
            by_cases c19 : (bt a0 x3_1) = 45
            ·rw [if_pos c19] at H
             have c19b0 : ((bt a0 x3_1) == 45) = true := beq_iff_eq.mpr c19
             have c19b1 : ((bt a0 x3_1) != 45) = false := bne_eq_false_iff_eq.mpr c19
             clear c19
             obtain rfl := Option.some.inj H
             have p18 : 0 ≤ (x3_1 : Int) := of_decide_eq_true z63_
             have q18 : x3_1 < (a0.size : Int) := of_decide_eq_true z63_
             have hx18 := bt_at a0 x3_1
             replace p18 := eq_true p18
             replace q18 := eq_true q18
             go_wp2
             go_ret
             exact ⟨z59_, z60_⟩
            ·rw [if_neg c19] at H
             have c19b0 : ((bt a0 x3_1) == 45) = false := beq_eq_false_iff_ne.mpr c19
             have c19b1 : ((bt a0 x3_1) != 45) = true := bne_iff_ne.mpr c19
             obtain ⟨ji20, hji20⟩ : ∃ j_ : Int, (wrap64 (x4_1 - 1)) = j_ := ⟨_, rfl⟩
             replace H : (if 0 ≤ (ji20) then (if (ji20) < (a0.size : Int) then (if (bt a0 (ji20)) = 45 then (some false) else (pursuivantref05_Good.l0 kj3 a0 (wrap64 (x4_1 + 1)) (wrap64 (x4_1 + 1)))) else (none)) else (none)) = some r := by first | (rw [hji20] at H; exact H) | (simp only [hji20] at H ⊢; exact H)
             have hji20w : (IntKind.i64.wrap (x4_1 - 1)) = ji20 := (i64_w _).trans hji20
             by_cases c21 : 0 ≤ (ji20)
             ·rw [if_pos c21] at H
              have c21b0 : decide (0 ≤ (ji20)) = true := decide_eq_true c21; clear c21
              by_cases c22 : (ji20) < (a0.size : Int)
              ·rw [if_pos c22] at H
               have c22b0 : decide ((ji20) < (a0.size : Int)) = true := decide_eq_true c22; clear c22
               by_cases c24 : (bt a0 (ji20)) = 45
               ·rw [if_pos c24] at H
                have c24b0 : ((bt a0 (ji20)) == 45) = true := beq_iff_eq.mpr c24
                have c24b1 : ((bt a0 (ji20)) != 45) = false := bne_eq_false_iff_eq.mpr c24
                clear c24
                obtain rfl := Option.some.inj H
                have p18 : 0 ≤ (x3_1 : Int) := of_decide_eq_true z63_
                have q18 : x3_1 < (a0.size : Int) := of_decide_eq_true z63_
                have hx18 := bt_at a0 x3_1
                replace p18 := eq_true p18
                replace q18 := eq_true q18
                have p23 : 0 ≤ ((ji20) : Int) := of_decide_eq_true z63_
                have q23 : (ji20) < (a0.size : Int) := of_decide_eq_true z63_
                have hx23 := bt_at a0 (ji20)
                replace p23 := eq_true p23
                replace q23 := eq_true q23
                go_wp2
                go_ret
                exact ⟨by first | rfl | (simp [nil_bne, nil_beq]; done) | (simp; done) | (simp only [← hji20] <;> (first | rfl | simp)) | (simp [*]; done), z60_⟩
               ·rw [if_neg c24] at H
                have c24b0 : ((bt a0 (ji20)) == 45) = false := beq_eq_false_iff_ne.mpr c24
                have c24b1 : ((bt a0 (ji20)) != 45) = true := bne_iff_ne.mpr c24
                have H' := Aside0.mk H
                clear H
                have p18 : 0 ≤ (x3_1 : Int) := of_decide_eq_true z63_
                have q18 : x3_1 < (a0.size : Int) := of_decide_eq_true z63_
                have hx18 := bt_at a0 x3_1
                replace p18 := eq_true p18
                replace q18 := eq_true q18
                have p23 : 0 ≤ ((ji20) : Int) := of_decide_eq_true z63_
                have q23 : (ji20) < (a0.size : Int) := of_decide_eq_true z63_
                have hx23 := bt_at a0 (ji20)
                replace p23 := eq_true p23
                replace q23 := eq_true q23
                go_wp2
                go_roundg kj3
                case measure => have := HK1.out; have := HJ3.out; omega
                case rel => exact ⟨(wrap64 (x4_1 + 1)), (wrap64 (x4_1 + 1)), z59_, z59_, H', ⟨by have := HK1.out; have := HJ3.out; omega⟩, z60_⟩
              ·rw [if_neg c22] at H
               exact absurd H (by simp)
             ·rw [if_neg c21] at H
              exact absurd H (by simp)
           ·rw [if_neg c17] at H
            exact absurd H (by simp)
          ·rw [if_neg c16] at H
           exact absurd H (by simp)
    ·rw [if_neg c3] at H
     have c3b0 : decide (x4_1 ≤ (a0.size : Int)) = false := decide_eq_false c3; clear c3
     obtain rfl := Option.some.inj H
     go_wp2
     go_ret
     exact ⟨z59_, z60_⟩

def pursuivantref05_Default.f (a0 : ByteArray) : Option (Int) := if a0.toList = ([104, 116, 116, 112] : List UInt8) then (some 80) else (if a0.toList = ([104, 116, 116, 112, 115] : List UInt8) then (some 443) else (some 0))
set_option maxHeartbeats 8000000 in
set_option maxRecDepth 100000 in
theorem pursuivantref05_Default.calls (a0 : ByteArray) (r : Int) (w : World) (hG_ : GW w) (h : pursuivantref05_Default.f a0 = some r) :
  Calls Tryd.prog 17 #[.string a0] w fun e w' => e = .returned (.int .i64 r) ∧ Drawn0 w w' := by
 have H : (if a0.toList = ([104, 116, 116, 112] : List UInt8) then (some 80) else (if a0.toList = ([104, 116, 116, 112, 115] : List UInt8) then (some 443) else (some 0))) = some r := h
 clear h
 by_cases c2 : a0.toList = ([104, 116, 116, 112] : List UInt8)
 ·rw [if_pos c2] at H
  have c2b0 : (a0.toList == ([104, 116, 116, 112] : List UInt8)) = true := beq_iff_eq.mpr c2
  have c2b1 : (a0.toList != ([104, 116, 116, 112] : List UInt8)) = false := bne_eq_false_iff_eq.mpr c2
  clear c2
  obtain rfl := Option.some.inj H
  go_enter Tryd.func17, Tryd.ntmps17
  go_wp2
  go_ret
  exact ⟨z59_, z60_⟩
 ·rw [if_neg c2] at H
  have c2b0 : (a0.toList == ([104, 116, 116, 112] : List UInt8)) = false := beq_eq_false_iff_ne.mpr c2
  have c2b1 : (a0.toList != ([104, 116, 116, 112] : List UInt8)) = true := bne_iff_ne.mpr c2
  by_cases c3 : a0.toList = ([104, 116, 116, 112, 115] : List UInt8)
  ·rw [if_pos c3] at H
   have c3b0 : (a0.toList == ([104, 116, 116, 112, 115] : List UInt8)) = true := beq_iff_eq.mpr c3
   have c3b1 : (a0.toList != ([104, 116, 116, 112, 115] : List UInt8)) = false := bne_eq_false_iff_eq.mpr c3
   clear c3
   obtain rfl := Option.some.inj H
   go_enter Tryd.func17, Tryd.ntmps17
   go_wp2
   go_ret
   exact ⟨z59_, z60_⟩
  ·rw [if_neg c3] at H
   have c3b0 : (a0.toList == ([104, 116, 116, 112, 115] : List UInt8)) = false := beq_eq_false_iff_ne.mpr c3
   have c3b1 : (a0.toList != ([104, 116, 116, 112, 115] : List UInt8)) = true := bne_iff_ne.mpr c3
   obtain rfl := Option.some.inj H
   go_enter Tryd.func17, Tryd.ntmps17
   go_wp2
   go_ret
   exact ⟨z59_, z60_⟩

def url_clean.l0 : Nat → ByteArray → ByteArray → Int → Int → Option (Bool)
 | 0, _, _, _, _ => none
 | k + 1, x0, x1, x7, x8 => if x8 < x7 then (if 0 ≤ x8 then (if x8 < (x0.size : Int) then (if (bt x0 x8) < 33 then (some false) else (if (bt x0 x8) > 126 then (some false) else ((strings_IndexByte.f x1 (bt x0 x8)).bind fun t102 => (if t102 ≥ 0 then (some false) else (url_clean.l0 k x0 x1 x7 (wrap64 (x8 + 1))))))) else (none)) else (none)) else (some true)
def url_clean.f (k : Nat) (a0 a1 : ByteArray) : Option (Bool) := url_clean.l0 k a0 a1 (a0.size : Int) 0
set_option maxHeartbeats 8000000 in
set_option maxRecDepth 100000 in
theorem url_clean.calls (k : Nat) (a0 a1 : ByteArray) (r : Bool) (w : World) (hG_ : GW w) (h : url_clean.f k a0 a1 = some r) :
  Calls Tryd.prog 54 #[.string a0, .string a1] w fun e w' => e = .returned (.bool r) ∧ Drawn0 w w' := by
 have H : (url_clean.l0 k a0 a1 (a0.size : Int) 0) = some r := h
 clear h
 have H' := Aside0.mk H
 clear H
 go_enter Tryd.func54, Tryd.ntmps54
 go_wp2
 go_loopg [8] k (fun kq v8 w' => ∃ (x8_1 : Int), v8 = .int .i64 x8_1 ∧ Aside0 (url_clean.l0 kq a0 a1 (a0.size : Int) x8_1 = some r) ∧ Aside0 (kq ≤ k) ∧ Drawn0 w w')
 case atStart => exact ⟨(0), z59_, H', ⟨Nat.le_refl _⟩, z60_⟩
 case round =>
  clear H'
  obtain ⟨x8_1, rfl, HA, HK1, ⟨m1, rfl⟩⟩ := hrel
  cases gk with
  | zero => exact absurd HA.out (by simp [url_clean.l0])
  | succ k1 =>
   have H := HA.out
   clear HA
   simp only [url_clean.l0] at H
   by_cases c3 : x8_1 < (a0.size : Int)
   ·rw [if_pos c3] at H
    have c3b0 : decide (x8_1 < (a0.size : Int)) = true := decide_eq_true c3; clear c3
    by_cases c4 : 0 ≤ x8_1
    ·rw [if_pos c4] at H
     have c4b0 : decide (0 ≤ x8_1) = true := decide_eq_true c4; clear c4
     by_cases c5 : x8_1 < (a0.size : Int)
     ·rw [if_pos c5] at H
      have c5b0 : decide (x8_1 < (a0.size : Int)) = true := decide_eq_true c5; clear c5
      by_cases c7 : (bt a0 x8_1) < 33
      ·rw [if_pos c7] at H
       have c7b0 : decide ((bt a0 x8_1) < 33) = true := decide_eq_true c7; clear c7
       obtain rfl := Option.some.inj H
       have p6 : 0 ≤ (x8_1 : Int) := of_decide_eq_true z63_
       have q6 : x8_1 < (a0.size : Int) := of_decide_eq_true z63_
       have hx6 := bt_at a0 x8_1
       replace p6 := eq_true p6
       replace q6 := eq_true q6
       go_wp2
       go_ret
       exact ⟨z59_, z60_⟩
      ·rw [if_neg c7] at H
       have c7b0 : decide ((bt a0 x8_1) < 33) = false := decide_eq_false c7; clear c7
       by_cases c9 : (bt a0 x8_1) > 126
       ·rw [if_pos c9] at H
        have c9b0 : decide (126 < (bt a0 x8_1)) = true := decide_eq_true c9; clear c9
        obtain rfl := Option.some.inj H
        have p6 : 0 ≤ (x8_1 : Int) := of_decide_eq_true z63_
        have q6 : x8_1 < (a0.size : Int) := of_decide_eq_true z63_
        have hx6 := bt_at a0 x8_1
        replace p6 := eq_true p6
        replace q6 := eq_true q6
        have p8 : 0 ≤ (x8_1 : Int) := of_decide_eq_true z63_
        have q8 : x8_1 < (a0.size : Int) := of_decide_eq_true z63_
        have hx8 := bt_at a0 x8_1
        replace p8 := eq_true p8
        replace q8 := eq_true q8
        go_wp2
        go_ret
        exact ⟨z59_, z60_⟩
       ·rw [if_neg c9] at H
        have c9b0 : decide (126 < (bt a0 x8_1)) = false := decide_eq_false c9; clear c9
        replace H := Option.bind_eq_some_iff.mp H
        obtain ⟨t102, A110, H⟩ := H
        replace H : (if t102 ≥ 0 then (some false) else (url_clean.l0 k1 a0 a1 (a0.size : Int) (wrap64 (x8_1 + 1)))) = some r := H
        have A11 := Aside0.mk A110; clear A110
        by_cases c12 : t102 ≥ 0
        ·rw [if_pos c12] at H
         have c12b0 : decide (0 ≤ t102) = true := decide_eq_true c12; clear c12
         obtain rfl := Option.some.inj H
         have p6 : 0 ≤ (x8_1 : Int) := of_decide_eq_true z63_
         have q6 : x8_1 < (a0.size : Int) := of_decide_eq_true z63_
         have hx6 := bt_at a0 x8_1
         replace p6 := eq_true p6
         replace q6 := eq_true q6
         have p8 : 0 ≤ (x8_1 : Int) := of_decide_eq_true z63_
         have q8 : x8_1 < (a0.size : Int) := of_decide_eq_true z63_
         have hx8 := bt_at a0 x8_1
         replace p8 := eq_true p8
         replace q8 := eq_true q8
         have p10 : 0 ≤ (x8_1 : Int) := of_decide_eq_true z63_
         have q10 : x8_1 < (a0.size : Int) := of_decide_eq_true z63_
         have hx10 := bt_at a0 x8_1
         replace p10 := eq_true p10
         replace q10 := eq_true q10
         go_wp2_with (first | (go_at_call 33; (fail_if_success (have z_ := U_1)); have U_1 := trivial; (with_reducible refine (strings_IndexByte.calls a1 (bt a0 x8_1) t102 _ ?gw3_ A11.out).mono ?_); (case gw3_ => exact z14_); rintro e w' ⟨rfl, ⟨nd, rfl⟩⟩))
         go_ret
         exact ⟨z59_, z60_⟩
        ·rw [if_neg c12] at H
         have c12b0 : decide (0 ≤ t102) = false := decide_eq_false c12; clear c12
         have H' := Aside0.mk H
         clear H
         have p6 : 0 ≤ (x8_1 : Int) := of_decide_eq_true z63_
         have q6 : x8_1 < (a0.size : Int) := of_decide_eq_true z63_
         have hx6 := bt_at a0 x8_1
         replace p6 := eq_true p6
         replace q6 := eq_true q6
         have p8 : 0 ≤ (x8_1 : Int) := of_decide_eq_true z63_
         have q8 : x8_1 < (a0.size : Int) := of_decide_eq_true z63_
         have hx8 := bt_at a0 x8_1
         replace p8 := eq_true p8
         replace q8 := eq_true q8
         have p10 : 0 ≤ (x8_1 : Int) := of_decide_eq_true z63_
         have q10 : x8_1 < (a0.size : Int) := of_decide_eq_true z63_
         have hx10 := bt_at a0 x8_1
         replace p10 := eq_true p10
         replace q10 := eq_true q10
         go_wp2_with (first | (go_at_call 33; (fail_if_success (have z_ := U_2)); have U_2 := trivial; (with_reducible refine (strings_IndexByte.calls a1 (bt a0 x8_1) t102 _ ?gw4_ A11.out).mono ?_); (case gw4_ => exact z14_); rintro e w' ⟨rfl, ⟨nd, rfl⟩⟩))
         go_roundg k1
         case measure => have := HK1.out; omega
         case rel => exact ⟨(wrap64 (x8_1 + 1)), z59_, H', ⟨z66_⟩, z60_⟩
     ·rw [if_neg c5] at H
      exact absurd H (by simp)
    ·rw [if_neg c4] at H
     exact absurd H (by simp)
   ·rw [if_neg c3] at H
    have c3b0 : decide (x8_1 < (a0.size : Int)) = false := decide_eq_false c3; clear c3
    obtain rfl := Option.some.inj H
    go_wp2
    go_ret
    exact ⟨z59_, z60_⟩

mutual
def url_text.j0 : Nat → ByteArray → ByteArray → ByteArray → ByteArray → Int → ByteArray → Bool → ByteArray → Bool → ByteArray → Option (ByteArray)
 | 0, _, _, _, _, _, _, _, _, _, _ => none
 | k + 1, x3, x104000, x104001, x104002, x104003, x104004, x104005, x104006, x104007, x104008 => if x3.size + x104002.size ≤ 9223372036854775807 then (if x104003 = 0 then (url_text.j1 k (x3 ++ x104002) x104000 x104001 x104002 x104003 x104004 x104005 x104006 x104007 x104008) else ((strconv_Itoa.f x104003).bind fun t104 => (if 1 + t104.size ≤ 9223372036854775807 then (if (x3 ++ x104002).size + ((⟨#[58]⟩ : ByteArray) ++ t104).size ≤ 9223372036854775807 then (url_text.j1 k ((x3 ++ x104002) ++ ((⟨#[58]⟩ : ByteArray) ++ t104)) x104000 x104001 x104002 x104003 x104004 x104005 x104006 x104007 x104008) else (none)) else (none)))) else (none)
def url_text.j1 : Nat → ByteArray → ByteArray → ByteArray → ByteArray → Int → ByteArray → Bool → ByteArray → Bool → ByteArray → Option (ByteArray)
 | 0, _, _, _, _, _, _, _, _, _, _ => none
 | k + 1, x3, x104000, x104001, x104002, x104003, x104004, x104005, x104006, x104007, x104008 => if x3.size + x104004.size ≤ 9223372036854775807 then (if x104005 = true then (if 1 + x104006.size ≤ 9223372036854775807 then (if (x3 ++ x104004).size + ((⟨#[63]⟩ : ByteArray) ++ x104006).size ≤ 9223372036854775807 then (if x104007 = true then (if 1 + x104008.size ≤ 9223372036854775807 then (if ((x3 ++ x104004) ++ ((⟨#[63]⟩ : ByteArray) ++ x104006)).size + ((⟨#[35]⟩ : ByteArray) ++ x104008).size ≤ 9223372036854775807 then (some (((x3 ++ x104004) ++ ((⟨#[63]⟩ : ByteArray) ++ x104006)) ++ ((⟨#[35]⟩ : ByteArray) ++ x104008))) else (none)) else (none)) else (some ((x3 ++ x104004) ++ ((⟨#[63]⟩ : ByteArray) ++ x104006)))) else (none)) else (none)) else (if x104007 = true then (if 1 + x104008.size ≤ 9223372036854775807 then (if (x3 ++ x104004).size + ((⟨#[35]⟩ : ByteArray) ++ x104008).size ≤ 9223372036854775807 then (some ((x3 ++ x104004) ++ ((⟨#[35]⟩ : ByteArray) ++ x104008))) else (none)) else (none)) else (some (x3 ++ x104004)))) else (none)
end
def url_text.f (k : Nat) (a0_0 a0_1 a0_2 : ByteArray) (a0_3 : Int) (a0_4 : ByteArray) (a0_5 : Bool) (a0_6 : ByteArray) (a0_7 : Bool) (a0_8 : ByteArray) : Option (ByteArray) := if a0_0.size + 3 ≤ 9223372036854775807 then (if a0_1.toList = ([] : List UInt8) then (url_text.j0 k (a0_0 ++ (⟨#[58, 47, 47]⟩ : ByteArray)) a0_0 a0_1 a0_2 a0_3 a0_4 a0_5 a0_6 a0_7 a0_8) else (if a0_1.size + 1 ≤ 9223372036854775807 then (if (a0_0 ++ (⟨#[58, 47, 47]⟩ : ByteArray)).size + (a0_1 ++ (⟨#[64]⟩ : ByteArray)).size ≤ 9223372036854775807 then (url_text.j0 k ((a0_0 ++ (⟨#[58, 47, 47]⟩ : ByteArray)) ++ (a0_1 ++ (⟨#[64]⟩ : ByteArray))) a0_0 a0_1 a0_2 a0_3 a0_4 a0_5 a0_6 a0_7 a0_8) else (none)) else (none))) else (none)
set_option maxHeartbeats 8000000 in
set_option maxRecDepth 100000 in
theorem url_text.calls (k : Nat) (a0_0 a0_1 a0_2 : ByteArray) (a0_3 : Int) (a0_4 : ByteArray) (a0_5 : Bool) (a0_6 : ByteArray) (a0_7 : Bool) (a0_8 r : ByteArray) (w : World) (hG_ : GW w) (h : url_text.f k a0_0 a0_1 a0_2 a0_3 a0_4 a0_5 a0_6 a0_7 a0_8 = some r) :
  Calls Tryd.prog 55 #[.agg #[.string a0_0, .string a0_1, .string a0_2, .int .i64 a0_3, .string a0_4, .bool a0_5, .string a0_6, .bool a0_7, .string a0_8]] w fun e w' => e = .returned (.string r) ∧ Below w.heap.size w w' := by
 have hu31 := Tryd.underlying31
 have HB := Aside0.mk (Below.refl w.heap.size w)
 have H : (if a0_0.size + 3 ≤ 9223372036854775807 then (if a0_1.toList = ([] : List UInt8) then (url_text.j0 k (a0_0 ++ (⟨#[58, 47, 47]⟩ : ByteArray)) a0_0 a0_1 a0_2 a0_3 a0_4 a0_5 a0_6 a0_7 a0_8) else (if a0_1.size + 1 ≤ 9223372036854775807 then (if (a0_0 ++ (⟨#[58, 47, 47]⟩ : ByteArray)).size + (a0_1 ++ (⟨#[64]⟩ : ByteArray)).size ≤ 9223372036854775807 then (url_text.j0 k ((a0_0 ++ (⟨#[58, 47, 47]⟩ : ByteArray)) ++ (a0_1 ++ (⟨#[64]⟩ : ByteArray))) a0_0 a0_1 a0_2 a0_3 a0_4 a0_5 a0_6 a0_7 a0_8) else (none)) else (none))) else (none)) = some r := h
 clear h
 by_cases c2 : a0_0.size + 3 ≤ 9223372036854775807
 ·rw [if_pos c2] at H
  have c2b0 := eq_true c2; have c2b1 : decide (a0_0.size + 3 ≤ 9223372036854775807) = true := decide_eq_true c2
  try have c2b2 : (9223372036854775807 < a0_0.size + 3) = False := eq_false (Nat.not_lt.2 c2)
  have HC3 := Aside0.mk H; clear H
  go_enter Tryd.func55, Tryd.ntmps55
  go_upto_if 9 with (first | ((with_reducible refine gate_dst (N := 1) rfl ?_); refine box_event ?hg (N := 1) ?hd (cs := #[.string a0_0, .string a0_1, .string a0_2, .int .i64 a0_3, .string a0_4, .bool a0_5, .string a0_6, .bool a0_7, .string a0_8]) (t := 31) ?hr ?_; (case hd => rfl); (case hg => rfl); (case hr => first | (go_simp; done) | (go_simp; rfl)); intro gb103 hg w4 hbox hb; have n0_ := Aside0.mk (below_step z40_ hb); have n1_ := Aside0.mk (hbox); have n2_ := Aside0.mk ((by rw [hg]; exact (below_size z40_) : w.heap.size ≤ gb103)); have n3_ := Aside0.mk ((by rw [hg]; exact (below_size z40_) : w.heap.size ≤ gb103)); clear HB; have HB := n0_; have BK103 := n1_; have GW103 := n2_; have GE103 := n3_; clear n0_ n1_ n2_ n3_; clear hb hbox hg; have hcz5_0 : w4.cell? ⟨gb103, 0, none⟩ = some (.string a0_0) := (blk_cell BK103.out 0).trans rfl; have hcz5_1 : w4.cell? ⟨gb103, 1, none⟩ = some (.string a0_1) := (blk_cell BK103.out 1).trans rfl; have hcz5_2 : w4.cell? ⟨gb103, 2, none⟩ = some (.string a0_2) := (blk_cell BK103.out 2).trans rfl; have hcz5_3 : w4.cell? ⟨gb103, 3, none⟩ = some (.int .i64 a0_3) := (blk_cell BK103.out 3).trans rfl; have hcz5_4 : w4.cell? ⟨gb103, 4, none⟩ = some (.string a0_4) := (blk_cell BK103.out 4).trans rfl; have hcz5_5 : w4.cell? ⟨gb103, 5, none⟩ = some (.bool a0_5) := (blk_cell BK103.out 5).trans rfl; have hcz5_6 : w4.cell? ⟨gb103, 6, none⟩ = some (.string a0_6) := (blk_cell BK103.out 6).trans rfl; have hcz5_7 : w4.cell? ⟨gb103, 7, none⟩ = some (.bool a0_7) := (blk_cell BK103.out 7).trans rfl; have hcz5_8 : w4.cell? ⟨gb103, 8, none⟩ = some (.string a0_8) := (blk_cell BK103.out 8).trans rfl; have hfz5_0 := blk_frozen BK103.out 0; have hfz5_1 := blk_frozen BK103.out 1; have hfz5_2 := blk_frozen BK103.out 2; have hfz5_3 := blk_frozen BK103.out 3; have hfz5_4 := blk_frozen BK103.out 4; have hfz5_5 := blk_frozen BK103.out 5; have hfz5_6 := blk_frozen BK103.out 6; have hfz5_7 := blk_frozen BK103.out 7; have hfz5_8 := blk_frozen BK103.out 8))
  (try simp only [Act.put, List.setIfInBounds_toArray, List.set_cons_zero, List.set_cons_succ])
  go_cut [3] (fun v3 wc => ∃ (kq : Nat) (x3_2 : ByteArray), v3 = .string x3_2 ∧ Aside0 (url_text.j0 kq x3_2 a0_0 a0_1 a0_2 a0_3 a0_4 a0_5 a0_6 a0_7 a0_8 = some r) ∧ Aside0 (kq ≤ k) ∧ Aside0 (wc.heap[gb103]? = some (.cells #[.string a0_0, .string a0_1, .string a0_2, .int .i64 a0_3, .string a0_4, .bool a0_5, .string a0_6, .bool a0_7, .string a0_8] 31 (0, 0))) ∧ Aside0 (Below w.heap.size w wc))
  case first =>
   have H := HC3.out
   clear HC3
   by_cases c6 : a0_1.toList = ([] : List UInt8)
   ·rw [if_pos c6] at H
    have c6b0 : (a0_1.toList == ([] : List UInt8)) = true := beq_iff_eq.mpr c6
    try have c6e0 : a0_1.toList.isEmpty = true := by rw [← nil_beq]; exact c6b0
    have c6b1 : (a0_1.toList != ([] : List UInt8)) = false := bne_eq_false_iff_eq.mpr c6
    clear c6
    (first | rw [c6b0] | (simp only [i64_w, i32_w]; rw [c6b0]) | rw [c6e0] | skip)
    have H' := Aside0.mk H
    clear H; go_wp2; go_meet
    case rel => exact ⟨_, (a0_0 ++ (⟨#[58, 47, 47]⟩ : ByteArray)), z59_, H', ⟨z65_⟩, ⟨z42_⟩, ⟨z24_⟩⟩
   ·rw [if_neg c6] at H
    have c6b0 : (a0_1.toList == ([] : List UInt8)) = false := beq_eq_false_iff_ne.mpr c6
    try have c6e0 : a0_1.toList.isEmpty = false := by rw [← nil_beq]; exact c6b0
    have c6b1 : (a0_1.toList != ([] : List UInt8)) = true := bne_iff_ne.mpr c6
    (first | rw [c6b0] | (simp only [i64_w, i32_w]; rw [c6b0]) | rw [c6e0] | skip)
    by_cases c7 : a0_1.size + 1 ≤ 9223372036854775807
    ·rw [if_pos c7] at H
     have c7b0 := eq_true c7; have c7b1 : decide (a0_1.size + 1 ≤ 9223372036854775807) = true := decide_eq_true c7
     try have c7b2 : (9223372036854775807 < a0_1.size + 1) = False := eq_false (Nat.not_lt.2 c7)
     try have c7c0 : (9223372036854775807 ≤ a0_1.size) = False := eq_false (by omega)
     try have c7c1 : (a0_1.size < 9223372036854775807) = True := eq_true (by omega)
     by_cases c8 : (a0_0 ++ (⟨#[58, 47, 47]⟩ : ByteArray)).size + (a0_1 ++ (⟨#[64]⟩ : ByteArray)).size ≤ 9223372036854775807
     ·rw [if_pos c8] at H
      have c8b0 := eq_true c8
      try have c8m : ((a0_0.size + 3) + (a0_1.size + 1) ≤ 9223372036854775807) = True := by first | exact c8b0 | (have h_ := c8; simp only [ByteArray.size_append, Int.natCast_add] at h_; exact eq_true h_)
      have c8b1 : decide ((a0_0 ++ (⟨#[58, 47, 47]⟩ : ByteArray)).size + (a0_1 ++ (⟨#[64]⟩ : ByteArray)).size ≤ 9223372036854775807) = true := decide_eq_true c8
      try have c8b1n : decide ((a0_0.size + 3) + (a0_1.size + 1) ≤ 9223372036854775807) = true := by first | exact c8b1 | (have h_ := c8b1; simp only [ByteArray.size_append, Int.natCast_add] at h_; exact h_)
      try have c8b2 : (9223372036854775807 < (a0_0 ++ (⟨#[58, 47, 47]⟩ : ByteArray)).size + (a0_1 ++ (⟨#[64]⟩ : ByteArray)).size) = False := eq_false (Nat.not_lt.2 c8)
      try have c8b2n : (9223372036854775807 < (a0_0.size + 3) + (a0_1.size + 1)) = False := by first | exact c8b2 | (have h_ := c8b2; simp only [ByteArray.size_append, Int.natCast_add] at h_; exact h_)
      have H' := Aside0.mk H
      clear H; obtain ⟨hcz9_0, hcz9_1, hcz9_2, hcz9_3, hcz9_4, hcz9_5, hcz9_6, hcz9_7, hcz9_8⟩ := blkc9_ BK103.out; obtain ⟨hfz9_0, hfz9_1, hfz9_2, hfz9_3, hfz9_4, hfz9_5, hfz9_6, hfz9_7, hfz9_8⟩ := blkf9_ BK103.out; go_wp2; go_meet
      case rel => exact ⟨_, ((a0_0 ++ (⟨#[58, 47, 47]⟩ : ByteArray)) ++ (a0_1 ++ (⟨#[64]⟩ : ByteArray))), z59_, H', ⟨z65_⟩, ⟨z42_⟩, ⟨z24_⟩⟩
     ·rw [if_neg c8] at H
      exact absurd H (by simp)
    ·rw [if_neg c7] at H
     exact absurd H (by simp)
  case rest =>
   clear HC3; (try clear c2); (try clear c2b0); (try clear c2b1); (try clear c2b2); (try clear hcz5_0 hcz5_1 hcz5_2 hcz5_3 hcz5_4 hcz5_5 hcz5_6 hcz5_7 hcz5_8); (try clear hfz5_0 hfz5_1 hfz5_2 hfz5_3 hfz5_4 hfz5_5 hfz5_6 hfz5_7 hfz5_8)
   obtain ⟨kq, x3_2, rfl, HA, HJ2, BK103, HB⟩ := hcut
   cases kq with
   | zero => exact absurd HA.out (by simp [url_text.j0])
   | succ kj2 =>
    have H := HA.out
    clear HA
    simp only [url_text.j0] at H
    by_cases c10 : x3_2.size + a0_2.size ≤ 9223372036854775807
    ·rw [if_pos c10] at H
     have c10b0 := eq_true c10; have c10b1 : decide (x3_2.size + a0_2.size ≤ 9223372036854775807) = true := decide_eq_true c10
     try have c10b2 : (9223372036854775807 < x3_2.size + a0_2.size) = False := eq_false (Nat.not_lt.2 c10)
     have HC11 := Aside0.mk H; clear H; obtain ⟨hcz12_0, hcz12_1, hcz12_2, hcz12_3, hcz12_4, hcz12_5, hcz12_6, hcz12_7, hcz12_8⟩ := blkc9_ BK103.out; obtain ⟨hfz12_0, hfz12_1, hfz12_2, hfz12_3, hfz12_4, hfz12_5, hfz12_6, hfz12_7, hfz12_8⟩ := blkf9_ BK103.out
     go_upto_if 21 with (fail)
     go_cut [3] (fun v3 wc => ∃ (kq : Nat) (x3_10 : ByteArray), v3 = .string x3_10 ∧ Aside0 (url_text.j1 kq x3_10 a0_0 a0_1 a0_2 a0_3 a0_4 a0_5 a0_6 a0_7 a0_8 = some r) ∧ Aside0 (kq ≤ kj2) ∧ Aside0 (wc.heap[gb103]? = some (.cells #[.string a0_0, .string a0_1, .string a0_2, .int .i64 a0_3, .string a0_4, .bool a0_5, .string a0_6, .bool a0_7, .string a0_8] 31 (0, 0))) ∧ Aside0 (Below w.heap.size w wc))
     case first =>
      have H := HC11.out
      clear HC11
      by_cases c13 : a0_3 = 0
      ·rw [if_pos c13] at H
       have c13b0 : (a0_3 == 0) = true := beq_iff_eq.mpr c13
       have c13b1 : (a0_3 != 0) = false := bne_eq_false_iff_eq.mpr c13
       clear c13
       (first | rw [c13b0] | (simp only [i64_w, i32_w]; rw [c13b0]) | skip)
       have H' := Aside0.mk H
       clear H; go_wp2; go_meet
       case rel => exact ⟨_, (x3_2 ++ a0_2), z59_, H', ⟨z62_⟩, ⟨z42_⟩, ⟨z24_⟩⟩
      ·rw [if_neg c13] at H
       have c13b0 : (a0_3 == 0) = false := beq_eq_false_iff_ne.mpr c13
       have c13b1 : (a0_3 != 0) = true := bne_iff_ne.mpr c13
       (first | rw [c13b0] | (simp only [i64_w, i32_w]; rw [c13b0]) | skip)
       replace H := Option.bind_eq_some_iff.mp H
       obtain ⟨t104, A140, H⟩ := H
       replace H : (if 1 + t104.size ≤ 9223372036854775807 then (if (x3_2 ++ a0_2).size + ((⟨#[58]⟩ : ByteArray) ++ t104).size ≤ 9223372036854775807 then (url_text.j1 kj2 ((x3_2 ++ a0_2) ++ ((⟨#[58]⟩ : ByteArray) ++ t104)) a0_0 a0_1 a0_2 a0_3 a0_4 a0_5 a0_6 a0_7 a0_8) else (none)) else (none)) = some r := H
       have A14 := Aside0.mk A140; clear A140
       by_cases c15 : 1 + t104.size ≤ 9223372036854775807
       ·rw [if_pos c15] at H
        have c15b0 := eq_true c15; have c15b1 : decide (1 + t104.size ≤ 9223372036854775807) = true := decide_eq_true c15
        try have c15b2 : (9223372036854775807 < 1 + t104.size) = False := eq_false (Nat.not_lt.2 c15)
        try have c15c0 : (9223372036854775807 ≤ t104.size) = False := eq_false (by omega)
        try have c15c1 : (t104.size < 9223372036854775807) = True := eq_true (by omega)
        by_cases c16 : (x3_2 ++ a0_2).size + ((⟨#[58]⟩ : ByteArray) ++ t104).size ≤ 9223372036854775807
        ·rw [if_pos c16] at H
         have c16b0 := eq_true c16
         try have c16m : ((x3_2.size + a0_2.size) + (1 + t104.size) ≤ 9223372036854775807) = True := by first | exact c16b0 | (have h_ := c16; simp only [ByteArray.size_append, Int.natCast_add] at h_; exact eq_true h_)
         have c16b1 : decide ((x3_2 ++ a0_2).size + ((⟨#[58]⟩ : ByteArray) ++ t104).size ≤ 9223372036854775807) = true := decide_eq_true c16
         try have c16b1n : decide ((x3_2.size + a0_2.size) + (1 + t104.size) ≤ 9223372036854775807) = true := by first | exact c16b1 | (have h_ := c16b1; simp only [ByteArray.size_append, Int.natCast_add] at h_; exact h_)
         try have c16b2 : (9223372036854775807 < (x3_2 ++ a0_2).size + ((⟨#[58]⟩ : ByteArray) ++ t104).size) = False := eq_false (Nat.not_lt.2 c16)
         try have c16b2n : (9223372036854775807 < (x3_2.size + a0_2.size) + (1 + t104.size)) = False := by first | exact c16b2 | (have h_ := c16b2; simp only [ByteArray.size_append, Int.natCast_add] at h_; exact h_)
         have H' := Aside0.mk H
         clear H; obtain ⟨hcz17_0, hcz17_1, hcz17_2, hcz17_3, hcz17_4, hcz17_5, hcz17_6, hcz17_7, hcz17_8⟩ := blkc9_ BK103.out; obtain ⟨hfz17_0, hfz17_1, hfz17_2, hfz17_3, hfz17_4, hfz17_5, hfz17_6, hfz17_7, hfz17_8⟩ := blkf9_ BK103.out
         go_wp2_with (first | ((with_reducible refine gate_callee (f := 21) rfl ?_); refine goesL_ (some 25) rfl rfl Tryd.func21 (by kernel_rfl) rfl #[.int .i64 a0_3] rfl z39_ ?_; (with_reducible refine (strconv_Itoa.calls a0_3 t104 _ ?gw5_ A14.out).mono ?_); (case gw5_ => first | (with_reducible exact hG_) | ((with_reducible refine GW.below hG_ ?_); (repeat (first | (with_reducible exact HB.out) | (with_reducible apply below_alloc) | (with_reducible apply pw_below_drewN) | (with_reducible apply below_drew1) | (with_reducible apply below_drew) | (with_reducible exact Below.refl _ _) | (with_reducible refine below_set ?_ GE103.out))); done) | exact hG_ | (refine GW.below hG_ ?_; first | (with_reducible exact HB.out) | (repeat (first | (with_reducible first | exact HB.out | apply below_alloc | apply pw_below_drewN | apply below_drew1 | apply below_drew | exact Below.refl _ _) | exact HB.out))) | (apply GW.drewN; exact hG_) | (apply GW.drew; exact hG_)); rintro e w18 ⟨rfl, hb⟩; refine ⟨_, rfl, ?_⟩; have n0_ := Aside0.mk (blk_below (g := gb103) (o := .cells #[.string a0_0, .string a0_1, .string a0_2, .int .i64 a0_3, .string a0_4, .bool a0_5, .string a0_6, .bool a0_7, .string a0_8] 31 (0, 0)) z42_ hb); have n1_ := Aside0.mk (below_step z24_ hb); clear BK103; clear HB; have BK103 := n0_; have HB := n1_; clear n0_ n1_; (try clear hb); (try clear hb2); (try clear hk); (try clear hi)))
         go_meet
         case rel => exact ⟨_, ((x3_2 ++ a0_2) ++ ((⟨#[58]⟩ : ByteArray) ++ t104)), z59_, H', ⟨z62_⟩, ⟨z42_⟩, ⟨z24_⟩⟩
        ·rw [if_neg c16] at H
         exact absurd H (by simp)
       ·rw [if_neg c15] at H
        exact absurd H (by simp)
     case rest =>
      clear HC11; (try clear c2); (try clear c2b0); (try clear c2b1); (try clear c2b2); (try clear c10); (try clear c10b0); (try clear c10b1); (try clear c10b2); (try clear hcz12_0 hcz12_1 hcz12_2 hcz12_3 hcz12_4 hcz12_5 hcz12_6 hcz12_7 hcz12_8); (try clear hcz5_0 hcz5_1 hcz5_2 hcz5_3 hcz5_4 hcz5_5 hcz5_6 hcz5_7 hcz5_8); (try clear hfz12_0 hfz12_1 hfz12_2 hfz12_3 hfz12_4 hfz12_5 hfz12_6 hfz12_7 hfz12_8); (try clear hfz5_0 hfz5_1 hfz5_2 hfz5_3 hfz5_4 hfz5_5 hfz5_6 hfz5_7 hfz5_8)
      obtain ⟨kq, x3_10, rfl, HA, HJ10, BK103, HB⟩ := hcut
      cases kq with
      | zero => exact absurd HA.out (by simp [url_text.j1])
      | succ kj10 =>
       have H := HA.out
       clear HA
       simp only [url_text.j1] at H
       by_cases c19 : x3_10.size + a0_4.size ≤ 9223372036854775807
       ·rw [if_pos c19] at H
        have c19b0 := eq_true c19; have c19b1 : decide (x3_10.size + a0_4.size ≤ 9223372036854775807) = true := decide_eq_true c19
        try have c19b2 : (9223372036854775807 < x3_10.size + a0_4.size) = False := eq_false (Nat.not_lt.2 c19)
        by_cases c20 : a0_5 = true
        ·subst c20
         have H1 : (if 1 + a0_6.size ≤ 9223372036854775807 then (if (x3_10 ++ a0_4).size + ((⟨#[63]⟩ : ByteArray) ++ a0_6).size ≤ 9223372036854775807 then (if a0_7 = true then (if 1 + a0_8.size ≤ 9223372036854775807 then (if ((x3_10 ++ a0_4) ++ ((⟨#[63]⟩ : ByteArray) ++ a0_6)).size + ((⟨#[35]⟩ : ByteArray) ++ a0_8).size ≤ 9223372036854775807 then (some (((x3_10 ++ a0_4) ++ ((⟨#[63]⟩ : ByteArray) ++ a0_6)) ++ ((⟨#[35]⟩ : ByteArray) ++ a0_8))) else (none)) else (none)) else (some ((x3_10 ++ a0_4) ++ ((⟨#[63]⟩ : ByteArray) ++ a0_6)))) else (none)) else (none)) = some r := by rw [if_pos rfl] at H; exact H
         clear H
         have H := H1
         clear H1
         by_cases c21 : 1 + a0_6.size ≤ 9223372036854775807
         ·rw [if_pos c21] at H
          have c21b0 := eq_true c21; have c21b1 : decide (1 + a0_6.size ≤ 9223372036854775807) = true := decide_eq_true c21
          try have c21b2 : (9223372036854775807 < 1 + a0_6.size) = False := eq_false (Nat.not_lt.2 c21)
          try have c21c0 : (9223372036854775807 ≤ a0_6.size) = False := eq_false (by omega)
          try have c21c1 : (a0_6.size < 9223372036854775807) = True := eq_true (by omega)
          by_cases c22 : (x3_10 ++ a0_4).size + ((⟨#[63]⟩ : ByteArray) ++ a0_6).size ≤ 9223372036854775807
          ·rw [if_pos c22] at H
           have c22b0 := eq_true c22
           try have c22m : ((x3_10.size + a0_4.size) + (1 + a0_6.size) ≤ 9223372036854775807) = True := by first | exact c22b0 | (have h_ := c22; simp only [ByteArray.size_append, Int.natCast_add] at h_; exact eq_true h_)
           have c22b1 : decide ((x3_10 ++ a0_4).size + ((⟨#[63]⟩ : ByteArray) ++ a0_6).size ≤ 9223372036854775807) = true := decide_eq_true c22
           try have c22b1n : decide ((x3_10.size + a0_4.size) + (1 + a0_6.size) ≤ 9223372036854775807) = true := by first | exact c22b1 | (have h_ := c22b1; simp only [ByteArray.size_append, Int.natCast_add] at h_; exact h_)
           try have c22b2 : (9223372036854775807 < (x3_10 ++ a0_4).size + ((⟨#[63]⟩ : ByteArray) ++ a0_6).size) = False := eq_false (Nat.not_lt.2 c22)
           try have c22b2n : (9223372036854775807 < (x3_10.size + a0_4.size) + (1 + a0_6.size)) = False := by first | exact c22b2 | (have h_ := c22b2; simp only [ByteArray.size_append, Int.natCast_add] at h_; exact h_)
           by_cases c23 : a0_7 = true
           ·subst c23
            have H1 : (if 1 + a0_8.size ≤ 9223372036854775807 then (if ((x3_10 ++ a0_4) ++ ((⟨#[63]⟩ : ByteArray) ++ a0_6)).size + ((⟨#[35]⟩ : ByteArray) ++ a0_8).size ≤ 9223372036854775807 then (some (((x3_10 ++ a0_4) ++ ((⟨#[63]⟩ : ByteArray) ++ a0_6)) ++ ((⟨#[35]⟩ : ByteArray) ++ a0_8))) else (none)) else (none)) = some r := by rw [if_pos rfl] at H; exact H
            clear H
            have H := H1
            clear H1
            by_cases c24 : 1 + a0_8.size ≤ 9223372036854775807
            ·rw [if_pos c24] at H
             have c24b0 := eq_true c24; have c24b1 : decide (1 + a0_8.size ≤ 9223372036854775807) = true := decide_eq_true c24
             try have c24b2 : (9223372036854775807 < 1 + a0_8.size) = False := eq_false (Nat.not_lt.2 c24)
             try have c24c0 : (9223372036854775807 ≤ a0_8.size) = False := eq_false (by omega)
             try have c24c1 : (a0_8.size < 9223372036854775807) = True := eq_true (by omega)
             by_cases c25 : ((x3_10 ++ a0_4) ++ ((⟨#[63]⟩ : ByteArray) ++ a0_6)).size + ((⟨#[35]⟩ : ByteArray) ++ a0_8).size ≤ 9223372036854775807
             ·rw [if_pos c25] at H
              have c25b0 := eq_true c25
              try have c25m : ((x3_10.size + a0_4.size + (1 + a0_6.size)) + (1 + a0_8.size) ≤ 9223372036854775807) = True := by first | exact c25b0 | (have h_ := c25; simp only [ByteArray.size_append, Int.natCast_add] at h_; exact eq_true h_)
              have c25b1 : decide (((x3_10 ++ a0_4) ++ ((⟨#[63]⟩ : ByteArray) ++ a0_6)).size + ((⟨#[35]⟩ : ByteArray) ++ a0_8).size ≤ 9223372036854775807) = true := decide_eq_true c25
              try have c25b1n : decide ((x3_10.size + a0_4.size + (1 + a0_6.size)) + (1 + a0_8.size) ≤ 9223372036854775807) = true := by first | exact c25b1 | (have h_ := c25b1; simp only [ByteArray.size_append, Int.natCast_add] at h_; exact h_)
              try have c25b2 : (9223372036854775807 < ((x3_10 ++ a0_4) ++ ((⟨#[63]⟩ : ByteArray) ++ a0_6)).size + ((⟨#[35]⟩ : ByteArray) ++ a0_8).size) = False := eq_false (Nat.not_lt.2 c25)
              try have c25b2n : (9223372036854775807 < (x3_10.size + a0_4.size + (1 + a0_6.size)) + (1 + a0_8.size)) = False := by first | exact c25b2 | (have h_ := c25b2; simp only [ByteArray.size_append, Int.natCast_add] at h_; exact h_)
              obtain rfl := Option.some.inj H
              obtain ⟨hcz26_0, hcz26_1, hcz26_2, hcz26_3, hcz26_4, hcz26_5, hcz26_6, hcz26_7, hcz26_8⟩ := blkc9_ BK103.out; obtain ⟨hfz26_0, hfz26_1, hfz26_2, hfz26_3, hfz26_4, hfz26_5, hfz26_6, hfz26_7, hfz26_8⟩ := blkf9_ BK103.out; go_wp2
              go_ret
              exact ⟨z41_, z24_⟩
             ·rw [if_neg c25] at H
              exact absurd H (by simp)
            ·rw [if_neg c24] at H
             exact absurd H (by simp)
           ·replace c23 := Bool.eq_false_iff.mpr c23
            subst c23
            have H1 : (some ((x3_10 ++ a0_4) ++ ((⟨#[63]⟩ : ByteArray) ++ a0_6))) = some r := by rw [if_neg (show ¬ (false = true) by decide)] at H; exact H
            clear H
            have H := H1
            clear H1
            obtain rfl := Option.some.inj H
            obtain ⟨hcz27_0, hcz27_1, hcz27_2, hcz27_3, hcz27_4, hcz27_5, hcz27_6, hcz27_7, hcz27_8⟩ := blkc9_ BK103.out; obtain ⟨hfz27_0, hfz27_1, hfz27_2, hfz27_3, hfz27_4, hfz27_5, hfz27_6, hfz27_7, hfz27_8⟩ := blkf9_ BK103.out; go_wp2
            go_ret
            exact ⟨z41_, z24_⟩
          ·rw [if_neg c22] at H
           exact absurd H (by simp)
         ·rw [if_neg c21] at H
          exact absurd H (by simp)
        ·replace c20 := Bool.eq_false_iff.mpr c20
         subst c20
         have H1 : (if a0_7 = true then (if 1 + a0_8.size ≤ 9223372036854775807 then (if (x3_10 ++ a0_4).size + ((⟨#[35]⟩ : ByteArray) ++ a0_8).size ≤ 9223372036854775807 then (some ((x3_10 ++ a0_4) ++ ((⟨#[35]⟩ : ByteArray) ++ a0_8))) else (none)) else (none)) else (some (x3_10 ++ a0_4))) = some r := by rw [if_neg (show ¬ (false = true) by decide)] at H; exact H
         clear H
         have H := H1
         clear H1
         by_cases c28 : a0_7 = true
         ·subst c28
          have H1 : (if 1 + a0_8.size ≤ 9223372036854775807 then (if (x3_10 ++ a0_4).size + ((⟨#[35]⟩ : ByteArray) ++ a0_8).size ≤ 9223372036854775807 then (some ((x3_10 ++ a0_4) ++ ((⟨#[35]⟩ : ByteArray) ++ a0_8))) else (none)) else (none)) = some r := by rw [if_pos rfl] at H; exact H
          clear H
          have H := H1
          clear H1
          by_cases c29 : 1 + a0_8.size ≤ 9223372036854775807
          ·rw [if_pos c29] at H
           have c29b0 := eq_true c29; have c29b1 : decide (1 + a0_8.size ≤ 9223372036854775807) = true := decide_eq_true c29
           try have c29b2 : (9223372036854775807 < 1 + a0_8.size) = False := eq_false (Nat.not_lt.2 c29)
           try have c29c0 : (9223372036854775807 ≤ a0_8.size) = False := eq_false (by omega)
           try have c29c1 : (a0_8.size < 9223372036854775807) = True := eq_true (by omega)
           by_cases c30 : (x3_10 ++ a0_4).size + ((⟨#[35]⟩ : ByteArray) ++ a0_8).size ≤ 9223372036854775807
           ·rw [if_pos c30] at H
            have c30b0 := eq_true c30
            try have c30m : ((x3_10.size + a0_4.size) + (1 + a0_8.size) ≤ 9223372036854775807) = True := by first | exact c30b0 | (have h_ := c30; simp only [ByteArray.size_append, Int.natCast_add] at h_; exact eq_true h_)
            have c30b1 : decide ((x3_10 ++ a0_4).size + ((⟨#[35]⟩ : ByteArray) ++ a0_8).size ≤ 9223372036854775807) = true := decide_eq_true c30
            try have c30b1n : decide ((x3_10.size + a0_4.size) + (1 + a0_8.size) ≤ 9223372036854775807) = true := by first | exact c30b1 | (have h_ := c30b1; simp only [ByteArray.size_append, Int.natCast_add] at h_; exact h_)
            try have c30b2 : (9223372036854775807 < (x3_10 ++ a0_4).size + ((⟨#[35]⟩ : ByteArray) ++ a0_8).size) = False := eq_false (Nat.not_lt.2 c30)
            try have c30b2n : (9223372036854775807 < (x3_10.size + a0_4.size) + (1 + a0_8.size)) = False := by first | exact c30b2 | (have h_ := c30b2; simp only [ByteArray.size_append, Int.natCast_add] at h_; exact h_)
            obtain rfl := Option.some.inj H
            obtain ⟨hcz31_0, hcz31_1, hcz31_2, hcz31_3, hcz31_4, hcz31_5, hcz31_6, hcz31_7, hcz31_8⟩ := blkc9_ BK103.out; obtain ⟨hfz31_0, hfz31_1, hfz31_2, hfz31_3, hfz31_4, hfz31_5, hfz31_6, hfz31_7, hfz31_8⟩ := blkf9_ BK103.out; go_wp2
            go_ret
            exact ⟨z41_, z24_⟩
           ·rw [if_neg c30] at H
            exact absurd H (by simp)
          ·rw [if_neg c29] at H
           exact absurd H (by simp)
         ·replace c28 := Bool.eq_false_iff.mpr c28
          subst c28
          have H1 : (some (x3_10 ++ a0_4)) = some r := by rw [if_neg (show ¬ (false = true) by decide)] at H; exact H
          clear H
          have H := H1
          clear H1
          obtain rfl := Option.some.inj H
          obtain ⟨hcz32_0, hcz32_1, hcz32_2, hcz32_3, hcz32_4, hcz32_5, hcz32_6, hcz32_7, hcz32_8⟩ := blkc9_ BK103.out; obtain ⟨hfz32_0, hfz32_1, hfz32_2, hfz32_3, hfz32_4, hfz32_5, hfz32_6, hfz32_7, hfz32_8⟩ := blkf9_ BK103.out; go_wp2
          go_ret
          exact ⟨z41_, z24_⟩
       ·rw [if_neg c19] at H
        exact absurd H (by simp)
    ·rw [if_neg c10] at H
     exact absurd H (by simp)
 ·rw [if_neg c2] at H
  exact absurd H (by simp)

def source_goes.f (a0 a1 : ByteArray) : Option (Bool) := if a0.toList = a1.toList then (some true) else (if a0.toList = ([104, 116, 116, 112] : List UInt8) then (some (a1.toList == ([104, 116, 116, 112, 115] : List UInt8))) else (some false))
set_option maxHeartbeats 8000000 in
set_option maxRecDepth 100000 in
theorem source_goes.calls (a0 a1 : ByteArray) (r : Bool) (w : World) (hG_ : GW w) (h : source_goes.f a0 a1 = some r) :
  Calls Tryd.prog 28 #[.string a0, .string a1] w fun e w' => e = .returned (.bool r) ∧ Drawn0 w w' := by
 have H : (if a0.toList = a1.toList then (some true) else (if a0.toList = ([104, 116, 116, 112] : List UInt8) then (some (a1.toList == ([104, 116, 116, 112, 115] : List UInt8))) else (some false))) = some r := h
 clear h
 by_cases c3 : a0.toList = a1.toList
 ·rw [if_pos c3] at H
  have c3b0 : (a0.toList == a1.toList) = true := beq_iff_eq.mpr c3
  have c3b1 : (a0.toList != a1.toList) = false := bne_eq_false_iff_eq.mpr c3
  clear c3
  obtain rfl := Option.some.inj H
  go_enter Tryd.func28, Tryd.ntmps28
  go_wp2
  go_ret
  exact ⟨z59_, z60_⟩
 ·rw [if_neg c3] at H
  have c3b0 : (a0.toList == a1.toList) = false := beq_eq_false_iff_ne.mpr c3
  have c3b1 : (a0.toList != a1.toList) = true := bne_iff_ne.mpr c3
  by_cases c4 : a0.toList = ([104, 116, 116, 112] : List UInt8)
  ·rw [if_pos c4] at H
   have c4b0 : (a0.toList == ([104, 116, 116, 112] : List UInt8)) = true := beq_iff_eq.mpr c4
   have c4b1 : (a0.toList != ([104, 116, 116, 112] : List UInt8)) = false := bne_eq_false_iff_eq.mpr c4
   clear c4
   obtain rfl := Option.some.inj H
   go_enter Tryd.func28, Tryd.ntmps28
   go_wp2
   go_ret
   exact ⟨z59_, z60_⟩
  ·rw [if_neg c4] at H
   have c4b0 : (a0.toList == ([104, 116, 116, 112] : List UInt8)) = false := beq_eq_false_iff_ne.mpr c4
   have c4b1 : (a0.toList != ([104, 116, 116, 112] : List UInt8)) = true := bne_iff_ne.mpr c4
   obtain rfl := Option.some.inj H
   go_enter Tryd.func28, Tryd.ntmps28
   go_wp2
   go_ret
   exact ⟨z59_, z60_⟩

def source_path.f (a0_0 : Int) (a0_1 : ByteArray) (a0_2 : Bool) (a0_3 : ByteArray) (a0_4 : Int) (a0_5 a0_6 a1_0 a1_1 a1_2 : ByteArray) (a1_3 : Int) (a1_4 : ByteArray) (a1_5 : Bool) (a1_6 : ByteArray) (a1_7 : Bool) (a1_8 : ByteArray) : Option (Bool) := (strings_HasSuffix.f a0_5 (⟨#[47]⟩ : ByteArray)).bind fun t107 => (if t107 = true then ((strings_HasPrefix.f a1_4 a0_5).bind fun t108 => (some t108)) else (some (a1_4.toList == a0_5.toList)))
set_option maxHeartbeats 8000000 in
set_option maxRecDepth 100000 in
theorem source_path.calls (a0_0 : Int) (a0_1 : ByteArray) (a0_2 : Bool) (a0_3 : ByteArray) (a0_4 : Int) (a0_5 a0_6 a1_0 a1_1 a1_2 : ByteArray) (a1_3 : Int) (a1_4 : ByteArray) (a1_5 : Bool) (a1_6 : ByteArray) (a1_7 : Bool) (a1_8 : ByteArray) (r : Bool) (w : World) (hG_ : GW w) (h : source_path.f a0_0 a0_1 a0_2 a0_3 a0_4 a0_5 a0_6 a1_0 a1_1 a1_2 a1_3 a1_4 a1_5 a1_6 a1_7 a1_8 = some r) :
  Calls Tryd.prog 32 #[.agg #[.int .i64 a0_0, .string a0_1, .bool a0_2, .string a0_3, .int .i64 a0_4, .string a0_5, .string a0_6], .agg #[.string a1_0, .string a1_1, .string a1_2, .int .i64 a1_3, .string a1_4, .bool a1_5, .string a1_6, .bool a1_7, .string a1_8]] w fun e w' => e = .returned (.bool r) ∧ Below w.heap.size w w' := by
 have hu23 := Tryd.underlying23
 have hu31 := Tryd.underlying31
 have HB := Aside0.mk (Below.refl w.heap.size w)
 have H : ((strings_HasSuffix.f a0_5 (⟨#[47]⟩ : ByteArray)).bind fun t107 => (if t107 = true then ((strings_HasPrefix.f a1_4 a0_5).bind fun t108 => (some t108)) else (some (a1_4.toList == a0_5.toList)))) = some r := h
 clear h
 replace H := Option.bind_eq_some_iff.mp H
 obtain ⟨t107, A30, H⟩ := H
 replace H : (if t107 = true then ((strings_HasPrefix.f a1_4 a0_5).bind fun t108 => (some t108)) else (some (a1_4.toList == a0_5.toList))) = some r := H
 have A3 := Aside0.mk A30; clear A30
 by_cases c4 : t107 = true
 ·subst c4
  have H1 : ((strings_HasPrefix.f a1_4 a0_5).bind fun t108 => (some t108)) = some r := by rw [if_pos rfl] at H; exact H
  clear H
  have H := H1
  clear H1
  replace H := Option.bind_eq_some_iff.mp H
  obtain ⟨t108, A50, H⟩ := H
  replace H : (some t108) = some r := H
  have A5 := Aside0.mk A50; clear A50
  obtain rfl := Option.some.inj H
  go_enter Tryd.func32, Tryd.ntmps32
  go_wp2_with (first | ((with_reducible refine gate_dst (N := 2) rfl ?_); refine box_event ?hg (N := 2) ?hd (cs := #[.int .i64 a0_0, .string a0_1, .bool a0_2, .string a0_3, .int .i64 a0_4, .string a0_5, .string a0_6]) (t := 23) ?hr ?_; (case hd => rfl); (case hg => rfl); (case hr => first | (go_simp; done) | (go_simp; rfl)); intro gb105 hg w6 hbox hb; have n0_ := Aside0.mk (below_step z40_ hb); have n1_ := Aside0.mk (hbox); have n2_ := Aside0.mk ((by rw [hg]; exact (below_size z40_) : w.heap.size ≤ gb105)); have n3_ := Aside0.mk ((by rw [hg]; exact (below_size z40_) : w.heap.size ≤ gb105)); clear HB; have HB := n0_; have BK105 := n1_; have GW105 := n2_; have GE105 := n3_; clear n0_ n1_ n2_ n3_; clear hb hbox hg) | ((with_reducible refine gate_dst (N := 3) rfl ?_); refine box_event ?hg (N := 3) ?hd (cs := #[.string a1_0, .string a1_1, .string a1_2, .int .i64 a1_3, .string a1_4, .bool a1_5, .string a1_6, .bool a1_7, .string a1_8]) (t := 31) ?hr ?_; (case hd => rfl); (case hg => rfl); (case hr => first | (go_simp; done) | (go_simp; rfl)); intro gb106 hg w7 hbox hb; have n0_ := Aside0.mk (blk_below (g := gb105) (o := .cells #[.int .i64 a0_0, .string a0_1, .bool a0_2, .string a0_3, .int .i64 a0_4, .string a0_5, .string a0_6] 23 (0, 0)) z43_ hb); have n1_ := Aside0.mk (below_step z25_ hb); have n2_ := Aside0.mk (hbox); have n3_ := Aside0.mk ((by rw [hg]; exact (below_size z25_) : w.heap.size ≤ gb106)); have n4_ := Aside0.mk ((by rw [hg]; exact (below_size z25_) : w.heap.size ≤ gb106)); have n5_ := Aside0.mk ((by rw [hg]; exact Nat.ne_of_lt (blk_lt (g := gb105) (o := .cells #[.int .i64 a0_0, .string a0_1, .bool a0_2, .string a0_3, .int .i64 a0_4, .string a0_5, .string a0_6] 23 (0, 0)) z43_) : gb105 ≠ gb106)); have n6_ := Aside0.mk ((by rw [hg]; exact Nat.ne_of_gt (blk_lt (g := gb105) (o := .cells #[.int .i64 a0_0, .string a0_1, .bool a0_2, .string a0_3, .int .i64 a0_4, .string a0_5, .string a0_6] 23 (0, 0)) z43_) : gb106 ≠ gb105)); clear BK105; clear HB; have BK105 := n0_; have HB := n1_; have BK106 := n2_; have GW106 := n3_; have GE106 := n4_; have NB105_106 := n5_; have NB106_105 := n6_; clear n0_ n1_ n2_ n3_ n4_ n5_ n6_; clear hb hbox hg; have hnb8 := NB105_106.out; have hnc8 := NB106_105.out; have hcz9_0 : w7.cell? ⟨gb105, 0, none⟩ = some (.int .i64 a0_0) := (blk_cell BK105.out 0).trans rfl; have hcz9_1 : w7.cell? ⟨gb105, 1, none⟩ = some (.string a0_1) := (blk_cell BK105.out 1).trans rfl; have hcz9_2 : w7.cell? ⟨gb105, 2, none⟩ = some (.bool a0_2) := (blk_cell BK105.out 2).trans rfl; have hcz9_3 : w7.cell? ⟨gb105, 3, none⟩ = some (.string a0_3) := (blk_cell BK105.out 3).trans rfl; have hcz9_4 : w7.cell? ⟨gb105, 4, none⟩ = some (.int .i64 a0_4) := (blk_cell BK105.out 4).trans rfl; have hcz9_5 : w7.cell? ⟨gb105, 5, none⟩ = some (.string a0_5) := (blk_cell BK105.out 5).trans rfl; have hcz9_6 : w7.cell? ⟨gb105, 6, none⟩ = some (.string a0_6) := (blk_cell BK105.out 6).trans rfl; have hfz9_0 := blk_frozen BK105.out 0; have hfz9_1 := blk_frozen BK105.out 1; have hfz9_2 := blk_frozen BK105.out 2; have hfz9_3 := blk_frozen BK105.out 3; have hfz9_4 := blk_frozen BK105.out 4; have hfz9_5 := blk_frozen BK105.out 5; have hfz9_6 := blk_frozen BK105.out 6) | ((with_reducible refine gate_callee (f := 49) rfl ?_); refine goesL_ (some 7) rfl rfl Tryd.func49 (by kernel_rfl) rfl #[.string a0_5, .string (⟨#[47]⟩ : ByteArray)] rfl z39_ ?_; (with_reducible refine (strings_HasSuffix.calls a0_5 (⟨#[47]⟩ : ByteArray) true _ ?gw6_ A3.out).mono ?_); (case gw6_ => exact z4_); rintro e w' ⟨rfl, ⟨nd, rfl⟩⟩; refine ⟨_, rfl, ?_⟩; have hcz10_0 : w7.cell? ⟨gb106, 0, none⟩ = some (.string a1_0) := (blk_cell BK106.out 0).trans rfl; have hcz10_1 : w7.cell? ⟨gb106, 1, none⟩ = some (.string a1_1) := (blk_cell BK106.out 1).trans rfl; have hcz10_2 : w7.cell? ⟨gb106, 2, none⟩ = some (.string a1_2) := (blk_cell BK106.out 2).trans rfl; have hcz10_3 : w7.cell? ⟨gb106, 3, none⟩ = some (.int .i64 a1_3) := (blk_cell BK106.out 3).trans rfl; have hcz10_4 : w7.cell? ⟨gb106, 4, none⟩ = some (.string a1_4) := (blk_cell BK106.out 4).trans rfl; have hcz10_5 : w7.cell? ⟨gb106, 5, none⟩ = some (.bool a1_5) := (blk_cell BK106.out 5).trans rfl; have hcz10_6 : w7.cell? ⟨gb106, 6, none⟩ = some (.string a1_6) := (blk_cell BK106.out 6).trans rfl; have hcz10_7 : w7.cell? ⟨gb106, 7, none⟩ = some (.bool a1_7) := (blk_cell BK106.out 7).trans rfl; have hcz10_8 : w7.cell? ⟨gb106, 8, none⟩ = some (.string a1_8) := (blk_cell BK106.out 8).trans rfl; have hfz10_0 := blk_frozen BK106.out 0; have hfz10_1 := blk_frozen BK106.out 1; have hfz10_2 := blk_frozen BK106.out 2; have hfz10_3 := blk_frozen BK106.out 3; have hfz10_4 := blk_frozen BK106.out 4; have hfz10_5 := blk_frozen BK106.out 5; have hfz10_6 := blk_frozen BK106.out 6; have hfz10_7 := blk_frozen BK106.out 7; have hfz10_8 := blk_frozen BK106.out 8) | ((with_reducible refine gate_callee (f := 25) rfl ?_); refine goesL_ (some 12) rfl rfl Tryd.func25 (by kernel_rfl) rfl #[.string a1_4, .string a0_5] rfl z39_ ?_; (with_reducible refine (strings_HasPrefix.calls a1_4 a0_5 t108 _ ?gw7_ A5.out).mono ?_); (case gw7_ => exact z4_); rintro e w' ⟨rfl, ⟨nd, rfl⟩⟩; refine ⟨_, rfl, ?_⟩))
  go_ret
  exact ⟨z41_, by repeat (first | (with_reducible first | exact HB.out | apply below_alloc | apply pw_below_drewN | apply below_drew1 | refine below_set ?_ GE105.out | refine below_set ?_ GE106.out) | exact HB.out)⟩
 ·replace c4 := Bool.eq_false_iff.mpr c4
  subst c4
  have H1 : (some (a1_4.toList == a0_5.toList)) = some r := by rw [if_neg (show ¬ (false = true) by decide)] at H; exact H
  clear H
  have H := H1
  clear H1
  obtain rfl := Option.some.inj H
  go_enter Tryd.func32, Tryd.ntmps32
  go_wp2_with (first | ((with_reducible refine gate_dst (N := 2) rfl ?_); refine box_event ?hg (N := 2) ?hd (cs := #[.int .i64 a0_0, .string a0_1, .bool a0_2, .string a0_3, .int .i64 a0_4, .string a0_5, .string a0_6]) (t := 23) ?hr ?_; (case hd => rfl); (case hg => rfl); (case hr => first | (go_simp; done) | (go_simp; rfl)); intro gb105 hg w11 hbox hb; have n0_ := Aside0.mk (below_step z40_ hb); have n1_ := Aside0.mk (hbox); have n2_ := Aside0.mk ((by rw [hg]; exact (below_size z40_) : w.heap.size ≤ gb105)); have n3_ := Aside0.mk ((by rw [hg]; exact (below_size z40_) : w.heap.size ≤ gb105)); clear HB; have HB := n0_; have BK105 := n1_; have GW105 := n2_; have GE105 := n3_; clear n0_ n1_ n2_ n3_; clear hb hbox hg) | ((with_reducible refine gate_dst (N := 3) rfl ?_); refine box_event ?hg (N := 3) ?hd (cs := #[.string a1_0, .string a1_1, .string a1_2, .int .i64 a1_3, .string a1_4, .bool a1_5, .string a1_6, .bool a1_7, .string a1_8]) (t := 31) ?hr ?_; (case hd => rfl); (case hg => rfl); (case hr => first | (go_simp; done) | (go_simp; rfl)); intro gb106 hg w12 hbox hb; have n0_ := Aside0.mk (blk_below (g := gb105) (o := .cells #[.int .i64 a0_0, .string a0_1, .bool a0_2, .string a0_3, .int .i64 a0_4, .string a0_5, .string a0_6] 23 (0, 0)) z43_ hb); have n1_ := Aside0.mk (below_step z25_ hb); have n2_ := Aside0.mk (hbox); have n3_ := Aside0.mk ((by rw [hg]; exact (below_size z25_) : w.heap.size ≤ gb106)); have n4_ := Aside0.mk ((by rw [hg]; exact (below_size z25_) : w.heap.size ≤ gb106)); have n5_ := Aside0.mk ((by rw [hg]; exact Nat.ne_of_lt (blk_lt (g := gb105) (o := .cells #[.int .i64 a0_0, .string a0_1, .bool a0_2, .string a0_3, .int .i64 a0_4, .string a0_5, .string a0_6] 23 (0, 0)) z43_) : gb105 ≠ gb106)); have n6_ := Aside0.mk ((by rw [hg]; exact Nat.ne_of_gt (blk_lt (g := gb105) (o := .cells #[.int .i64 a0_0, .string a0_1, .bool a0_2, .string a0_3, .int .i64 a0_4, .string a0_5, .string a0_6] 23 (0, 0)) z43_) : gb106 ≠ gb105)); clear BK105; clear HB; have BK105 := n0_; have HB := n1_; have BK106 := n2_; have GW106 := n3_; have GE106 := n4_; have NB105_106 := n5_; have NB106_105 := n6_; clear n0_ n1_ n2_ n3_ n4_ n5_ n6_; clear hb hbox hg; have hnb13 := NB105_106.out; have hnc13 := NB106_105.out; have hcz14_0 : w12.cell? ⟨gb105, 0, none⟩ = some (.int .i64 a0_0) := (blk_cell BK105.out 0).trans rfl; have hcz14_1 : w12.cell? ⟨gb105, 1, none⟩ = some (.string a0_1) := (blk_cell BK105.out 1).trans rfl; have hcz14_2 : w12.cell? ⟨gb105, 2, none⟩ = some (.bool a0_2) := (blk_cell BK105.out 2).trans rfl; have hcz14_3 : w12.cell? ⟨gb105, 3, none⟩ = some (.string a0_3) := (blk_cell BK105.out 3).trans rfl; have hcz14_4 : w12.cell? ⟨gb105, 4, none⟩ = some (.int .i64 a0_4) := (blk_cell BK105.out 4).trans rfl; have hcz14_5 : w12.cell? ⟨gb105, 5, none⟩ = some (.string a0_5) := (blk_cell BK105.out 5).trans rfl; have hcz14_6 : w12.cell? ⟨gb105, 6, none⟩ = some (.string a0_6) := (blk_cell BK105.out 6).trans rfl; have hfz14_0 := blk_frozen BK105.out 0; have hfz14_1 := blk_frozen BK105.out 1; have hfz14_2 := blk_frozen BK105.out 2; have hfz14_3 := blk_frozen BK105.out 3; have hfz14_4 := blk_frozen BK105.out 4; have hfz14_5 := blk_frozen BK105.out 5; have hfz14_6 := blk_frozen BK105.out 6) | ((with_reducible refine gate_callee (f := 49) rfl ?_); refine goesL_ (some 7) rfl rfl Tryd.func49 (by kernel_rfl) rfl #[.string a0_5, .string (⟨#[47]⟩ : ByteArray)] rfl z39_ ?_; (with_reducible refine (strings_HasSuffix.calls a0_5 (⟨#[47]⟩ : ByteArray) false _ ?gw8_ A3.out).mono ?_); (case gw8_ => exact z4_); rintro e w' ⟨rfl, ⟨nd, rfl⟩⟩; refine ⟨_, rfl, ?_⟩; have hcz15_0 : w12.cell? ⟨gb106, 0, none⟩ = some (.string a1_0) := (blk_cell BK106.out 0).trans rfl; have hcz15_1 : w12.cell? ⟨gb106, 1, none⟩ = some (.string a1_1) := (blk_cell BK106.out 1).trans rfl; have hcz15_2 : w12.cell? ⟨gb106, 2, none⟩ = some (.string a1_2) := (blk_cell BK106.out 2).trans rfl; have hcz15_3 : w12.cell? ⟨gb106, 3, none⟩ = some (.int .i64 a1_3) := (blk_cell BK106.out 3).trans rfl; have hcz15_4 : w12.cell? ⟨gb106, 4, none⟩ = some (.string a1_4) := (blk_cell BK106.out 4).trans rfl; have hcz15_5 : w12.cell? ⟨gb106, 5, none⟩ = some (.bool a1_5) := (blk_cell BK106.out 5).trans rfl; have hcz15_6 : w12.cell? ⟨gb106, 6, none⟩ = some (.string a1_6) := (blk_cell BK106.out 6).trans rfl; have hcz15_7 : w12.cell? ⟨gb106, 7, none⟩ = some (.bool a1_7) := (blk_cell BK106.out 7).trans rfl; have hcz15_8 : w12.cell? ⟨gb106, 8, none⟩ = some (.string a1_8) := (blk_cell BK106.out 8).trans rfl; have hfz15_0 := blk_frozen BK106.out 0; have hfz15_1 := blk_frozen BK106.out 1; have hfz15_2 := blk_frozen BK106.out 2; have hfz15_3 := blk_frozen BK106.out 3; have hfz15_4 := blk_frozen BK106.out 4; have hfz15_5 := blk_frozen BK106.out 5; have hfz15_6 := blk_frozen BK106.out 6; have hfz15_7 := blk_frozen BK106.out 7; have hfz15_8 := blk_frozen BK106.out 8))
  go_ret
  exact ⟨z41_, by repeat (first | (with_reducible first | exact HB.out | apply below_alloc | apply pw_below_drewN | apply below_drew1 | refine below_set ?_ GE105.out | refine below_set ?_ GE106.out) | exact HB.out)⟩

def source_plain.f (a0_0 : Int) (a0_1 : ByteArray) (a0_2 : Bool) (a0_3 : ByteArray) (a0_4 : Int) (a0_5 a0_6 : ByteArray) : Option (Bool) := some (a0_1.toList == ([] : List UInt8) && (!a0_2 && (a0_3.toList == ([] : List UInt8) && (a0_4 == 0 && (a0_5.toList == ([] : List UInt8) && (a0_6.toList == ([] : List UInt8)))))))
set_option maxHeartbeats 8000000 in
set_option maxRecDepth 100000 in
theorem source_plain.calls (a0_0 : Int) (a0_1 : ByteArray) (a0_2 : Bool) (a0_3 : ByteArray) (a0_4 : Int) (a0_5 a0_6 : ByteArray) (r : Bool) (w : World) (hG_ : GW w) (h : source_plain.f a0_0 a0_1 a0_2 a0_3 a0_4 a0_5 a0_6 = some r) :
  Calls Tryd.prog 12 #[.agg #[.int .i64 a0_0, .string a0_1, .bool a0_2, .string a0_3, .int .i64 a0_4, .string a0_5, .string a0_6]] w fun e w' => e = .returned (.bool r) ∧ Below w.heap.size w w' := by
 have hu23 := Tryd.underlying23
 have HB := Aside0.mk (Below.refl w.heap.size w)
 have H : (some (a0_1.toList == ([] : List UInt8) && (!a0_2 && (a0_3.toList == ([] : List UInt8) && (a0_4 == 0 && (a0_5.toList == ([] : List UInt8) && (a0_6.toList == ([] : List UInt8)))))))) = some r := h
 clear h
 obtain rfl := Option.some.inj H
 go_enter Tryd.func12, Tryd.ntmps12
 go_wp2_with (first | ((with_reducible refine gate_dst (N := 1) rfl ?_); refine box_event ?hg (N := 1) ?hd (cs := #[.int .i64 a0_0, .string a0_1, .bool a0_2, .string a0_3, .int .i64 a0_4, .string a0_5, .string a0_6]) (t := 23) ?hr ?_; (case hd => rfl); (case hg => rfl); (case hr => first | (go_simp; done) | (go_simp; rfl)); intro gb109 hg w2 hbox hb; have n0_ := Aside0.mk (below_step z40_ hb); have n1_ := Aside0.mk (hbox); have n2_ := Aside0.mk ((by rw [hg]; exact (below_size z40_) : w.heap.size ≤ gb109)); have n3_ := Aside0.mk ((by rw [hg]; exact (below_size z40_) : w.heap.size ≤ gb109)); clear HB; have HB := n0_; have BK109 := n1_; have GW109 := n2_; have GE109 := n3_; clear n0_ n1_ n2_ n3_; clear hb hbox hg; have hcz3_0 : w2.cell? ⟨gb109, 0, none⟩ = some (.int .i64 a0_0) := (blk_cell BK109.out 0).trans rfl; have hcz3_1 : w2.cell? ⟨gb109, 1, none⟩ = some (.string a0_1) := (blk_cell BK109.out 1).trans rfl; have hcz3_2 : w2.cell? ⟨gb109, 2, none⟩ = some (.bool a0_2) := (blk_cell BK109.out 2).trans rfl; have hcz3_3 : w2.cell? ⟨gb109, 3, none⟩ = some (.string a0_3) := (blk_cell BK109.out 3).trans rfl; have hcz3_4 : w2.cell? ⟨gb109, 4, none⟩ = some (.int .i64 a0_4) := (blk_cell BK109.out 4).trans rfl; have hcz3_5 : w2.cell? ⟨gb109, 5, none⟩ = some (.string a0_5) := (blk_cell BK109.out 5).trans rfl; have hcz3_6 : w2.cell? ⟨gb109, 6, none⟩ = some (.string a0_6) := (blk_cell BK109.out 6).trans rfl; have hfz3_0 := blk_frozen BK109.out 0; have hfz3_1 := blk_frozen BK109.out 1; have hfz3_2 := blk_frozen BK109.out 2; have hfz3_3 := blk_frozen BK109.out 3; have hfz3_4 := blk_frozen BK109.out 4; have hfz3_5 := blk_frozen BK109.out 5; have hfz3_6 := blk_frozen BK109.out 6))
 go_ret
 exact ⟨z41_, z26_⟩

def source_random.l0 : Nat → ByteArray → Int → Int → Option (Bool)
 | 0, _, _, _ => none
 | k + 1, x0, x6, x7 => if x7 < x6 then (if 0 ≤ x7 then (if x7 < (x0.size : Int) then (if (Go.bits .or .u8 (bt x0 x7) 32) < 97 then (if (bt x0 x7) < 48 then ((strings_IndexByte.f (⟨#[43, 47, 95, 45, 61]⟩ : ByteArray) (bt x0 x7)).bind fun t110 => (if t110 < 0 then (some false) else (source_random.l0 k x0 x6 (wrap64 (x7 + 1))))) else (if (bt x0 x7) > 57 then ((strings_IndexByte.f (⟨#[43, 47, 95, 45, 61]⟩ : ByteArray) (bt x0 x7)).bind fun t111 => (if t111 < 0 then (some false) else (source_random.l0 k x0 x6 (wrap64 (x7 + 1))))) else (source_random.l0 k x0 x6 (wrap64 (x7 + 1))))) else (if (Go.bits .or .u8 (bt x0 x7) 32) > 122 then (if (bt x0 x7) < 48 then ((strings_IndexByte.f (⟨#[43, 47, 95, 45, 61]⟩ : ByteArray) (bt x0 x7)).bind fun t112 => (if t112 < 0 then (some false) else (source_random.l0 k x0 x6 (wrap64 (x7 + 1))))) else (if (bt x0 x7) > 57 then ((strings_IndexByte.f (⟨#[43, 47, 95, 45, 61]⟩ : ByteArray) (bt x0 x7)).bind fun t113 => (if t113 < 0 then (some false) else (source_random.l0 k x0 x6 (wrap64 (x7 + 1))))) else (source_random.l0 k x0 x6 (wrap64 (x7 + 1))))) else (source_random.l0 k x0 x6 (wrap64 (x7 + 1))))) else (none)) else (none)) else (some (x0.toList != ([] : List UInt8)))
def source_random.f (k : Nat) (a0 : ByteArray) : Option (Bool) := source_random.l0 k a0 (a0.size : Int) 0
set_option maxHeartbeats 8000000 in
set_option maxRecDepth 100000 in
theorem source_random.calls (k : Nat) (a0 : ByteArray) (r : Bool) (w : World) (hG_ : GW w) (h : source_random.f k a0 = some r) :
  Calls Tryd.prog 14 #[.string a0] w fun e w' => e = .returned (.bool r) ∧ Drawn0 w w' := by
 have H : (source_random.l0 k a0 (a0.size : Int) 0) = some r := h
 clear h
 have H' := Aside0.mk H
 clear H
 go_enter Tryd.func14, Tryd.ntmps14
 go_wp2
 go_loopg [7] k (fun kq v7 w' => ∃ (x7_1 : Int), v7 = .int .i64 x7_1 ∧ Aside0 (source_random.l0 kq a0 (a0.size : Int) x7_1 = some r) ∧ Aside0 (kq ≤ k) ∧ Drawn0 w w')
 case atStart => exact ⟨(0), z59_, H', ⟨Nat.le_refl _⟩, z60_⟩
 case round =>
  clear H'
  obtain ⟨x7_1, rfl, HA, HK1, ⟨m1, rfl⟩⟩ := hrel
  cases gk with
  | zero => exact absurd HA.out (by simp [source_random.l0])
  | succ k1 =>
   have H := HA.out
   clear HA
   simp only [source_random.l0] at H
   by_cases c2 : x7_1 < (a0.size : Int)
   ·rw [if_pos c2] at H
    have c2b0 : decide (x7_1 < (a0.size : Int)) = true := decide_eq_true c2; clear c2
    by_cases c3 : 0 ≤ x7_1
    ·rw [if_pos c3] at H
     have c3b0 : decide (0 ≤ x7_1) = true := decide_eq_true c3; clear c3
     by_cases c4 : x7_1 < (a0.size : Int)
     ·rw [if_pos c4] at H
      have c4b0 : decide (x7_1 < (a0.size : Int)) = true := decide_eq_true c4; clear c4
      by_cases c6 : (Go.bits .or .u8 (bt a0 x7_1) 32) < 97
      ·rw [if_pos c6] at H
       have c6b0 : decide ((Go.bits .or .u8 (bt a0 x7_1) 32) < 97) = true := decide_eq_true c6; clear c6
       by_cases c7 : (bt a0 x7_1) < 48
       ·rw [if_pos c7] at H
        have c7b0 : decide ((bt a0 x7_1) < 48) = true := decide_eq_true c7; clear c7
        replace H := Option.bind_eq_some_iff.mp H
        obtain ⟨t110, A80, H⟩ := H
        replace H : (if t110 < 0 then (some false) else (source_random.l0 k1 a0 (a0.size : Int) (wrap64 (x7_1 + 1)))) = some r := H
        have A8 := Aside0.mk A80; clear A80
        by_cases c9 : t110 < 0
        ·rw [if_pos c9] at H
         have c9b0 : decide (t110 < 0) = true := decide_eq_true c9; clear c9
         obtain rfl := Option.some.inj H
         have p5 : 0 ≤ (x7_1 : Int) := of_decide_eq_true z63_
         have q5 : x7_1 < (a0.size : Int) := of_decide_eq_true z63_
         have hx5 := bt_at a0 x7_1
         replace p5 := eq_true p5
         replace q5 := eq_true q5
         go_wp2_with (first | (go_at_call 33; (fail_if_success (have z_ := U_3)); have U_3 := trivial; (with_reducible refine (strings_IndexByte.calls (⟨#[43, 47, 95, 45, 61]⟩ : ByteArray) (bt a0 x7_1) t110 _ ?gw9_ A8.out).mono ?_); (case gw9_ => exact z14_); rintro e w' ⟨rfl, ⟨nd, rfl⟩⟩))
         go_ret
         exact ⟨z59_, z60_⟩
        ·rw [if_neg c9] at H
         have c9b0 : decide (t110 < 0) = false := decide_eq_false c9; clear c9
         have H' := Aside0.mk H
         clear H
         have p5 : 0 ≤ (x7_1 : Int) := of_decide_eq_true z63_
         have q5 : x7_1 < (a0.size : Int) := of_decide_eq_true z63_
         have hx5 := bt_at a0 x7_1
         replace p5 := eq_true p5
         replace q5 := eq_true q5
         go_wp2_with (first | (go_at_call 33; (fail_if_success (have z_ := U_4)); have U_4 := trivial; (with_reducible refine (strings_IndexByte.calls (⟨#[43, 47, 95, 45, 61]⟩ : ByteArray) (bt a0 x7_1) t110 _ ?gw10_ A8.out).mono ?_); (case gw10_ => exact z14_); rintro e w' ⟨rfl, ⟨nd, rfl⟩⟩))
         go_roundg k1
         case measure => have := HK1.out; omega
         case rel => exact ⟨(wrap64 (x7_1 + 1)), z59_, H', ⟨z66_⟩, z60_⟩
       ·rw [if_neg c7] at H
        have c7b0 : decide ((bt a0 x7_1) < 48) = false := decide_eq_false c7; clear c7
        by_cases c10 : (bt a0 x7_1) > 57
        ·rw [if_pos c10] at H
         have c10b0 : decide (57 < (bt a0 x7_1)) = true := decide_eq_true c10; clear c10
         replace H := Option.bind_eq_some_iff.mp H
         obtain ⟨t111, A110, H⟩ := H
         replace H : (if t111 < 0 then (some false) else (source_random.l0 k1 a0 (a0.size : Int) (wrap64 (x7_1 + 1)))) = some r := H
         have A11 := Aside0.mk A110; clear A110
         by_cases c12 : t111 < 0
         ·rw [if_pos c12] at H
          have c12b0 : decide (t111 < 0) = true := decide_eq_true c12; clear c12
          obtain rfl := Option.some.inj H
          have p5 : 0 ≤ (x7_1 : Int) := of_decide_eq_true z63_
          have q5 : x7_1 < (a0.size : Int) := of_decide_eq_true z63_
          have hx5 := bt_at a0 x7_1
          replace p5 := eq_true p5
          replace q5 := eq_true q5
          go_wp2_with (first | (go_at_call 33; (fail_if_success (have z_ := U_5)); have U_5 := trivial; (with_reducible refine (strings_IndexByte.calls (⟨#[43, 47, 95, 45, 61]⟩ : ByteArray) (bt a0 x7_1) t111 _ ?gw11_ A11.out).mono ?_); (case gw11_ => exact z14_); rintro e w' ⟨rfl, ⟨nd, rfl⟩⟩))
          go_ret
          exact ⟨z59_, z60_⟩
         ·rw [if_neg c12] at H
          have c12b0 : decide (t111 < 0) = false := decide_eq_false c12; clear c12
          have H' := Aside0.mk H
          clear H
          have p5 : 0 ≤ (x7_1 : Int) := of_decide_eq_true z63_
          have q5 : x7_1 < (a0.size : Int) := of_decide_eq_true z63_
          have hx5 := bt_at a0 x7_1
          replace p5 := eq_true p5
          replace q5 := eq_true q5
          go_wp2_with (first | (go_at_call 33; (fail_if_success (have z_ := U_6)); have U_6 := trivial; (with_reducible refine (strings_IndexByte.calls (⟨#[43, 47, 95, 45, 61]⟩ : ByteArray) (bt a0 x7_1) t111 _ ?gw12_ A11.out).mono ?_); (case gw12_ => exact z14_); rintro e w' ⟨rfl, ⟨nd, rfl⟩⟩))
          go_roundg k1
          case measure => have := HK1.out; omega
          case rel => exact ⟨(wrap64 (x7_1 + 1)), z59_, H', ⟨z66_⟩, z60_⟩
        ·rw [if_neg c10] at H
         have c10b0 : decide (57 < (bt a0 x7_1)) = false := decide_eq_false c10; clear c10
         have H' := Aside0.mk H
         clear H
         have p5 : 0 ≤ (x7_1 : Int) := of_decide_eq_true z63_
         have q5 : x7_1 < (a0.size : Int) := of_decide_eq_true z63_
         have hx5 := bt_at a0 x7_1
         replace p5 := eq_true p5
         replace q5 := eq_true q5
         go_wp2
         go_roundg k1
         case measure => have := HK1.out; omega
         case rel => exact ⟨(wrap64 (x7_1 + 1)), z59_, H', ⟨z66_⟩, z60_⟩
      ·rw [if_neg c6] at H
       have c6b0 : decide ((Go.bits .or .u8 (bt a0 x7_1) 32) < 97) = false := decide_eq_false c6; clear c6
       by_cases c13 : (Go.bits .or .u8 (bt a0 x7_1) 32) > 122
       ·rw [if_pos c13] at H
        have c13b0 : decide (122 < (Go.bits .or .u8 (bt a0 x7_1) 32)) = true := decide_eq_true c13; clear c13
        by_cases c14 : (bt a0 x7_1) < 48
        ·rw [if_pos c14] at H
         have c14b0 : decide ((bt a0 x7_1) < 48) = true := decide_eq_true c14; clear c14
         replace H := Option.bind_eq_some_iff.mp H
         obtain ⟨t112, A150, H⟩ := H
         replace H : (if t112 < 0 then (some false) else (source_random.l0 k1 a0 (a0.size : Int) (wrap64 (x7_1 + 1)))) = some r := H
         have A15 := Aside0.mk A150; clear A150
         by_cases c16 : t112 < 0
         ·rw [if_pos c16] at H
          have c16b0 : decide (t112 < 0) = true := decide_eq_true c16; clear c16
          obtain rfl := Option.some.inj H
          have p5 : 0 ≤ (x7_1 : Int) := of_decide_eq_true z63_
          have q5 : x7_1 < (a0.size : Int) := of_decide_eq_true z63_
          have hx5 := bt_at a0 x7_1
          replace p5 := eq_true p5
          replace q5 := eq_true q5
          go_wp2_with (first | (go_at_call 33; (fail_if_success (have z_ := U_7)); have U_7 := trivial; (with_reducible refine (strings_IndexByte.calls (⟨#[43, 47, 95, 45, 61]⟩ : ByteArray) (bt a0 x7_1) t112 _ ?gw13_ A15.out).mono ?_); (case gw13_ => exact z14_); rintro e w' ⟨rfl, ⟨nd, rfl⟩⟩))
          go_ret
          exact ⟨z59_, z60_⟩
         ·rw [if_neg c16] at H
          have c16b0 : decide (t112 < 0) = false := decide_eq_false c16; clear c16
          have H' := Aside0.mk H
          clear H
          have p5 : 0 ≤ (x7_1 : Int) := of_decide_eq_true z63_
          have q5 : x7_1 < (a0.size : Int) := of_decide_eq_true z63_
          have hx5 := bt_at a0 x7_1
          replace p5 := eq_true p5
          replace q5 := eq_true q5
          go_wp2_with (first | (go_at_call 33; (fail_if_success (have z_ := U_8)); have U_8 := trivial; (with_reducible refine (strings_IndexByte.calls (⟨#[43, 47, 95, 45, 61]⟩ : ByteArray) (bt a0 x7_1) t112 _ ?gw14_ A15.out).mono ?_); (case gw14_ => exact z14_); rintro e w' ⟨rfl, ⟨nd, rfl⟩⟩))
          go_roundg k1
          case measure => have := HK1.out; omega
          case rel => exact ⟨(wrap64 (x7_1 + 1)), z59_, H', ⟨z66_⟩, z60_⟩
        ·rw [if_neg c14] at H
         have c14b0 : decide ((bt a0 x7_1) < 48) = false := decide_eq_false c14; clear c14
         by_cases c17 : (bt a0 x7_1) > 57
         ·rw [if_pos c17] at H
          have c17b0 : decide (57 < (bt a0 x7_1)) = true := decide_eq_true c17; clear c17
          replace H := Option.bind_eq_some_iff.mp H
          obtain ⟨t113, A180, H⟩ := H
          replace H : (if t113 < 0 then (some false) else (source_random.l0 k1 a0 (a0.size : Int) (wrap64 (x7_1 + 1)))) = some r := H
          have A18 := Aside0.mk A180; clear A180
          by_cases c19 : t113 < 0
          ·rw [if_pos c19] at H
           have c19b0 : decide (t113 < 0) = true := decide_eq_true c19; clear c19
           obtain rfl := Option.some.inj H
           have p5 : 0 ≤ (x7_1 : Int) := of_decide_eq_true z63_
           have q5 : x7_1 < (a0.size : Int) := of_decide_eq_true z63_
           have hx5 := bt_at a0 x7_1
           replace p5 := eq_true p5
           replace q5 := eq_true q5
           go_wp2_with (first | (go_at_call 33; (fail_if_success (have z_ := U_9)); have U_9 := trivial; (with_reducible refine (strings_IndexByte.calls (⟨#[43, 47, 95, 45, 61]⟩ : ByteArray) (bt a0 x7_1) t113 _ ?gw15_ A18.out).mono ?_); (case gw15_ => exact z14_); rintro e w' ⟨rfl, ⟨nd, rfl⟩⟩))
           go_ret
           exact ⟨z59_, z60_⟩
          ·rw [if_neg c19] at H
           have c19b0 : decide (t113 < 0) = false := decide_eq_false c19; clear c19
           have H' := Aside0.mk H
           clear H
           have p5 : 0 ≤ (x7_1 : Int) := of_decide_eq_true z63_
           have q5 : x7_1 < (a0.size : Int) := of_decide_eq_true z63_
           have hx5 := bt_at a0 x7_1
           replace p5 := eq_true p5
           replace q5 := eq_true q5
           go_wp2_with (first | (go_at_call 33; (fail_if_success (have z_ := U_10)); have U_10 := trivial; (with_reducible refine (strings_IndexByte.calls (⟨#[43, 47, 95, 45, 61]⟩ : ByteArray) (bt a0 x7_1) t113 _ ?gw16_ A18.out).mono ?_); (case gw16_ => exact z14_); rintro e w' ⟨rfl, ⟨nd, rfl⟩⟩))
           go_roundg k1
           case measure => have := HK1.out; omega
           case rel => exact ⟨(wrap64 (x7_1 + 1)), z59_, H', ⟨z66_⟩, z60_⟩
         ·rw [if_neg c17] at H
          have c17b0 : decide (57 < (bt a0 x7_1)) = false := decide_eq_false c17; clear c17
          have H' := Aside0.mk H
          clear H
          have p5 : 0 ≤ (x7_1 : Int) := of_decide_eq_true z63_
          have q5 : x7_1 < (a0.size : Int) := of_decide_eq_true z63_
          have hx5 := bt_at a0 x7_1
          replace p5 := eq_true p5
          replace q5 := eq_true q5
          go_wp2
          go_roundg k1
          case measure => have := HK1.out; omega
          case rel => exact ⟨(wrap64 (x7_1 + 1)), z59_, H', ⟨z66_⟩, z60_⟩
       ·rw [if_neg c13] at H
        have c13b0 : decide (122 < (Go.bits .or .u8 (bt a0 x7_1) 32)) = false := decide_eq_false c13; clear c13
        have H' := Aside0.mk H
        clear H
        have p5 : 0 ≤ (x7_1 : Int) := of_decide_eq_true z63_
        have q5 : x7_1 < (a0.size : Int) := of_decide_eq_true z63_
        have hx5 := bt_at a0 x7_1
        replace p5 := eq_true p5
        replace q5 := eq_true q5
        go_wp2
        go_roundg k1
        case measure => have := HK1.out; omega
        case rel => exact ⟨(wrap64 (x7_1 + 1)), z59_, H', ⟨z66_⟩, z60_⟩
     ·rw [if_neg c4] at H
      exact absurd H (by simp)
    ·rw [if_neg c3] at H
     exact absurd H (by simp)
   ·rw [if_neg c2] at H
    have c2b0 : decide (x7_1 < (a0.size : Int)) = false := decide_eq_false c2; clear c2
    obtain rfl := Option.some.inj H
    go_wp2
    go_ret
    exact ⟨z59_, z60_⟩

def pursuivantref11_nonce.l0 : Nat → ByteArray → Int → Option (Bool)
 | 0, _, _ => none
 | k + 1, x0, x3 => if x3 < (x0.size : Int) then (if 0 ≤ x3 then (if (bt x0 x3) ≥ 48 then (if (bt x0 x3) ≤ 57 then (pursuivantref11_nonce.l0 k x0 (wrap64 (x3 + 1))) else (if (bt x0 x3) ≥ 65 then (if (bt x0 x3) ≤ 90 then (pursuivantref11_nonce.l0 k x0 (wrap64 (x3 + 1))) else (if (bt x0 x3) ≥ 97 then (if (bt x0 x3) ≤ 122 then (pursuivantref11_nonce.l0 k x0 (wrap64 (x3 + 1))) else (if (bt x0 x3) = 43 then (pursuivantref11_nonce.l0 k x0 (wrap64 (x3 + 1))) else (if (bt x0 x3) = 47 then (pursuivantref11_nonce.l0 k x0 (wrap64 (x3 + 1))) else (if (bt x0 x3) = 95 then (pursuivantref11_nonce.l0 k x0 (wrap64 (x3 + 1))) else (if (bt x0 x3) = 45 then (pursuivantref11_nonce.l0 k x0 (wrap64 (x3 + 1))) else (if ((bt x0 x3) = 61) then (pursuivantref11_nonce.l0 k x0 (wrap64 (x3 + 1))) else (some false))))))) else (if (bt x0 x3) = 43 then (pursuivantref11_nonce.l0 k x0 (wrap64 (x3 + 1))) else (if (bt x0 x3) = 47 then (pursuivantref11_nonce.l0 k x0 (wrap64 (x3 + 1))) else (if (bt x0 x3) = 95 then (pursuivantref11_nonce.l0 k x0 (wrap64 (x3 + 1))) else (if (bt x0 x3) = 45 then (pursuivantref11_nonce.l0 k x0 (wrap64 (x3 + 1))) else (if ((bt x0 x3) = 61) then (pursuivantref11_nonce.l0 k x0 (wrap64 (x3 + 1))) else (some false)))))))) else (if (bt x0 x3) ≥ 97 then (if (bt x0 x3) ≤ 122 then (pursuivantref11_nonce.l0 k x0 (wrap64 (x3 + 1))) else (if (bt x0 x3) = 43 then (pursuivantref11_nonce.l0 k x0 (wrap64 (x3 + 1))) else (if (bt x0 x3) = 47 then (pursuivantref11_nonce.l0 k x0 (wrap64 (x3 + 1))) else (if (bt x0 x3) = 95 then (pursuivantref11_nonce.l0 k x0 (wrap64 (x3 + 1))) else (if (bt x0 x3) = 45 then (pursuivantref11_nonce.l0 k x0 (wrap64 (x3 + 1))) else (if ((bt x0 x3) = 61) then (pursuivantref11_nonce.l0 k x0 (wrap64 (x3 + 1))) else (some false))))))) else (if (bt x0 x3) = 43 then (pursuivantref11_nonce.l0 k x0 (wrap64 (x3 + 1))) else (if (bt x0 x3) = 47 then (pursuivantref11_nonce.l0 k x0 (wrap64 (x3 + 1))) else (if (bt x0 x3) = 95 then (pursuivantref11_nonce.l0 k x0 (wrap64 (x3 + 1))) else (if (bt x0 x3) = 45 then (pursuivantref11_nonce.l0 k x0 (wrap64 (x3 + 1))) else (if ((bt x0 x3) = 61) then (pursuivantref11_nonce.l0 k x0 (wrap64 (x3 + 1))) else (some false))))))))) else (if (bt x0 x3) ≥ 65 then (if (bt x0 x3) ≤ 90 then (pursuivantref11_nonce.l0 k x0 (wrap64 (x3 + 1))) else (if (bt x0 x3) ≥ 97 then (if (bt x0 x3) ≤ 122 then (pursuivantref11_nonce.l0 k x0 (wrap64 (x3 + 1))) else (if (bt x0 x3) = 43 then (pursuivantref11_nonce.l0 k x0 (wrap64 (x3 + 1))) else (if (bt x0 x3) = 47 then (pursuivantref11_nonce.l0 k x0 (wrap64 (x3 + 1))) else (if (bt x0 x3) = 95 then (pursuivantref11_nonce.l0 k x0 (wrap64 (x3 + 1))) else (if (bt x0 x3) = 45 then (pursuivantref11_nonce.l0 k x0 (wrap64 (x3 + 1))) else (if ((bt x0 x3) = 61) then (pursuivantref11_nonce.l0 k x0 (wrap64 (x3 + 1))) else (some false))))))) else (if (bt x0 x3) = 43 then (pursuivantref11_nonce.l0 k x0 (wrap64 (x3 + 1))) else (if (bt x0 x3) = 47 then (pursuivantref11_nonce.l0 k x0 (wrap64 (x3 + 1))) else (if (bt x0 x3) = 95 then (pursuivantref11_nonce.l0 k x0 (wrap64 (x3 + 1))) else (if (bt x0 x3) = 45 then (pursuivantref11_nonce.l0 k x0 (wrap64 (x3 + 1))) else (if ((bt x0 x3) = 61) then (pursuivantref11_nonce.l0 k x0 (wrap64 (x3 + 1))) else (some false)))))))) else (if (bt x0 x3) ≥ 97 then (if (bt x0 x3) ≤ 122 then (pursuivantref11_nonce.l0 k x0 (wrap64 (x3 + 1))) else (if (bt x0 x3) = 43 then (pursuivantref11_nonce.l0 k x0 (wrap64 (x3 + 1))) else (if (bt x0 x3) = 47 then (pursuivantref11_nonce.l0 k x0 (wrap64 (x3 + 1))) else (if (bt x0 x3) = 95 then (pursuivantref11_nonce.l0 k x0 (wrap64 (x3 + 1))) else (if (bt x0 x3) = 45 then (pursuivantref11_nonce.l0 k x0 (wrap64 (x3 + 1))) else (if ((bt x0 x3) = 61) then (pursuivantref11_nonce.l0 k x0 (wrap64 (x3 + 1))) else (some false))))))) else (if (bt x0 x3) = 43 then (pursuivantref11_nonce.l0 k x0 (wrap64 (x3 + 1))) else (if (bt x0 x3) = 47 then (pursuivantref11_nonce.l0 k x0 (wrap64 (x3 + 1))) else (if (bt x0 x3) = 95 then (pursuivantref11_nonce.l0 k x0 (wrap64 (x3 + 1))) else (if (bt x0 x3) = 45 then (pursuivantref11_nonce.l0 k x0 (wrap64 (x3 + 1))) else (if ((bt x0 x3) = 61) then (pursuivantref11_nonce.l0 k x0 (wrap64 (x3 + 1))) else (some false))))))))) else (none)) else (some (decide ((x0.size : Int) > 0)))
def pursuivantref11_nonce.f (k : Nat) (a0 : ByteArray) : Option (Bool) := pursuivantref11_nonce.l0 k a0 0
set_option maxHeartbeats 8000000 in
set_option maxRecDepth 100000 in
theorem pursuivantref11_nonce.calls (k : Nat) (a0 : ByteArray) (r : Bool) (w : World) (hG_ : GW w) (h : pursuivantref11_nonce.f k a0 = some r) :
  Calls Tryd.prog 18 #[.string a0] w fun e w' => e = .returned (.bool r) ∧ Drawn0 w w' := by
 have H : (pursuivantref11_nonce.l0 k a0 0) = some r := h
 clear h
 have H' := Aside0.mk H
 clear H
 go_enter Tryd.func18, Tryd.ntmps18
 go_wp2
 go_loopg [3] k (fun kq v3 w' => ∃ (x3_1 : Int), v3 = .int .i64 x3_1 ∧ Aside0 (pursuivantref11_nonce.l0 kq a0 x3_1 = some r) ∧ Aside0 (kq ≤ k) ∧ Drawn0 w w')
 case atStart => exact ⟨(0), z59_, H', ⟨Nat.le_refl _⟩, z60_⟩
 case round =>
  clear H'
  obtain ⟨x3_1, rfl, HA, HK1, ⟨m1, rfl⟩⟩ := hrel
  cases gk with
  | zero => exact absurd HA.out (by simp [pursuivantref11_nonce.l0])
  | succ k1 =>
   have H := HA.out
   clear HA
   simp only [pursuivantref11_nonce.l0] at H
   by_cases c2 : x3_1 < (a0.size : Int)
   ·rw [if_pos c2] at H
    have c2b0 : decide (x3_1 < (a0.size : Int)) = true := decide_eq_true c2; clear c2
    by_cases c3 : 0 ≤ x3_1
    ·rw [if_pos c3] at H
     have c3b0 : decide (0 ≤ x3_1) = true := decide_eq_true c3; clear c3
     by_cases c5 : (bt a0 x3_1) ≥ 48
     ·rw [if_pos c5] at H
      have c5b0 : decide (48 ≤ (bt a0 x3_1)) = true := decide_eq_true c5; clear c5
      by_cases c6 : (bt a0 x3_1) ≤ 57
      ·rw [if_pos c6] at H
       have c6b0 : decide ((bt a0 x3_1) ≤ 57) = true := decide_eq_true c6; clear c6
       have H' := Aside0.mk H
       clear H
       have p4 : 0 ≤ (x3_1 : Int) := of_decide_eq_true z63_
       have q4 : x3_1 < (a0.size : Int) := of_decide_eq_true z63_
       have hx4 := bt_at a0 x3_1
       replace p4 := eq_true p4
       replace q4 := eq_true q4
       go_wp2
       go_roundg k1
       case measure => have := HK1.out; omega
       case rel => exact ⟨(wrap64 (x3_1 + 1)), z59_, H', ⟨z66_⟩, z60_⟩
      ·rw [if_neg c6] at H
       have c6b0 : decide ((bt a0 x3_1) ≤ 57) = false := decide_eq_false c6; clear c6
       by_cases c7 : (bt a0 x3_1) ≥ 65
       ·rw [if_pos c7] at H
        have c7b0 : decide (65 ≤ (bt a0 x3_1)) = true := decide_eq_true c7; clear c7
        by_cases c8 : (bt a0 x3_1) ≤ 90
        ·rw [if_pos c8] at H
         have c8b0 : decide ((bt a0 x3_1) ≤ 90) = true := decide_eq_true c8; clear c8
         have H' := Aside0.mk H
         clear H
         have p4 : 0 ≤ (x3_1 : Int) := of_decide_eq_true z63_
         have q4 : x3_1 < (a0.size : Int) := of_decide_eq_true z63_
         have hx4 := bt_at a0 x3_1
         replace p4 := eq_true p4
         replace q4 := eq_true q4
         go_wp2
         go_roundg k1
         case measure => have := HK1.out; omega
         case rel => exact ⟨(wrap64 (x3_1 + 1)), z59_, H', ⟨z66_⟩, z60_⟩
        ·rw [if_neg c8] at H
         have c8b0 : decide ((bt a0 x3_1) ≤ 90) = false := decide_eq_false c8; clear c8
         by_cases c9 : (bt a0 x3_1) ≥ 97
         ·rw [if_pos c9] at H
          have c9b0 : decide (97 ≤ (bt a0 x3_1)) = true := decide_eq_true c9; clear c9
          by_cases c10 : (bt a0 x3_1) ≤ 122
          ·rw [if_pos c10] at H
           have c10b0 : decide ((bt a0 x3_1) ≤ 122) = true := decide_eq_true c10; clear c10
           have H' := Aside0.mk H
           clear H
           have p4 : 0 ≤ (x3_1 : Int) := of_decide_eq_true z63_
           have q4 : x3_1 < (a0.size : Int) := of_decide_eq_true z63_
           have hx4 := bt_at a0 x3_1
           replace p4 := eq_true p4
           replace q4 := eq_true q4
           go_wp2
           go_roundg k1
           case measure => have := HK1.out; omega
           case rel => exact ⟨(wrap64 (x3_1 + 1)), z59_, H', ⟨z66_⟩, z60_⟩
          ·rw [if_neg c10] at H
           have c10b0 : decide ((bt a0 x3_1) ≤ 122) = false := decide_eq_false c10; clear c10
           by_cases c11 : (bt a0 x3_1) = 43
           ·rw [if_pos c11] at H
            have c11b0 : ((bt a0 x3_1) == 43) = true := beq_iff_eq.mpr c11
            have c11b1 : ((bt a0 x3_1) != 43) = false := bne_eq_false_iff_eq.mpr c11
            clear c11
            have H' := Aside0.mk H
            clear H
            have p4 : 0 ≤ (x3_1 : Int) := of_decide_eq_true z63_
            have q4 : x3_1 < (a0.size : Int) := of_decide_eq_true z63_
            have hx4 := bt_at a0 x3_1
            replace p4 := eq_true p4
            replace q4 := eq_true q4
            go_wp2
            go_roundg k1
            case measure => have := HK1.out; omega
            case rel => exact ⟨(wrap64 (x3_1 + 1)), z59_, H', ⟨z66_⟩, z60_⟩
           ·rw [if_neg c11] at H
            have c11b0 : ((bt a0 x3_1) == 43) = false := beq_eq_false_iff_ne.mpr c11
            have c11b1 : ((bt a0 x3_1) != 43) = true := bne_iff_ne.mpr c11
            by_cases c12 : (bt a0 x3_1) = 47
            ·rw [if_pos c12] at H
             have c12b0 : ((bt a0 x3_1) == 47) = true := beq_iff_eq.mpr c12
             have c12b1 : ((bt a0 x3_1) != 47) = false := bne_eq_false_iff_eq.mpr c12
             clear c12
             have H' := Aside0.mk H
             clear H
             have p4 : 0 ≤ (x3_1 : Int) := of_decide_eq_true z63_
             have q4 : x3_1 < (a0.size : Int) := of_decide_eq_true z63_
             have hx4 := bt_at a0 x3_1
             replace p4 := eq_true p4
             replace q4 := eq_true q4
             go_wp2
             go_roundg k1
             case measure => have := HK1.out; omega
             case rel => exact ⟨(wrap64 (x3_1 + 1)), z59_, H', ⟨z66_⟩, z60_⟩
            ·rw [if_neg c12] at H
             have c12b0 : ((bt a0 x3_1) == 47) = false := beq_eq_false_iff_ne.mpr c12
             have c12b1 : ((bt a0 x3_1) != 47) = true := bne_iff_ne.mpr c12
             by_cases c13 : (bt a0 x3_1) = 95
             ·rw [if_pos c13] at H
              have c13b0 : ((bt a0 x3_1) == 95) = true := beq_iff_eq.mpr c13
              have c13b1 : ((bt a0 x3_1) != 95) = false := bne_eq_false_iff_eq.mpr c13
              clear c13
              have H' := Aside0.mk H
              clear H
              have p4 : 0 ≤ (x3_1 : Int) := of_decide_eq_true z63_
              have q4 : x3_1 < (a0.size : Int) := of_decide_eq_true z63_
              have hx4 := bt_at a0 x3_1
              replace p4 := eq_true p4
              replace q4 := eq_true q4
              go_wp2
              go_roundg k1
              case measure => have := HK1.out; omega
              case rel => exact ⟨(wrap64 (x3_1 + 1)), z59_, H', ⟨z66_⟩, z60_⟩
             ·rw [if_neg c13] at H
              have c13b0 : ((bt a0 x3_1) == 95) = false := beq_eq_false_iff_ne.mpr c13
              have c13b1 : ((bt a0 x3_1) != 95) = true := bne_iff_ne.mpr c13
              by_cases c14 : (bt a0 x3_1) = 45
              ·rw [if_pos c14] at H
               have c14b0 : ((bt a0 x3_1) == 45) = true := beq_iff_eq.mpr c14
               have c14b1 : ((bt a0 x3_1) != 45) = false := bne_eq_false_iff_eq.mpr c14
               clear c14
               have H' := Aside0.mk H
               clear H
               have p4 : 0 ≤ (x3_1 : Int) := of_decide_eq_true z63_
               have q4 : x3_1 < (a0.size : Int) := of_decide_eq_true z63_
               have hx4 := bt_at a0 x3_1
               replace p4 := eq_true p4
               replace q4 := eq_true q4
               go_wp2
               go_roundg k1
               case measure => have := HK1.out; omega
               case rel => exact ⟨(wrap64 (x3_1 + 1)), z59_, H', ⟨z66_⟩, z60_⟩
              ·rw [if_neg c14] at H
               have c14b0 : ((bt a0 x3_1) == 45) = false := beq_eq_false_iff_ne.mpr c14
               have c14b1 : ((bt a0 x3_1) != 45) = true := bne_iff_ne.mpr c14
               by_cases c15 : ((bt a0 x3_1) = 61)
               ·rw [if_pos c15] at H
                have c15b0 : ((bt a0 x3_1) == 61) = true := beq_iff_eq.mpr c15
                have c15b1 : ((bt a0 x3_1) != 61) = false := bne_eq_false_iff_eq.mpr c15
                clear c15
                have H' := Aside0.mk H
                clear H
                have p4 : 0 ≤ (x3_1 : Int) := of_decide_eq_true z63_
                have q4 : x3_1 < (a0.size : Int) := of_decide_eq_true z63_
                have hx4 := bt_at a0 x3_1
                replace p4 := eq_true p4
                replace q4 := eq_true q4
                go_wp2
                go_roundg k1
                case measure => have := HK1.out; omega
                case rel => exact ⟨(wrap64 (x3_1 + 1)), z59_, H', ⟨z66_⟩, z60_⟩
               ·rw [if_neg c15] at H
                have c15b0 : ((bt a0 x3_1) == 61) = false := beq_eq_false_iff_ne.mpr c15
                have c15b1 : ((bt a0 x3_1) != 61) = true := bne_iff_ne.mpr c15
                obtain rfl := Option.some.inj H
                have p4 : 0 ≤ (x3_1 : Int) := of_decide_eq_true z63_
                have q4 : x3_1 < (a0.size : Int) := of_decide_eq_true z63_
                have hx4 := bt_at a0 x3_1
                replace p4 := eq_true p4
                replace q4 := eq_true q4
                go_wp2
                go_ret
                exact ⟨z59_, z60_⟩
         ·rw [if_neg c9] at H
          have c9b0 : decide (97 ≤ (bt a0 x3_1)) = false := decide_eq_false c9; clear c9
          by_cases c16 : (bt a0 x3_1) = 43
          ·rw [if_pos c16] at H
           have c16b0 : ((bt a0 x3_1) == 43) = true := beq_iff_eq.mpr c16
           have c16b1 : ((bt a0 x3_1) != 43) = false := bne_eq_false_iff_eq.mpr c16
           clear c16
           have H' := Aside0.mk H
           clear H
           have p4 : 0 ≤ (x3_1 : Int) := of_decide_eq_true z63_
           have q4 : x3_1 < (a0.size : Int) := of_decide_eq_true z63_
           have hx4 := bt_at a0 x3_1
           replace p4 := eq_true p4
           replace q4 := eq_true q4
           go_wp2
           go_roundg k1
           case measure => have := HK1.out; omega
           case rel => exact ⟨(wrap64 (x3_1 + 1)), z59_, H', ⟨z66_⟩, z60_⟩
          ·rw [if_neg c16] at H
           have c16b0 : ((bt a0 x3_1) == 43) = false := beq_eq_false_iff_ne.mpr c16
           have c16b1 : ((bt a0 x3_1) != 43) = true := bne_iff_ne.mpr c16
           by_cases c17 : (bt a0 x3_1) = 47
           ·rw [if_pos c17] at H
            have c17b0 : ((bt a0 x3_1) == 47) = true := beq_iff_eq.mpr c17
            have c17b1 : ((bt a0 x3_1) != 47) = false := bne_eq_false_iff_eq.mpr c17
            clear c17
            have H' := Aside0.mk H
            clear H
            have p4 : 0 ≤ (x3_1 : Int) := of_decide_eq_true z63_
            have q4 : x3_1 < (a0.size : Int) := of_decide_eq_true z63_
            have hx4 := bt_at a0 x3_1
            replace p4 := eq_true p4
            replace q4 := eq_true q4
            go_wp2
            go_roundg k1
            case measure => have := HK1.out; omega
            case rel => exact ⟨(wrap64 (x3_1 + 1)), z59_, H', ⟨z66_⟩, z60_⟩
           ·rw [if_neg c17] at H
            have c17b0 : ((bt a0 x3_1) == 47) = false := beq_eq_false_iff_ne.mpr c17
            have c17b1 : ((bt a0 x3_1) != 47) = true := bne_iff_ne.mpr c17
            by_cases c18 : (bt a0 x3_1) = 95
            ·rw [if_pos c18] at H
             have c18b0 : ((bt a0 x3_1) == 95) = true := beq_iff_eq.mpr c18
             have c18b1 : ((bt a0 x3_1) != 95) = false := bne_eq_false_iff_eq.mpr c18
             clear c18
             have H' := Aside0.mk H
             clear H
             have p4 : 0 ≤ (x3_1 : Int) := of_decide_eq_true z63_
             have q4 : x3_1 < (a0.size : Int) := of_decide_eq_true z63_
             have hx4 := bt_at a0 x3_1
             replace p4 := eq_true p4
             replace q4 := eq_true q4
             go_wp2
             go_roundg k1
             case measure => have := HK1.out; omega
             case rel => exact ⟨(wrap64 (x3_1 + 1)), z59_, H', ⟨z66_⟩, z60_⟩
            ·rw [if_neg c18] at H
             have c18b0 : ((bt a0 x3_1) == 95) = false := beq_eq_false_iff_ne.mpr c18
             have c18b1 : ((bt a0 x3_1) != 95) = true := bne_iff_ne.mpr c18
             by_cases c19 : (bt a0 x3_1) = 45
             ·rw [if_pos c19] at H
              have c19b0 : ((bt a0 x3_1) == 45) = true := beq_iff_eq.mpr c19
              have c19b1 : ((bt a0 x3_1) != 45) = false := bne_eq_false_iff_eq.mpr c19
              clear c19
              have H' := Aside0.mk H
              clear H
              have p4 : 0 ≤ (x3_1 : Int) := of_decide_eq_true z63_
              have q4 : x3_1 < (a0.size : Int) := of_decide_eq_true z63_
              have hx4 := bt_at a0 x3_1
              replace p4 := eq_true p4
              replace q4 := eq_true q4
              go_wp2
              go_roundg k1
              case measure => have := HK1.out; omega
              case rel => exact ⟨(wrap64 (x3_1 + 1)), z59_, H', ⟨z66_⟩, z60_⟩
             ·rw [if_neg c19] at H
              have c19b0 : ((bt a0 x3_1) == 45) = false := beq_eq_false_iff_ne.mpr c19
              have c19b1 : ((bt a0 x3_1) != 45) = true := bne_iff_ne.mpr c19
              by_cases c20 : ((bt a0 x3_1) = 61)
              ·rw [if_pos c20] at H
               have c20b0 : ((bt a0 x3_1) == 61) = true := beq_iff_eq.mpr c20
               have c20b1 : ((bt a0 x3_1) != 61) = false := bne_eq_false_iff_eq.mpr c20
               clear c20
               have H' := Aside0.mk H
               clear H
               have p4 : 0 ≤ (x3_1 : Int) := of_decide_eq_true z63_
               have q4 : x3_1 < (a0.size : Int) := of_decide_eq_true z63_
               have hx4 := bt_at a0 x3_1
               replace p4 := eq_true p4
               replace q4 := eq_true q4
               go_wp2
               go_roundg k1
               case measure => have := HK1.out; omega
               case rel => exact ⟨(wrap64 (x3_1 + 1)), z59_, H', ⟨z66_⟩, z60_⟩
              ·rw [if_neg c20] at H
               have c20b0 : ((bt a0 x3_1) == 61) = false := beq_eq_false_iff_ne.mpr c20
               have c20b1 : ((bt a0 x3_1) != 61) = true := bne_iff_ne.mpr c20
               obtain rfl := Option.some.inj H
               have p4 : 0 ≤ (x3_1 : Int) := of_decide_eq_true z63_
               have q4 : x3_1 < (a0.size : Int) := of_decide_eq_true z63_
               have hx4 := bt_at a0 x3_1
               replace p4 := eq_true p4
               replace q4 := eq_true q4
               go_wp2
               go_ret
               exact ⟨z59_, z60_⟩
       ·rw [if_neg c7] at H
        have c7b0 : decide (65 ≤ (bt a0 x3_1)) = false := decide_eq_false c7; clear c7
        by_cases c21 : (bt a0 x3_1) ≥ 97
        ·rw [if_pos c21] at H
         have c21b0 : decide (97 ≤ (bt a0 x3_1)) = true := decide_eq_true c21; clear c21
         by_cases c22 : (bt a0 x3_1) ≤ 122
         ·rw [if_pos c22] at H
          have c22b0 : decide ((bt a0 x3_1) ≤ 122) = true := decide_eq_true c22; clear c22
          have H' := Aside0.mk H
          clear H
          have p4 : 0 ≤ (x3_1 : Int) := of_decide_eq_true z63_
          have q4 : x3_1 < (a0.size : Int) := of_decide_eq_true z63_
          have hx4 := bt_at a0 x3_1
          replace p4 := eq_true p4
          replace q4 := eq_true q4
          go_wp2
          go_roundg k1
          case measure => have := HK1.out; omega
          case rel => exact ⟨(wrap64 (x3_1 + 1)), z59_, H', ⟨z66_⟩, z60_⟩
         ·rw [if_neg c22] at H
          have c22b0 : decide ((bt a0 x3_1) ≤ 122) = false := decide_eq_false c22; clear c22
          by_cases c23 : (bt a0 x3_1) = 43
          ·rw [if_pos c23] at H
           have c23b0 : ((bt a0 x3_1) == 43) = true := beq_iff_eq.mpr c23
           have c23b1 : ((bt a0 x3_1) != 43) = false := bne_eq_false_iff_eq.mpr c23
           clear c23
           have H' := Aside0.mk H
           clear H
           have p4 : 0 ≤ (x3_1 : Int) := of_decide_eq_true z63_
           have q4 : x3_1 < (a0.size : Int) := of_decide_eq_true z63_
           have hx4 := bt_at a0 x3_1
           replace p4 := eq_true p4
           replace q4 := eq_true q4
           go_wp2
           go_roundg k1
           case measure => have := HK1.out; omega
           case rel => exact ⟨(wrap64 (x3_1 + 1)), z59_, H', ⟨z66_⟩, z60_⟩
          ·rw [if_neg c23] at H
           have c23b0 : ((bt a0 x3_1) == 43) = false := beq_eq_false_iff_ne.mpr c23
           have c23b1 : ((bt a0 x3_1) != 43) = true := bne_iff_ne.mpr c23
           by_cases c24 : (bt a0 x3_1) = 47
           ·rw [if_pos c24] at H
            have c24b0 : ((bt a0 x3_1) == 47) = true := beq_iff_eq.mpr c24
            have c24b1 : ((bt a0 x3_1) != 47) = false := bne_eq_false_iff_eq.mpr c24
            clear c24
            have H' := Aside0.mk H
            clear H
            have p4 : 0 ≤ (x3_1 : Int) := of_decide_eq_true z63_
            have q4 : x3_1 < (a0.size : Int) := of_decide_eq_true z63_
            have hx4 := bt_at a0 x3_1
            replace p4 := eq_true p4
            replace q4 := eq_true q4
            go_wp2
            go_roundg k1
            case measure => have := HK1.out; omega
            case rel => exact ⟨(wrap64 (x3_1 + 1)), z59_, H', ⟨z66_⟩, z60_⟩
           ·rw [if_neg c24] at H
            have c24b0 : ((bt a0 x3_1) == 47) = false := beq_eq_false_iff_ne.mpr c24
            have c24b1 : ((bt a0 x3_1) != 47) = true := bne_iff_ne.mpr c24
            by_cases c25 : (bt a0 x3_1) = 95
            ·rw [if_pos c25] at H
             have c25b0 : ((bt a0 x3_1) == 95) = true := beq_iff_eq.mpr c25
             have c25b1 : ((bt a0 x3_1) != 95) = false := bne_eq_false_iff_eq.mpr c25
             clear c25
             have H' := Aside0.mk H
             clear H
             have p4 : 0 ≤ (x3_1 : Int) := of_decide_eq_true z63_
             have q4 : x3_1 < (a0.size : Int) := of_decide_eq_true z63_
             have hx4 := bt_at a0 x3_1
             replace p4 := eq_true p4
             replace q4 := eq_true q4
             go_wp2
             go_roundg k1
             case measure => have := HK1.out; omega
             case rel => exact ⟨(wrap64 (x3_1 + 1)), z59_, H', ⟨z66_⟩, z60_⟩
            ·rw [if_neg c25] at H
             have c25b0 : ((bt a0 x3_1) == 95) = false := beq_eq_false_iff_ne.mpr c25
             have c25b1 : ((bt a0 x3_1) != 95) = true := bne_iff_ne.mpr c25
             by_cases c26 : (bt a0 x3_1) = 45
             ·rw [if_pos c26] at H
              have c26b0 : ((bt a0 x3_1) == 45) = true := beq_iff_eq.mpr c26
              have c26b1 : ((bt a0 x3_1) != 45) = false := bne_eq_false_iff_eq.mpr c26
              clear c26
              have H' := Aside0.mk H
              clear H
              have p4 : 0 ≤ (x3_1 : Int) := of_decide_eq_true z63_
              have q4 : x3_1 < (a0.size : Int) := of_decide_eq_true z63_
              have hx4 := bt_at a0 x3_1
              replace p4 := eq_true p4
              replace q4 := eq_true q4
              go_wp2
              go_roundg k1
              case measure => have := HK1.out; omega
              case rel => exact ⟨(wrap64 (x3_1 + 1)), z59_, H', ⟨z66_⟩, z60_⟩
             ·rw [if_neg c26] at H
              have c26b0 : ((bt a0 x3_1) == 45) = false := beq_eq_false_iff_ne.mpr c26
              have c26b1 : ((bt a0 x3_1) != 45) = true := bne_iff_ne.mpr c26
              by_cases c27 : ((bt a0 x3_1) = 61)
              ·rw [if_pos c27] at H
               have c27b0 : ((bt a0 x3_1) == 61) = true := beq_iff_eq.mpr c27
               have c27b1 : ((bt a0 x3_1) != 61) = false := bne_eq_false_iff_eq.mpr c27
               clear c27
               have H' := Aside0.mk H
               clear H
               have p4 : 0 ≤ (x3_1 : Int) := of_decide_eq_true z63_
               have q4 : x3_1 < (a0.size : Int) := of_decide_eq_true z63_
               have hx4 := bt_at a0 x3_1
               replace p4 := eq_true p4
               replace q4 := eq_true q4
               go_wp2
               go_roundg k1
               case measure => have := HK1.out; omega
               case rel => exact ⟨(wrap64 (x3_1 + 1)), z59_, H', ⟨z66_⟩, z60_⟩
              ·rw [if_neg c27] at H
               have c27b0 : ((bt a0 x3_1) == 61) = false := beq_eq_false_iff_ne.mpr c27
               have c27b1 : ((bt a0 x3_1) != 61) = true := bne_iff_ne.mpr c27
               obtain rfl := Option.some.inj H
               have p4 : 0 ≤ (x3_1 : Int) := of_decide_eq_true z63_
               have q4 : x3_1 < (a0.size : Int) := of_decide_eq_true z63_
               have hx4 := bt_at a0 x3_1
               replace p4 := eq_true p4
               replace q4 := eq_true q4
               go_wp2
               go_ret
               exact ⟨z59_, z60_⟩
        ·rw [if_neg c21] at H
         have c21b0 : decide (97 ≤ (bt a0 x3_1)) = false := decide_eq_false c21; clear c21
         by_cases c28 : (bt a0 x3_1) = 43
         ·rw [if_pos c28] at H
          have c28b0 : ((bt a0 x3_1) == 43) = true := beq_iff_eq.mpr c28
          have c28b1 : ((bt a0 x3_1) != 43) = false := bne_eq_false_iff_eq.mpr c28
          clear c28
          have H' := Aside0.mk H
          clear H
          have p4 : 0 ≤ (x3_1 : Int) := of_decide_eq_true z63_
          have q4 : x3_1 < (a0.size : Int) := of_decide_eq_true z63_
          have hx4 := bt_at a0 x3_1
          replace p4 := eq_true p4
          replace q4 := eq_true q4
          go_wp2
          go_roundg k1
          case measure => have := HK1.out; omega
          case rel => exact ⟨(wrap64 (x3_1 + 1)), z59_, H', ⟨z66_⟩, z60_⟩
         ·rw [if_neg c28] at H
          have c28b0 : ((bt a0 x3_1) == 43) = false := beq_eq_false_iff_ne.mpr c28
          have c28b1 : ((bt a0 x3_1) != 43) = true := bne_iff_ne.mpr c28
          by_cases c29 : (bt a0 x3_1) = 47
          ·rw [if_pos c29] at H
           have c29b0 : ((bt a0 x3_1) == 47) = true := beq_iff_eq.mpr c29
           have c29b1 : ((bt a0 x3_1) != 47) = false := bne_eq_false_iff_eq.mpr c29
           clear c29
           have H' := Aside0.mk H
           clear H
           have p4 : 0 ≤ (x3_1 : Int) := of_decide_eq_true z63_
           have q4 : x3_1 < (a0.size : Int) := of_decide_eq_true z63_
           have hx4 := bt_at a0 x3_1
           replace p4 := eq_true p4
           replace q4 := eq_true q4
           go_wp2
           go_roundg k1
           case measure => have := HK1.out; omega
           case rel => exact ⟨(wrap64 (x3_1 + 1)), z59_, H', ⟨z66_⟩, z60_⟩
          ·rw [if_neg c29] at H
           have c29b0 : ((bt a0 x3_1) == 47) = false := beq_eq_false_iff_ne.mpr c29
           have c29b1 : ((bt a0 x3_1) != 47) = true := bne_iff_ne.mpr c29
           by_cases c30 : (bt a0 x3_1) = 95
           ·rw [if_pos c30] at H
            have c30b0 : ((bt a0 x3_1) == 95) = true := beq_iff_eq.mpr c30
            have c30b1 : ((bt a0 x3_1) != 95) = false := bne_eq_false_iff_eq.mpr c30
            clear c30
            have H' := Aside0.mk H
            clear H
            have p4 : 0 ≤ (x3_1 : Int) := of_decide_eq_true z63_
            have q4 : x3_1 < (a0.size : Int) := of_decide_eq_true z63_
            have hx4 := bt_at a0 x3_1
            replace p4 := eq_true p4
            replace q4 := eq_true q4
            go_wp2
            go_roundg k1
            case measure => have := HK1.out; omega
            case rel => exact ⟨(wrap64 (x3_1 + 1)), z59_, H', ⟨z66_⟩, z60_⟩
           ·rw [if_neg c30] at H
            have c30b0 : ((bt a0 x3_1) == 95) = false := beq_eq_false_iff_ne.mpr c30
            have c30b1 : ((bt a0 x3_1) != 95) = true := bne_iff_ne.mpr c30
            by_cases c31 : (bt a0 x3_1) = 45
            ·rw [if_pos c31] at H
             have c31b0 : ((bt a0 x3_1) == 45) = true := beq_iff_eq.mpr c31
             have c31b1 : ((bt a0 x3_1) != 45) = false := bne_eq_false_iff_eq.mpr c31
             clear c31
             have H' := Aside0.mk H
             clear H
             have p4 : 0 ≤ (x3_1 : Int) := of_decide_eq_true z63_
             have q4 : x3_1 < (a0.size : Int) := of_decide_eq_true z63_
             have hx4 := bt_at a0 x3_1
             replace p4 := eq_true p4
             replace q4 := eq_true q4
             go_wp2
             go_roundg k1
             case measure => have := HK1.out; omega
             case rel => exact ⟨(wrap64 (x3_1 + 1)), z59_, H', ⟨z66_⟩, z60_⟩
            ·rw [if_neg c31] at H
             have c31b0 : ((bt a0 x3_1) == 45) = false := beq_eq_false_iff_ne.mpr c31
             have c31b1 : ((bt a0 x3_1) != 45) = true := bne_iff_ne.mpr c31
             by_cases c32 : ((bt a0 x3_1) = 61)
             ·rw [if_pos c32] at H
              have c32b0 : ((bt a0 x3_1) == 61) = true := beq_iff_eq.mpr c32
              have c32b1 : ((bt a0 x3_1) != 61) = false := bne_eq_false_iff_eq.mpr c32
              clear c32
              have H' := Aside0.mk H
              clear H
              have p4 : 0 ≤ (x3_1 : Int) := of_decide_eq_true z63_
              have q4 : x3_1 < (a0.size : Int) := of_decide_eq_true z63_
              have hx4 := bt_at a0 x3_1
              replace p4 := eq_true p4
              replace q4 := eq_true q4
              go_wp2
              go_roundg k1
              case measure => have := HK1.out; omega
              case rel => exact ⟨(wrap64 (x3_1 + 1)), z59_, H', ⟨z66_⟩, z60_⟩
             ·rw [if_neg c32] at H
              have c32b0 : ((bt a0 x3_1) == 61) = false := beq_eq_false_iff_ne.mpr c32
              have c32b1 : ((bt a0 x3_1) != 61) = true := bne_iff_ne.mpr c32
              obtain rfl := Option.some.inj H
              have p4 : 0 ≤ (x3_1 : Int) := of_decide_eq_true z63_
              have q4 : x3_1 < (a0.size : Int) := of_decide_eq_true z63_
              have hx4 := bt_at a0 x3_1
              replace p4 := eq_true p4
              replace q4 := eq_true q4
              go_wp2
              go_ret
              exact ⟨z59_, z60_⟩
     ·rw [if_neg c5] at H
      have c5b0 : decide (48 ≤ (bt a0 x3_1)) = false := decide_eq_false c5; clear c5
      by_cases c33 : (bt a0 x3_1) ≥ 65
      ·rw [if_pos c33] at H
       have c33b0 : decide (65 ≤ (bt a0 x3_1)) = true := decide_eq_true c33; clear c33
       by_cases c34 : (bt a0 x3_1) ≤ 90
       ·rw [if_pos c34] at H
        have c34b0 : decide ((bt a0 x3_1) ≤ 90) = true := decide_eq_true c34; clear c34
        have H' := Aside0.mk H
        clear H
        have p4 : 0 ≤ (x3_1 : Int) := of_decide_eq_true z63_
        have q4 : x3_1 < (a0.size : Int) := of_decide_eq_true z63_
        have hx4 := bt_at a0 x3_1
        replace p4 := eq_true p4
        replace q4 := eq_true q4
        go_wp2
        go_roundg k1
        case measure => have := HK1.out; omega
        case rel => exact ⟨(wrap64 (x3_1 + 1)), z59_, H', ⟨z66_⟩, z60_⟩
       ·rw [if_neg c34] at H
        have c34b0 : decide ((bt a0 x3_1) ≤ 90) = false := decide_eq_false c34; clear c34
        by_cases c35 : (bt a0 x3_1) ≥ 97
        ·rw [if_pos c35] at H
         have c35b0 : decide (97 ≤ (bt a0 x3_1)) = true := decide_eq_true c35; clear c35
         by_cases c36 : (bt a0 x3_1) ≤ 122
         ·rw [if_pos c36] at H
          have c36b0 : decide ((bt a0 x3_1) ≤ 122) = true := decide_eq_true c36; clear c36
          have H' := Aside0.mk H
          clear H
          have p4 : 0 ≤ (x3_1 : Int) := of_decide_eq_true z63_
          have q4 : x3_1 < (a0.size : Int) := of_decide_eq_true z63_
          have hx4 := bt_at a0 x3_1
          replace p4 := eq_true p4
          replace q4 := eq_true q4
          go_wp2
          go_roundg k1
          case measure => have := HK1.out; omega
          case rel => exact ⟨(wrap64 (x3_1 + 1)), z59_, H', ⟨z66_⟩, z60_⟩
         ·rw [if_neg c36] at H
          have c36b0 : decide ((bt a0 x3_1) ≤ 122) = false := decide_eq_false c36; clear c36
          by_cases c37 : (bt a0 x3_1) = 43
          ·rw [if_pos c37] at H
           have c37b0 : ((bt a0 x3_1) == 43) = true := beq_iff_eq.mpr c37
           have c37b1 : ((bt a0 x3_1) != 43) = false := bne_eq_false_iff_eq.mpr c37
           clear c37
           have H' := Aside0.mk H
           clear H
           have p4 : 0 ≤ (x3_1 : Int) := of_decide_eq_true z63_
           have q4 : x3_1 < (a0.size : Int) := of_decide_eq_true z63_
           have hx4 := bt_at a0 x3_1
           replace p4 := eq_true p4
           replace q4 := eq_true q4
           go_wp2
           go_roundg k1
           case measure => have := HK1.out; omega
           case rel => exact ⟨(wrap64 (x3_1 + 1)), z59_, H', ⟨z66_⟩, z60_⟩
          ·rw [if_neg c37] at H
           have c37b0 : ((bt a0 x3_1) == 43) = false := beq_eq_false_iff_ne.mpr c37
           have c37b1 : ((bt a0 x3_1) != 43) = true := bne_iff_ne.mpr c37
           by_cases c38 : (bt a0 x3_1) = 47
           ·rw [if_pos c38] at H
            have c38b0 : ((bt a0 x3_1) == 47) = true := beq_iff_eq.mpr c38
            have c38b1 : ((bt a0 x3_1) != 47) = false := bne_eq_false_iff_eq.mpr c38
            clear c38
            have H' := Aside0.mk H
            clear H
            have p4 : 0 ≤ (x3_1 : Int) := of_decide_eq_true z63_
            have q4 : x3_1 < (a0.size : Int) := of_decide_eq_true z63_
            have hx4 := bt_at a0 x3_1
            replace p4 := eq_true p4
            replace q4 := eq_true q4
            go_wp2
            go_roundg k1
            case measure => have := HK1.out; omega
            case rel => exact ⟨(wrap64 (x3_1 + 1)), z59_, H', ⟨z66_⟩, z60_⟩
           ·rw [if_neg c38] at H
            have c38b0 : ((bt a0 x3_1) == 47) = false := beq_eq_false_iff_ne.mpr c38
            have c38b1 : ((bt a0 x3_1) != 47) = true := bne_iff_ne.mpr c38
            by_cases c39 : (bt a0 x3_1) = 95
            ·rw [if_pos c39] at H
             have c39b0 : ((bt a0 x3_1) == 95) = true := beq_iff_eq.mpr c39
             have c39b1 : ((bt a0 x3_1) != 95) = false := bne_eq_false_iff_eq.mpr c39
             clear c39
             have H' := Aside0.mk H
             clear H
             have p4 : 0 ≤ (x3_1 : Int) := of_decide_eq_true z63_
             have q4 : x3_1 < (a0.size : Int) := of_decide_eq_true z63_
             have hx4 := bt_at a0 x3_1
             replace p4 := eq_true p4
             replace q4 := eq_true q4
             go_wp2
             go_roundg k1
             case measure => have := HK1.out; omega
             case rel => exact ⟨(wrap64 (x3_1 + 1)), z59_, H', ⟨z66_⟩, z60_⟩
            ·rw [if_neg c39] at H
             have c39b0 : ((bt a0 x3_1) == 95) = false := beq_eq_false_iff_ne.mpr c39
             have c39b1 : ((bt a0 x3_1) != 95) = true := bne_iff_ne.mpr c39
             by_cases c40 : (bt a0 x3_1) = 45
             ·rw [if_pos c40] at H
              have c40b0 : ((bt a0 x3_1) == 45) = true := beq_iff_eq.mpr c40
              have c40b1 : ((bt a0 x3_1) != 45) = false := bne_eq_false_iff_eq.mpr c40
              clear c40
              have H' := Aside0.mk H
              clear H
              have p4 : 0 ≤ (x3_1 : Int) := of_decide_eq_true z63_
              have q4 : x3_1 < (a0.size : Int) := of_decide_eq_true z63_
              have hx4 := bt_at a0 x3_1
              replace p4 := eq_true p4
              replace q4 := eq_true q4
              go_wp2
              go_roundg k1
              case measure => have := HK1.out; omega
              case rel => exact ⟨(wrap64 (x3_1 + 1)), z59_, H', ⟨z66_⟩, z60_⟩
             ·rw [if_neg c40] at H
              have c40b0 : ((bt a0 x3_1) == 45) = false := beq_eq_false_iff_ne.mpr c40
              have c40b1 : ((bt a0 x3_1) != 45) = true := bne_iff_ne.mpr c40
              by_cases c41 : ((bt a0 x3_1) = 61)
              ·rw [if_pos c41] at H
               have c41b0 : ((bt a0 x3_1) == 61) = true := beq_iff_eq.mpr c41
               have c41b1 : ((bt a0 x3_1) != 61) = false := bne_eq_false_iff_eq.mpr c41
               clear c41
               have H' := Aside0.mk H
               clear H
               have p4 : 0 ≤ (x3_1 : Int) := of_decide_eq_true z63_
               have q4 : x3_1 < (a0.size : Int) := of_decide_eq_true z63_
               have hx4 := bt_at a0 x3_1
               replace p4 := eq_true p4
               replace q4 := eq_true q4
               go_wp2
               go_roundg k1
               case measure => have := HK1.out; omega
               case rel => exact ⟨(wrap64 (x3_1 + 1)), z59_, H', ⟨z66_⟩, z60_⟩
              ·rw [if_neg c41] at H
               have c41b0 : ((bt a0 x3_1) == 61) = false := beq_eq_false_iff_ne.mpr c41
               have c41b1 : ((bt a0 x3_1) != 61) = true := bne_iff_ne.mpr c41
               obtain rfl := Option.some.inj H
               have p4 : 0 ≤ (x3_1 : Int) := of_decide_eq_true z63_
               have q4 : x3_1 < (a0.size : Int) := of_decide_eq_true z63_
               have hx4 := bt_at a0 x3_1
               replace p4 := eq_true p4
               replace q4 := eq_true q4
               go_wp2
               go_ret
               exact ⟨z59_, z60_⟩
        ·rw [if_neg c35] at H
         have c35b0 : decide (97 ≤ (bt a0 x3_1)) = false := decide_eq_false c35; clear c35
         by_cases c42 : (bt a0 x3_1) = 43
         ·rw [if_pos c42] at H
          have c42b0 : ((bt a0 x3_1) == 43) = true := beq_iff_eq.mpr c42
          have c42b1 : ((bt a0 x3_1) != 43) = false := bne_eq_false_iff_eq.mpr c42
          clear c42
          have H' := Aside0.mk H
          clear H
          have p4 : 0 ≤ (x3_1 : Int) := of_decide_eq_true z63_
          have q4 : x3_1 < (a0.size : Int) := of_decide_eq_true z63_
          have hx4 := bt_at a0 x3_1
          replace p4 := eq_true p4
          replace q4 := eq_true q4
          go_wp2
          go_roundg k1
          case measure => have := HK1.out; omega
          case rel => exact ⟨(wrap64 (x3_1 + 1)), z59_, H', ⟨z66_⟩, z60_⟩
         ·rw [if_neg c42] at H
          have c42b0 : ((bt a0 x3_1) == 43) = false := beq_eq_false_iff_ne.mpr c42
          have c42b1 : ((bt a0 x3_1) != 43) = true := bne_iff_ne.mpr c42
          by_cases c43 : (bt a0 x3_1) = 47
          ·rw [if_pos c43] at H
           have c43b0 : ((bt a0 x3_1) == 47) = true := beq_iff_eq.mpr c43
           have c43b1 : ((bt a0 x3_1) != 47) = false := bne_eq_false_iff_eq.mpr c43
           clear c43
           have H' := Aside0.mk H
           clear H
           have p4 : 0 ≤ (x3_1 : Int) := of_decide_eq_true z63_
           have q4 : x3_1 < (a0.size : Int) := of_decide_eq_true z63_
           have hx4 := bt_at a0 x3_1
           replace p4 := eq_true p4
           replace q4 := eq_true q4
           go_wp2
           go_roundg k1
           case measure => have := HK1.out; omega
           case rel => exact ⟨(wrap64 (x3_1 + 1)), z59_, H', ⟨z66_⟩, z60_⟩
          ·rw [if_neg c43] at H
           have c43b0 : ((bt a0 x3_1) == 47) = false := beq_eq_false_iff_ne.mpr c43
           have c43b1 : ((bt a0 x3_1) != 47) = true := bne_iff_ne.mpr c43
           by_cases c44 : (bt a0 x3_1) = 95
           ·rw [if_pos c44] at H
            have c44b0 : ((bt a0 x3_1) == 95) = true := beq_iff_eq.mpr c44
            have c44b1 : ((bt a0 x3_1) != 95) = false := bne_eq_false_iff_eq.mpr c44
            clear c44
            have H' := Aside0.mk H
            clear H
            have p4 : 0 ≤ (x3_1 : Int) := of_decide_eq_true z63_
            have q4 : x3_1 < (a0.size : Int) := of_decide_eq_true z63_
            have hx4 := bt_at a0 x3_1
            replace p4 := eq_true p4
            replace q4 := eq_true q4
            go_wp2
            go_roundg k1
            case measure => have := HK1.out; omega
            case rel => exact ⟨(wrap64 (x3_1 + 1)), z59_, H', ⟨z66_⟩, z60_⟩
           ·rw [if_neg c44] at H
            have c44b0 : ((bt a0 x3_1) == 95) = false := beq_eq_false_iff_ne.mpr c44
            have c44b1 : ((bt a0 x3_1) != 95) = true := bne_iff_ne.mpr c44
            by_cases c45 : (bt a0 x3_1) = 45
            ·rw [if_pos c45] at H
             have c45b0 : ((bt a0 x3_1) == 45) = true := beq_iff_eq.mpr c45
             have c45b1 : ((bt a0 x3_1) != 45) = false := bne_eq_false_iff_eq.mpr c45
             clear c45
             have H' := Aside0.mk H
             clear H
             have p4 : 0 ≤ (x3_1 : Int) := of_decide_eq_true z63_
             have q4 : x3_1 < (a0.size : Int) := of_decide_eq_true z63_
             have hx4 := bt_at a0 x3_1
             replace p4 := eq_true p4
             replace q4 := eq_true q4
             go_wp2
             go_roundg k1
             case measure => have := HK1.out; omega
             case rel => exact ⟨(wrap64 (x3_1 + 1)), z59_, H', ⟨z66_⟩, z60_⟩
            ·rw [if_neg c45] at H
             have c45b0 : ((bt a0 x3_1) == 45) = false := beq_eq_false_iff_ne.mpr c45
             have c45b1 : ((bt a0 x3_1) != 45) = true := bne_iff_ne.mpr c45
             by_cases c46 : ((bt a0 x3_1) = 61)
             ·rw [if_pos c46] at H
              have c46b0 : ((bt a0 x3_1) == 61) = true := beq_iff_eq.mpr c46
              have c46b1 : ((bt a0 x3_1) != 61) = false := bne_eq_false_iff_eq.mpr c46
              clear c46
              have H' := Aside0.mk H
              clear H
              have p4 : 0 ≤ (x3_1 : Int) := of_decide_eq_true z63_
              have q4 : x3_1 < (a0.size : Int) := of_decide_eq_true z63_
              have hx4 := bt_at a0 x3_1
              replace p4 := eq_true p4
              replace q4 := eq_true q4
              go_wp2
              go_roundg k1
              case measure => have := HK1.out; omega
              case rel => exact ⟨(wrap64 (x3_1 + 1)), z59_, H', ⟨z66_⟩, z60_⟩
             ·rw [if_neg c46] at H
              have c46b0 : ((bt a0 x3_1) == 61) = false := beq_eq_false_iff_ne.mpr c46
              have c46b1 : ((bt a0 x3_1) != 61) = true := bne_iff_ne.mpr c46
              obtain rfl := Option.some.inj H
              have p4 : 0 ≤ (x3_1 : Int) := of_decide_eq_true z63_
              have q4 : x3_1 < (a0.size : Int) := of_decide_eq_true z63_
              have hx4 := bt_at a0 x3_1
              replace p4 := eq_true p4
              replace q4 := eq_true q4
              go_wp2
              go_ret
              exact ⟨z59_, z60_⟩
      ·rw [if_neg c33] at H
       have c33b0 : decide (65 ≤ (bt a0 x3_1)) = false := decide_eq_false c33; clear c33
       by_cases c47 : (bt a0 x3_1) ≥ 97
       ·rw [if_pos c47] at H
        have c47b0 : decide (97 ≤ (bt a0 x3_1)) = true := decide_eq_true c47; clear c47
        by_cases c48 : (bt a0 x3_1) ≤ 122
        ·rw [if_pos c48] at H
         have c48b0 : decide ((bt a0 x3_1) ≤ 122) = true := decide_eq_true c48; clear c48
         have H' := Aside0.mk H
         clear H
         have p4 : 0 ≤ (x3_1 : Int) := of_decide_eq_true z63_
         have q4 : x3_1 < (a0.size : Int) := of_decide_eq_true z63_
         have hx4 := bt_at a0 x3_1
         replace p4 := eq_true p4
         replace q4 := eq_true q4
         go_wp2
         go_roundg k1
         case measure => have := HK1.out; omega
         case rel => exact ⟨(wrap64 (x3_1 + 1)), z59_, H', ⟨z66_⟩, z60_⟩
        ·rw [if_neg c48] at H
         have c48b0 : decide ((bt a0 x3_1) ≤ 122) = false := decide_eq_false c48; clear c48
         by_cases c49 : (bt a0 x3_1) = 43
         ·rw [if_pos c49] at H
          have c49b0 : ((bt a0 x3_1) == 43) = true := beq_iff_eq.mpr c49
          have c49b1 : ((bt a0 x3_1) != 43) = false := bne_eq_false_iff_eq.mpr c49
          clear c49
          have H' := Aside0.mk H
          clear H
          have p4 : 0 ≤ (x3_1 : Int) := of_decide_eq_true z63_
          have q4 : x3_1 < (a0.size : Int) := of_decide_eq_true z63_
          have hx4 := bt_at a0 x3_1
          replace p4 := eq_true p4
          replace q4 := eq_true q4
          go_wp2
          go_roundg k1
          case measure => have := HK1.out; omega
          case rel => exact ⟨(wrap64 (x3_1 + 1)), z59_, H', ⟨z66_⟩, z60_⟩
         ·rw [if_neg c49] at H
          have c49b0 : ((bt a0 x3_1) == 43) = false := beq_eq_false_iff_ne.mpr c49
          have c49b1 : ((bt a0 x3_1) != 43) = true := bne_iff_ne.mpr c49
          by_cases c50 : (bt a0 x3_1) = 47
          ·rw [if_pos c50] at H
           have c50b0 : ((bt a0 x3_1) == 47) = true := beq_iff_eq.mpr c50
           have c50b1 : ((bt a0 x3_1) != 47) = false := bne_eq_false_iff_eq.mpr c50
           clear c50
           have H' := Aside0.mk H
           clear H
           have p4 : 0 ≤ (x3_1 : Int) := of_decide_eq_true z63_
           have q4 : x3_1 < (a0.size : Int) := of_decide_eq_true z63_
           have hx4 := bt_at a0 x3_1
           replace p4 := eq_true p4
           replace q4 := eq_true q4
           go_wp2
           go_roundg k1
           case measure => have := HK1.out; omega
           case rel => exact ⟨(wrap64 (x3_1 + 1)), z59_, H', ⟨z66_⟩, z60_⟩
          ·rw [if_neg c50] at H
           have c50b0 : ((bt a0 x3_1) == 47) = false := beq_eq_false_iff_ne.mpr c50
           have c50b1 : ((bt a0 x3_1) != 47) = true := bne_iff_ne.mpr c50
           by_cases c51 : (bt a0 x3_1) = 95
           ·rw [if_pos c51] at H
            have c51b0 : ((bt a0 x3_1) == 95) = true := beq_iff_eq.mpr c51
            have c51b1 : ((bt a0 x3_1) != 95) = false := bne_eq_false_iff_eq.mpr c51
            clear c51
            have H' := Aside0.mk H
            clear H
            have p4 : 0 ≤ (x3_1 : Int) := of_decide_eq_true z63_
            have q4 : x3_1 < (a0.size : Int) := of_decide_eq_true z63_
            have hx4 := bt_at a0 x3_1
            replace p4 := eq_true p4
            replace q4 := eq_true q4
            go_wp2
            go_roundg k1
            case measure => have := HK1.out; omega
            case rel => exact ⟨(wrap64 (x3_1 + 1)), z59_, H', ⟨z66_⟩, z60_⟩
           ·rw [if_neg c51] at H
            have c51b0 : ((bt a0 x3_1) == 95) = false := beq_eq_false_iff_ne.mpr c51
            have c51b1 : ((bt a0 x3_1) != 95) = true := bne_iff_ne.mpr c51
            by_cases c52 : (bt a0 x3_1) = 45
            ·rw [if_pos c52] at H
             have c52b0 : ((bt a0 x3_1) == 45) = true := beq_iff_eq.mpr c52
             have c52b1 : ((bt a0 x3_1) != 45) = false := bne_eq_false_iff_eq.mpr c52
             clear c52
             have H' := Aside0.mk H
             clear H
             have p4 : 0 ≤ (x3_1 : Int) := of_decide_eq_true z63_
             have q4 : x3_1 < (a0.size : Int) := of_decide_eq_true z63_
             have hx4 := bt_at a0 x3_1
             replace p4 := eq_true p4
             replace q4 := eq_true q4
             go_wp2
             go_roundg k1
             case measure => have := HK1.out; omega
             case rel => exact ⟨(wrap64 (x3_1 + 1)), z59_, H', ⟨z66_⟩, z60_⟩
            ·rw [if_neg c52] at H
             have c52b0 : ((bt a0 x3_1) == 45) = false := beq_eq_false_iff_ne.mpr c52
             have c52b1 : ((bt a0 x3_1) != 45) = true := bne_iff_ne.mpr c52
             by_cases c53 : ((bt a0 x3_1) = 61)
             ·rw [if_pos c53] at H
              have c53b0 : ((bt a0 x3_1) == 61) = true := beq_iff_eq.mpr c53
              have c53b1 : ((bt a0 x3_1) != 61) = false := bne_eq_false_iff_eq.mpr c53
              clear c53
              have H' := Aside0.mk H
              clear H
              have p4 : 0 ≤ (x3_1 : Int) := of_decide_eq_true z63_
              have q4 : x3_1 < (a0.size : Int) := of_decide_eq_true z63_
              have hx4 := bt_at a0 x3_1
              replace p4 := eq_true p4
              replace q4 := eq_true q4
              go_wp2
              go_roundg k1
              case measure => have := HK1.out; omega
              case rel => exact ⟨(wrap64 (x3_1 + 1)), z59_, H', ⟨z66_⟩, z60_⟩
             ·rw [if_neg c53] at H
              have c53b0 : ((bt a0 x3_1) == 61) = false := beq_eq_false_iff_ne.mpr c53
              have c53b1 : ((bt a0 x3_1) != 61) = true := bne_iff_ne.mpr c53
              obtain rfl := Option.some.inj H
              have p4 : 0 ≤ (x3_1 : Int) := of_decide_eq_true z63_
              have q4 : x3_1 < (a0.size : Int) := of_decide_eq_true z63_
              have hx4 := bt_at a0 x3_1
              replace p4 := eq_true p4
              replace q4 := eq_true q4
              go_wp2
              go_ret
              exact ⟨z59_, z60_⟩
       ·rw [if_neg c47] at H
        have c47b0 : decide (97 ≤ (bt a0 x3_1)) = false := decide_eq_false c47; clear c47
        by_cases c54 : (bt a0 x3_1) = 43
        ·rw [if_pos c54] at H
         have c54b0 : ((bt a0 x3_1) == 43) = true := beq_iff_eq.mpr c54
         have c54b1 : ((bt a0 x3_1) != 43) = false := bne_eq_false_iff_eq.mpr c54
         clear c54
         have H' := Aside0.mk H
         clear H
         have p4 : 0 ≤ (x3_1 : Int) := of_decide_eq_true z63_
         have q4 : x3_1 < (a0.size : Int) := of_decide_eq_true z63_
         have hx4 := bt_at a0 x3_1
         replace p4 := eq_true p4
         replace q4 := eq_true q4
         go_wp2
         go_roundg k1
         case measure => have := HK1.out; omega
         case rel => exact ⟨(wrap64 (x3_1 + 1)), z59_, H', ⟨z66_⟩, z60_⟩
        ·rw [if_neg c54] at H
         have c54b0 : ((bt a0 x3_1) == 43) = false := beq_eq_false_iff_ne.mpr c54
         have c54b1 : ((bt a0 x3_1) != 43) = true := bne_iff_ne.mpr c54
         by_cases c55 : (bt a0 x3_1) = 47
         ·rw [if_pos c55] at H
          have c55b0 : ((bt a0 x3_1) == 47) = true := beq_iff_eq.mpr c55
          have c55b1 : ((bt a0 x3_1) != 47) = false := bne_eq_false_iff_eq.mpr c55
          clear c55
          have H' := Aside0.mk H
          clear H
          have p4 : 0 ≤ (x3_1 : Int) := of_decide_eq_true z63_
          have q4 : x3_1 < (a0.size : Int) := of_decide_eq_true z63_
          have hx4 := bt_at a0 x3_1
          replace p4 := eq_true p4
          replace q4 := eq_true q4
          go_wp2
          go_roundg k1
          case measure => have := HK1.out; omega
          case rel => exact ⟨(wrap64 (x3_1 + 1)), z59_, H', ⟨z66_⟩, z60_⟩
         ·rw [if_neg c55] at H
          have c55b0 : ((bt a0 x3_1) == 47) = false := beq_eq_false_iff_ne.mpr c55
          have c55b1 : ((bt a0 x3_1) != 47) = true := bne_iff_ne.mpr c55
          by_cases c56 : (bt a0 x3_1) = 95
          ·rw [if_pos c56] at H
           have c56b0 : ((bt a0 x3_1) == 95) = true := beq_iff_eq.mpr c56
           have c56b1 : ((bt a0 x3_1) != 95) = false := bne_eq_false_iff_eq.mpr c56
           clear c56
           have H' := Aside0.mk H
           clear H
           have p4 : 0 ≤ (x3_1 : Int) := of_decide_eq_true z63_
           have q4 : x3_1 < (a0.size : Int) := of_decide_eq_true z63_
           have hx4 := bt_at a0 x3_1
           replace p4 := eq_true p4
           replace q4 := eq_true q4
           go_wp2
           go_roundg k1
           case measure => have := HK1.out; omega
           case rel => exact ⟨(wrap64 (x3_1 + 1)), z59_, H', ⟨z66_⟩, z60_⟩
          ·rw [if_neg c56] at H
           have c56b0 : ((bt a0 x3_1) == 95) = false := beq_eq_false_iff_ne.mpr c56
           have c56b1 : ((bt a0 x3_1) != 95) = true := bne_iff_ne.mpr c56
           by_cases c57 : (bt a0 x3_1) = 45
           ·rw [if_pos c57] at H
            have c57b0 : ((bt a0 x3_1) == 45) = true := beq_iff_eq.mpr c57
            have c57b1 : ((bt a0 x3_1) != 45) = false := bne_eq_false_iff_eq.mpr c57
            clear c57
            have H' := Aside0.mk H
            clear H
            have p4 : 0 ≤ (x3_1 : Int) := of_decide_eq_true z63_
            have q4 : x3_1 < (a0.size : Int) := of_decide_eq_true z63_
            have hx4 := bt_at a0 x3_1
            replace p4 := eq_true p4
            replace q4 := eq_true q4
            go_wp2
            go_roundg k1
            case measure => have := HK1.out; omega
            case rel => exact ⟨(wrap64 (x3_1 + 1)), z59_, H', ⟨z66_⟩, z60_⟩
           ·rw [if_neg c57] at H
            have c57b0 : ((bt a0 x3_1) == 45) = false := beq_eq_false_iff_ne.mpr c57
            have c57b1 : ((bt a0 x3_1) != 45) = true := bne_iff_ne.mpr c57
            by_cases c58 : ((bt a0 x3_1) = 61)
            ·rw [if_pos c58] at H
             have c58b0 : ((bt a0 x3_1) == 61) = true := beq_iff_eq.mpr c58
             have c58b1 : ((bt a0 x3_1) != 61) = false := bne_eq_false_iff_eq.mpr c58
             clear c58
             have H' := Aside0.mk H
             clear H
             have p4 : 0 ≤ (x3_1 : Int) := of_decide_eq_true z63_
             have q4 : x3_1 < (a0.size : Int) := of_decide_eq_true z63_
             have hx4 := bt_at a0 x3_1
             replace p4 := eq_true p4
             replace q4 := eq_true q4
             go_wp2
             go_roundg k1
             case measure => have := HK1.out; omega
             case rel => exact ⟨(wrap64 (x3_1 + 1)), z59_, H', ⟨z66_⟩, z60_⟩
            ·rw [if_neg c58] at H
             have c58b0 : ((bt a0 x3_1) == 61) = false := beq_eq_false_iff_ne.mpr c58
             have c58b1 : ((bt a0 x3_1) != 61) = true := bne_iff_ne.mpr c58
             obtain rfl := Option.some.inj H
             have p4 : 0 ≤ (x3_1 : Int) := of_decide_eq_true z63_
             have q4 : x3_1 < (a0.size : Int) := of_decide_eq_true z63_
             have hx4 := bt_at a0 x3_1
             replace p4 := eq_true p4
             replace q4 := eq_true q4
             go_wp2
             go_ret
             exact ⟨z59_, z60_⟩
    ·rw [if_neg c3] at H
     exact absurd H (by simp)
   ·rw [if_neg c2] at H
    have c2b0 : decide (x3_1 < (a0.size : Int)) = false := decide_eq_false c2; clear c2
    obtain rfl := Option.some.inj H
    go_wp2
    go_ret
    exact ⟨z59_, z60_⟩

def pursuivantref06_bad.j0 : Nat → Int → Int → Bool → Option (Bool)
 | 0, _, _, _ => none
 | k + 1, x0, x1, x5 => if x5 = true then (some true) else (if x0 = 35 then (some (decide (x1 < 3))) else (if x0 = 63 then (some (decide (x1 < 2))) else (if x1 = 0 then (if x0 = 47 then (some true) else (some (x0 == 64))) else (some false))))
def pursuivantref06_bad.f (k : Nat) (a0 a1 : Int) : Option (Bool) := if a0 < 33 then (pursuivantref06_bad.j0 k a0 a1 true) else (if a0 > 126 then (pursuivantref06_bad.j0 k a0 a1 true) else (if a0 = 34 then (pursuivantref06_bad.j0 k a0 a1 true) else (if a0 = 60 then (pursuivantref06_bad.j0 k a0 a1 true) else (if a0 = 62 then (pursuivantref06_bad.j0 k a0 a1 true) else (if a0 = 92 then (pursuivantref06_bad.j0 k a0 a1 true) else (if a0 = 94 then (pursuivantref06_bad.j0 k a0 a1 true) else (if a0 = 96 then (pursuivantref06_bad.j0 k a0 a1 true) else (if a0 = 123 then (pursuivantref06_bad.j0 k a0 a1 true) else (if a0 = 124 then (pursuivantref06_bad.j0 k a0 a1 true) else (pursuivantref06_bad.j0 k a0 a1 (a0 == 125)))))))))))
theorem pursuivantref06_bad.mono_l : ∀ k, (∀ y0 y1 y2, LeO (pursuivantref06_bad.j0 k y0 y1 y2) (pursuivantref06_bad.j0 (k + 1) y0 y1 y2))
 | 0 => fun _ _ _ r h => by simp [pursuivantref06_bad.j0] at h
 | k + 1 => by
  have ih0 := pursuivantref06_bad.mono_l k
  ·intro y0 y1 y2
   unfold pursuivantref06_bad.j0
   repeat' first
   | (with_reducible exact ih0 _ _ _)
   | (with_reducible exact LeO.refl _)
   | (with_reducible exact LeO.none _)
   | (with_reducible refine LeO.ite ?_ ?_)
   | (with_reducible refine LeO.bind ?_ (fun _ => ?_))
   | exact ih0 _ _ _
   | exact LeO.none _
   | refine LeO.ite ?_ ?_
   | refine LeO.bind ?_ (fun _ => ?_)
theorem pursuivantref06_bad.mono : ∀ a0 a1 k, LeO (pursuivantref06_bad.f k a0 a1) (pursuivantref06_bad.f (k + 1) a0 a1) := by
 intro a0 a1 k
 have ih0 := pursuivantref06_bad.mono_l k
 unfold pursuivantref06_bad.f
 repeat' first
   | (with_reducible exact ih0 _ _ _)
   | (with_reducible exact LeO.refl _)
   | (with_reducible exact LeO.none _)
   | (with_reducible refine LeO.ite ?_ ?_)
   | (with_reducible refine LeO.bind ?_ (fun _ => ?_))
   | exact ih0 _ _ _
   | exact LeO.none _
   | refine LeO.ite ?_ ?_
   | refine LeO.bind ?_ (fun _ => ?_)
set_option maxHeartbeats 8000000 in
set_option maxRecDepth 100000 in
theorem pursuivantref06_bad.calls (k : Nat) (a0 a1 : Int) (r : Bool) (w : World) (hG_ : GW w) (h : pursuivantref06_bad.f k a0 a1 = some r) :
  Calls Tryd.prog 66 #[.int .u8 a0, .int .i64 a1] w fun e w' => e = .returned (.bool r) ∧ Drawn0 w w' := by
 have H : (if a0 < 33 then (pursuivantref06_bad.j0 k a0 a1 true) else (if a0 > 126 then (pursuivantref06_bad.j0 k a0 a1 true) else (if a0 = 34 then (pursuivantref06_bad.j0 k a0 a1 true) else (if a0 = 60 then (pursuivantref06_bad.j0 k a0 a1 true) else (if a0 = 62 then (pursuivantref06_bad.j0 k a0 a1 true) else (if a0 = 92 then (pursuivantref06_bad.j0 k a0 a1 true) else (if a0 = 94 then (pursuivantref06_bad.j0 k a0 a1 true) else (if a0 = 96 then (pursuivantref06_bad.j0 k a0 a1 true) else (if a0 = 123 then (pursuivantref06_bad.j0 k a0 a1 true) else (if a0 = 124 then (pursuivantref06_bad.j0 k a0 a1 true) else (pursuivantref06_bad.j0 k a0 a1 (a0 == 125)))))))))))) = some r := h
 clear h; have HC3 := Aside0.mk H; clear H
 go_enter Tryd.func66, Tryd.ntmps66
 go_upto_region 1 with (fail)
 go_cut [5] (fun v5 wc => ∃ (kq : Nat) (x5_2 : Bool), v5 = .bool x5_2 ∧ Aside0 (pursuivantref06_bad.j0 kq a0 a1 x5_2 = some r) ∧ Aside0 (kq ≤ k) ∧ Drawn0 w wc)
 case first =>
  have H := HC3.out
  clear HC3
  by_cases c4 : a0 < 33
  ·rw [if_pos c4] at H
   have c4b0 : decide (a0 < 33) = true := decide_eq_true c4; clear c4
   (first | rw [c4b0] | (simp only [i64_w, i32_w]; rw [c4b0]) | skip)
   have H' := Aside0.mk H
   clear H; go_wp2; go_meet
   case rel => exact ⟨_, (true), z59_, H', ⟨z65_⟩, z60_⟩
  ·rw [if_neg c4] at H
   have c4b0 : decide (a0 < 33) = false := decide_eq_false c4; clear c4
   (first | rw [c4b0] | (simp only [i64_w, i32_w]; rw [c4b0]) | skip)
   by_cases c5 : a0 > 126
   ·rw [if_pos c5] at H
    have c5b0 : decide (126 < a0) = true := decide_eq_true c5; clear c5
    have H' := Aside0.mk H
    clear H; go_wp2; go_meet
    case rel => exact ⟨_, (true), z59_, H', ⟨z65_⟩, z60_⟩
   ·rw [if_neg c5] at H
    have c5b0 : decide (126 < a0) = false := decide_eq_false c5; clear c5
    by_cases c6 : a0 = 34
    ·rw [if_pos c6] at H
     have c6b0 : (a0 == 34) = true := beq_iff_eq.mpr c6
     have c6b1 : (a0 != 34) = false := bne_eq_false_iff_eq.mpr c6
     clear c6
     have H' := Aside0.mk H
     clear H; go_wp2; go_meet
     case rel => exact ⟨_, (true), z59_, H', ⟨z65_⟩, z60_⟩
    ·rw [if_neg c6] at H
     have c6b0 : (a0 == 34) = false := beq_eq_false_iff_ne.mpr c6
     have c6b1 : (a0 != 34) = true := bne_iff_ne.mpr c6
     by_cases c7 : a0 = 60
     ·rw [if_pos c7] at H
      have c7b0 : (a0 == 60) = true := beq_iff_eq.mpr c7
      have c7b1 : (a0 != 60) = false := bne_eq_false_iff_eq.mpr c7
      clear c7
      have H' := Aside0.mk H
      clear H; go_wp2; go_meet
      case rel => exact ⟨_, (true), z59_, H', ⟨z65_⟩, z60_⟩
     ·rw [if_neg c7] at H
      have c7b0 : (a0 == 60) = false := beq_eq_false_iff_ne.mpr c7
      have c7b1 : (a0 != 60) = true := bne_iff_ne.mpr c7
      by_cases c8 : a0 = 62
      ·rw [if_pos c8] at H
       have c8b0 : (a0 == 62) = true := beq_iff_eq.mpr c8
       have c8b1 : (a0 != 62) = false := bne_eq_false_iff_eq.mpr c8
       clear c8
       have H' := Aside0.mk H
       clear H; go_wp2; go_meet
       case rel => exact ⟨_, (true), z59_, H', ⟨z65_⟩, z60_⟩
      ·rw [if_neg c8] at H
       have c8b0 : (a0 == 62) = false := beq_eq_false_iff_ne.mpr c8
       have c8b1 : (a0 != 62) = true := bne_iff_ne.mpr c8
       by_cases c9 : a0 = 92
       ·rw [if_pos c9] at H
        have c9b0 : (a0 == 92) = true := beq_iff_eq.mpr c9
        have c9b1 : (a0 != 92) = false := bne_eq_false_iff_eq.mpr c9
        clear c9
        have H' := Aside0.mk H
        clear H; go_wp2; go_meet
        case rel => exact ⟨_, (true), z59_, H', ⟨z65_⟩, z60_⟩
       ·rw [if_neg c9] at H
        have c9b0 : (a0 == 92) = false := beq_eq_false_iff_ne.mpr c9
        have c9b1 : (a0 != 92) = true := bne_iff_ne.mpr c9
        by_cases c10 : a0 = 94
        ·rw [if_pos c10] at H
         have c10b0 : (a0 == 94) = true := beq_iff_eq.mpr c10
         have c10b1 : (a0 != 94) = false := bne_eq_false_iff_eq.mpr c10
         clear c10
         have H' := Aside0.mk H
         clear H; go_wp2; go_meet
         case rel => exact ⟨_, (true), z59_, H', ⟨z65_⟩, z60_⟩
        ·rw [if_neg c10] at H
         have c10b0 : (a0 == 94) = false := beq_eq_false_iff_ne.mpr c10
         have c10b1 : (a0 != 94) = true := bne_iff_ne.mpr c10
         by_cases c11 : a0 = 96
         ·rw [if_pos c11] at H
          have c11b0 : (a0 == 96) = true := beq_iff_eq.mpr c11
          have c11b1 : (a0 != 96) = false := bne_eq_false_iff_eq.mpr c11
          clear c11
          have H' := Aside0.mk H
          clear H; go_wp2; go_meet
          case rel => exact ⟨_, (true), z59_, H', ⟨z65_⟩, z60_⟩
         ·rw [if_neg c11] at H
          have c11b0 : (a0 == 96) = false := beq_eq_false_iff_ne.mpr c11
          have c11b1 : (a0 != 96) = true := bne_iff_ne.mpr c11
          by_cases c12 : a0 = 123
          ·rw [if_pos c12] at H
           have c12b0 : (a0 == 123) = true := beq_iff_eq.mpr c12
           have c12b1 : (a0 != 123) = false := bne_eq_false_iff_eq.mpr c12
           clear c12
           have H' := Aside0.mk H
           clear H; go_wp2; go_meet
           case rel => exact ⟨_, (true), z59_, H', ⟨z65_⟩, z60_⟩
          ·rw [if_neg c12] at H
           have c12b0 : (a0 == 123) = false := beq_eq_false_iff_ne.mpr c12
           have c12b1 : (a0 != 123) = true := bne_iff_ne.mpr c12
           by_cases c13 : a0 = 124
           ·rw [if_pos c13] at H
            have c13b0 : (a0 == 124) = true := beq_iff_eq.mpr c13
            have c13b1 : (a0 != 124) = false := bne_eq_false_iff_eq.mpr c13
            clear c13
            have H' := Aside0.mk H
            clear H; go_wp2; go_meet
            case rel => exact ⟨_, (true), z59_, H', ⟨z65_⟩, z60_⟩
           ·rw [if_neg c13] at H
            have c13b0 : (a0 == 124) = false := beq_eq_false_iff_ne.mpr c13
            have c13b1 : (a0 != 124) = true := bne_iff_ne.mpr c13
            have H' := Aside0.mk H
            clear H; go_wp2; go_meet
            case rel => exact ⟨_, ((a0 == 125)), z59_, H', ⟨z65_⟩, z60_⟩
 case rest =>
  clear HC3
  obtain ⟨kq, x5_2, rfl, HA, HJ2, ⟨mc2, rfl⟩⟩ := hcut
  cases kq with
  | zero => exact absurd HA.out (by simp [pursuivantref06_bad.j0])
  | succ kj2 =>
   have H := HA.out
   clear HA
   simp only [pursuivantref06_bad.j0] at H
   by_cases c14 : x5_2 = true
   ·subst c14
    have H1 : (some true) = some r := by rw [if_pos rfl] at H; exact H
    clear H
    have H := H1
    clear H1
    obtain rfl := Option.some.inj H
    go_wp2
    go_ret
    exact ⟨z59_, z60_⟩
   ·replace c14 := Bool.eq_false_iff.mpr c14
    subst c14
    have H1 : (if a0 = 35 then (some (decide (a1 < 3))) else (if a0 = 63 then (some (decide (a1 < 2))) else (if a1 = 0 then (if a0 = 47 then (some true) else (some (a0 == 64))) else (some false)))) = some r := by rw [if_neg (show ¬ (false = true) by decide)] at H; exact H
    clear H
    have H := H1
    clear H1
    by_cases c15 : a0 = 35
    ·rw [if_pos c15] at H
     have c15b0 : (a0 == 35) = true := beq_iff_eq.mpr c15
     have c15b1 : (a0 != 35) = false := bne_eq_false_iff_eq.mpr c15
     clear c15
     obtain rfl := Option.some.inj H
     go_wp2
     go_ret
     exact ⟨z59_, z60_⟩
    ·rw [if_neg c15] at H
     have c15b0 : (a0 == 35) = false := beq_eq_false_iff_ne.mpr c15
     have c15b1 : (a0 != 35) = true := bne_iff_ne.mpr c15
     by_cases c16 : a0 = 63
     ·rw [if_pos c16] at H
      have c16b0 : (a0 == 63) = true := beq_iff_eq.mpr c16
      have c16b1 : (a0 != 63) = false := bne_eq_false_iff_eq.mpr c16
      clear c16
      obtain rfl := Option.some.inj H
      go_wp2
      go_ret
      exact ⟨z59_, z60_⟩
     ·rw [if_neg c16] at H
      have c16b0 : (a0 == 63) = false := beq_eq_false_iff_ne.mpr c16
      have c16b1 : (a0 != 63) = true := bne_iff_ne.mpr c16
      by_cases c17 : a1 = 0
      ·rw [if_pos c17] at H
       have c17b0 : (a1 == 0) = true := beq_iff_eq.mpr c17
       have c17b1 : (a1 != 0) = false := bne_eq_false_iff_eq.mpr c17
       clear c17
       by_cases c18 : a0 = 47
       ·rw [if_pos c18] at H
        have c18b0 : (a0 == 47) = true := beq_iff_eq.mpr c18
        have c18b1 : (a0 != 47) = false := bne_eq_false_iff_eq.mpr c18
        clear c18
        obtain rfl := Option.some.inj H
        go_wp2
        go_ret
        exact ⟨z59_, z60_⟩
       ·rw [if_neg c18] at H
        have c18b0 : (a0 == 47) = false := beq_eq_false_iff_ne.mpr c18
        have c18b1 : (a0 != 47) = true := bne_iff_ne.mpr c18
        obtain rfl := Option.some.inj H
        go_wp2
        go_ret
        exact ⟨z59_, z60_⟩
      ·rw [if_neg c17] at H
       have c17b0 : (a1 == 0) = false := beq_eq_false_iff_ne.mpr c17
       have c17b1 : (a1 != 0) = true := bne_iff_ne.mpr c17
       obtain rfl := Option.some.inj H
       go_wp2
       go_ret
       exact ⟨z59_, z60_⟩

def pursuivantref06_clean.l0 : Nat → ByteArray → Int → Int → Option (Bool)
 | 0, _, _, _ => none
 | k + 1, x0, x1, x5 => if x5 < (x0.size : Int) then (if 0 ≤ x5 then ((pursuivantref06_bad.f k (bt x0 x5) x1).bind fun t114 => (if t114 = true then (some false) else (pursuivantref06_clean.l0 k x0 x1 (wrap64 (x5 + 1))))) else (none)) else (some true)
def pursuivantref06_clean.f (k : Nat) (a0 : ByteArray) (a1 : Int) : Option (Bool) := pursuivantref06_clean.l0 k a0 a1 0
theorem pursuivantref06_clean.mono_l : ∀ k, (∀ y0 y1 y2, LeO (pursuivantref06_clean.l0 k y0 y1 y2) (pursuivantref06_clean.l0 (k + 1) y0 y1 y2))
 | 0 => fun _ _ _ r h => by simp [pursuivantref06_clean.l0] at h
 | k + 1 => by
  have ih0 := pursuivantref06_clean.mono_l k
  ·intro y0 y1 y2
   unfold pursuivantref06_clean.l0
   repeat' first
   | (with_reducible exact ih0 _ _ _)
   | (with_reducible exact pursuivantref06_bad.mono _ _ _)
   | (with_reducible exact LeO.refl _)
   | (with_reducible exact LeO.none _)
   | (with_reducible refine LeO.ite ?_ ?_)
   | (with_reducible refine LeO.bind ?_ (fun _ => ?_))
   | exact ih0 _ _ _
   | exact pursuivantref06_bad.mono _ _ _
   | exact LeO.none _
   | refine LeO.ite ?_ ?_
   | refine LeO.bind ?_ (fun _ => ?_)
theorem pursuivantref06_clean.mono : ∀ a0 a1 k, LeO (pursuivantref06_clean.f k a0 a1) (pursuivantref06_clean.f (k + 1) a0 a1) := by
 intro a0 a1 k
 have ih0 := pursuivantref06_clean.mono_l k
 unfold pursuivantref06_clean.f
 repeat' first
   | (with_reducible exact ih0 _ _ _)
   | (with_reducible exact pursuivantref06_bad.mono _ _ _)
   | (with_reducible exact LeO.refl _)
   | (with_reducible exact LeO.none _)
   | (with_reducible refine LeO.ite ?_ ?_)
   | (with_reducible refine LeO.bind ?_ (fun _ => ?_))
   | exact ih0 _ _ _
   | exact pursuivantref06_bad.mono _ _ _
   | exact LeO.none _
   | refine LeO.ite ?_ ?_
   | refine LeO.bind ?_ (fun _ => ?_)
set_option maxHeartbeats 8000000 in
set_option maxRecDepth 100000 in
theorem pursuivantref06_clean.calls (k : Nat) (a0 : ByteArray) (a1 : Int) (r : Bool) (w : World) (hG_ : GW w) (h : pursuivantref06_clean.f k a0 a1 = some r) :
  Calls Tryd.prog 56 #[.string a0, .int .i64 a1] w fun e w' => e = .returned (.bool r) ∧ Drawn0 w w' := by
 have H : (pursuivantref06_clean.l0 k a0 a1 0) = some r := h
 clear h
 have H' := Aside0.mk H
 clear H
 go_enter Tryd.func56, Tryd.ntmps56
 go_wp2
 go_loopg [5] k (fun kq v5 w' => ∃ (x5_1 : Int), v5 = .int .i64 x5_1 ∧ Aside0 (pursuivantref06_clean.l0 kq a0 a1 x5_1 = some r) ∧ Aside0 (kq ≤ k) ∧ Drawn0 w w')
 case atStart => exact ⟨(0), z59_, H', ⟨Nat.le_refl _⟩, z60_⟩
 case round =>
  clear H'
  obtain ⟨x5_1, rfl, HA, HK1, ⟨m1, rfl⟩⟩ := hrel
  cases gk with
  | zero => exact absurd HA.out (by simp [pursuivantref06_clean.l0])
  | succ k1 =>
   have H := HA.out
   clear HA
   simp only [pursuivantref06_clean.l0] at H
   by_cases c3 : x5_1 < (a0.size : Int)
   ·rw [if_pos c3] at H
    have c3b0 : decide (x5_1 < (a0.size : Int)) = true := decide_eq_true c3; clear c3
    by_cases c4 : 0 ≤ x5_1
    ·rw [if_pos c4] at H
     have c4b0 : decide (0 ≤ x5_1) = true := decide_eq_true c4; clear c4
     replace H := Option.bind_eq_some_iff.mp H
     obtain ⟨t114, A60, H⟩ := H
     replace H : (if t114 = true then (some false) else (pursuivantref06_clean.l0 k1 a0 a1 (wrap64 (x5_1 + 1)))) = some r := H
     have A6 := Aside0.mk A60; clear A60
     by_cases c7 : t114 = true
     ·subst c7
      have H1 : (some false) = some r := by rw [if_pos rfl] at H; exact H
      clear H
      have H := H1
      clear H1
      obtain rfl := Option.some.inj H
      have p5 : 0 ≤ (x5_1 : Int) := of_decide_eq_true z63_
      have q5 : x5_1 < (a0.size : Int) := of_decide_eq_true z63_
      have hx5 := bt_at a0 x5_1
      replace p5 := eq_true p5
      replace q5 := eq_true q5
      go_wp2_with (first | ((with_reducible refine gate_callee (f := 66) rfl ?_); refine goesL_ (some 16) rfl rfl Tryd.func66 (by kernel_rfl) rfl #[.int .u8 (bt a0 x5_1), .int .i64 a1] rfl z39_ ?_; (with_reducible refine (pursuivantref06_bad.calls k1 (bt a0 x5_1) a1 true _ ?gw17_ A6.out).mono ?_); (case gw17_ => exact z14_); rintro e w' ⟨rfl, ⟨nd, rfl⟩⟩; refine ⟨_, rfl, ?_⟩))
      go_ret
      exact ⟨z59_, z60_⟩
     ·replace c7 := Bool.eq_false_iff.mpr c7
      subst c7
      have H1 : (pursuivantref06_clean.l0 k1 a0 a1 (wrap64 (x5_1 + 1))) = some r := by rw [if_neg (show ¬ (false = true) by decide)] at H; exact H
      clear H
      have H := H1
      clear H1
      have H' := Aside0.mk H
      clear H
      have p5 : 0 ≤ (x5_1 : Int) := of_decide_eq_true z63_
      have q5 : x5_1 < (a0.size : Int) := of_decide_eq_true z63_
      have hx5 := bt_at a0 x5_1
      replace p5 := eq_true p5
      replace q5 := eq_true q5
      go_wp2_with (first | ((with_reducible refine gate_callee (f := 66) rfl ?_); refine goesL_ (some 16) rfl rfl Tryd.func66 (by kernel_rfl) rfl #[.int .u8 (bt a0 x5_1), .int .i64 a1] rfl z39_ ?_; (with_reducible refine (pursuivantref06_bad.calls k1 (bt a0 x5_1) a1 false _ ?gw18_ A6.out).mono ?_); (case gw18_ => exact z14_); rintro e w' ⟨rfl, ⟨nd, rfl⟩⟩; refine ⟨_, rfl, ?_⟩))
      go_roundg k1
      case measure => have := HK1.out; omega
      case rel => exact ⟨(wrap64 (x5_1 + 1)), z59_, H', ⟨z66_⟩, z60_⟩
    ·rw [if_neg c4] at H
     exact absurd H (by simp)
   ·rw [if_neg c3] at H
    have c3b0 : decide (x5_1 < (a0.size : Int)) = false := decide_eq_false c3; clear c3
    obtain rfl := Option.some.inj H
    go_wp2
    go_ret
    exact ⟨z59_, z60_⟩

def pursuivantref06_Digits.f : Nat → Int → Option (ByteArray)
 | 0, _ => none
 | k + 1, a0 => if a0 < 10 then (some (strOfNums (([(wrap64 (48 + a0)) % 256] : List Int)))) else ((pursuivantref06_Digits.f k (wrap64 (Int.tdiv a0 10))).bind fun t118 => ((some (([(wrap64 (48 + (Int.tmod a0 10))) % 256] : List Int) : List Int)).bind fun y119 => (if t118.size + (strOfNums y119).size ≤ 9223372036854775807 then (some (t118 ++ (strOfNums y119))) else (none))))
theorem pursuivantref06_Digits.mono_l : ∀ k, (∀ y0, LeO (pursuivantref06_Digits.f k y0) (pursuivantref06_Digits.f (k + 1) y0))
 | 0 => fun _ r h => by simp [pursuivantref06_Digits.f] at h
 | k + 1 => by
  have ih0 := pursuivantref06_Digits.mono_l k
  ·intro y0
   unfold pursuivantref06_Digits.f
   repeat' first
   | (with_reducible exact ih0 _)
   | (with_reducible exact LeO.refl _)
   | (with_reducible exact LeO.none _)
   | (with_reducible refine LeO.ite ?_ ?_)
   | (with_reducible refine LeO.bind ?_ (fun _ => ?_))
   | exact ih0 _
   | exact LeO.none _
   | refine LeO.ite ?_ ?_
   | refine LeO.bind ?_ (fun _ => ?_)
theorem pursuivantref06_Digits.mono : ∀ a0 k, LeO (pursuivantref06_Digits.f k a0) (pursuivantref06_Digits.f (k + 1) a0) := by
 intro a0 k
 have ih0 := pursuivantref06_Digits.mono_l k
 exact ih0 a0
def pursuivantref06_Digits.T3 : Bool × List (List Nat × List Nat) := (true, [([], []), ([0], [0]), ([1], [1]), ([], []), ([3], [3]), ([4], [4]), ([5], [5]), ([6], [6]), ([7], [7]), ([2, 8], [2, 8]), ([9, 2, 0, 1, 2, 3, 4, 5, 6, 7, 8, 9], [9])])
def pursuivantref06_Digits.B3 : List Nat := [0, 1, 3, 0, 8, 24, 56, 120, 248, 511, 1023]
theorem pursuivantref06_Digits.tab3 : rtab .any (opsOf Tryd.f22 3) = pursuivantref06_Digits.T3 := by kernel_rfl
theorem pursuivantref06_Digits.bits3 : waitsOk pursuivantref06_Digits.T3.2 pursuivantref06_Digits.B3 = true := by kernel_rfl
set_option maxHeartbeats 8000000 in
set_option maxRecDepth 100000 in
theorem pursuivantref06_Digits.calls (k : Nat) : ∀ (a0 : Int) (r : ByteArray) (w : World) (hG_ : GW w) (h : pursuivantref06_Digits.f k a0 = some r),
  Calls Tryd.prog 22 #[.int .i64 a0] w fun e w' => e = .returned (.string r) ∧ Below w.heap.size w w' := by
 induction k using Nat.strongRecOn with
 | _ k ih =>
 intro a0 r w hG_ h
 cases k with
 | zero => exact absurd h (by simp [pursuivantref06_Digits.f])
 | succ k =>
 simp only [pursuivantref06_Digits.f] at h
 have HB := Aside0.mk (Below.refl w.heap.size w)
 have H : (if a0 < 10 then (some (strOfNums (([(wrap64 (48 + a0)) % 256] : List Int)))) else ((pursuivantref06_Digits.f k (wrap64 (Int.tdiv a0 10))).bind fun t118 => ((some (([(wrap64 (48 + (Int.tmod a0 10))) % 256] : List Int) : List Int)).bind fun y119 => (if t118.size + (strOfNums y119).size ≤ 9223372036854775807 then (some (t118 ++ (strOfNums y119))) else (none))))) = some r := h
 clear h
 by_cases c2 : a0 < 10
 ·rw [if_pos c2] at H
  have c2b0 : decide (a0 < 10) = true := decide_eq_true c2; clear c2
  obtain ⟨y115, hy115⟩ : ∃ y_ : List Int, y_ = (([(wrap64 (48 + a0)) % 256] : List Int)) := ⟨_, rfl⟩
  replace H : (some (strOfNums y115)) = some r := by first | (rw [hy115]; with_reducible exact H) | (have H2_ := (Option.bind_some _ _).symm.trans H; rw [hy115]; with_reducible exact H2_) | (have H2_ := (Option.bind_some _ _).symm.trans H; with_reducible exact H2_) | with_reducible exact H | (rw [hy115]; exact H) | exact H
  have Ny115 := Aside0.mk hy115; clear hy115
  obtain rfl := Option.some.inj H
  go_enter Tryd.func22, Tryd.ntmps22
  go_wp2_with (first | ((with_reducible refine gate_dst (N := 8) rfl ?_); refine Kd.R_lit (Kd.int .u8) _ 5 ?hg (N := 8) ?hd (xs := ([(wrap64 (48 + a0)) % 256] : List Int)) (inner := [.int .u8 ((wrap64 (48 + a0)) % 256)]) (ok := fun _ => True) (okp := fun _ => True) ?hr ?hp (fun _ hk => hk) trivial (Below.refl _ _) (Nat.le_refl _) (by simp) ?_; (case hd => rfl); (case hg => rfl); (case hr => first | (go_simp; done) | (go_simp; rfl)); (case hp => exact (Reps.one (show Kd.M (Kd.int .u8) _ _ _ ((wrap64 (48 + a0)) % 256) [.int .u8 ((wrap64 (48 + a0)) % 256)] from rfl) (Reps.none _ _))); intro v116 w3 ho4 hb hg_ hnew_; clear hg_ hnew_; (first | rw [← Ny115.out] at ho4 | (simp only [Int.reduceToNat] at ho4; rw [← Ny115.out] at ho4)); have n0_ := Aside0.mk (Kd.R_lower ho4 (below_size z40_)); have n1_ := Aside0.mk (below_step z40_ hb); clear HB; have HO117 := n0_; have HB := n1_; clear n0_ n1_; clear hb ho4; have hcv5 := own_string (P := Tryd.prog) Tryd.underlying48 Tryd.underlying5 Tryd.underlying9 (Kd.own_of_R HO117.out)))
  go_ret
  exact ⟨z41_, z40_⟩
 ·rw [if_neg c2] at H
  have c2b0 : decide (a0 < 10) = false := decide_eq_false c2; clear c2
  replace H := Option.bind_eq_some_iff.mp H
  obtain ⟨t118, A60, H⟩ := H
  replace H : ((some (([(wrap64 (48 + (Int.tmod a0 10))) % 256] : List Int) : List Int)).bind fun y119 => (if t118.size + (strOfNums y119).size ≤ 9223372036854775807 then (some (t118 ++ (strOfNums y119))) else (none))) = some r := H
  have A6 := Aside0.mk A60; clear A60
  obtain ⟨y119, hy119⟩ : ∃ y_ : List Int, y_ = (([(wrap64 (48 + (Int.tmod a0 10))) % 256] : List Int)) := ⟨_, rfl⟩
  replace H : (if t118.size + (strOfNums y119).size ≤ 9223372036854775807 then (some (t118 ++ (strOfNums y119))) else (none)) = some r := by first | (rw [hy119]; with_reducible exact H) | (have H2_ := (Option.bind_some _ _).symm.trans H; rw [hy119]; with_reducible exact H2_) | (have H2_ := (Option.bind_some _ _).symm.trans H; with_reducible exact H2_) | with_reducible exact H | (rw [hy119]; exact H) | exact H
  have Ny119 := Aside0.mk hy119; clear hy119
  by_cases c7 : t118.size + (strOfNums y119).size ≤ 9223372036854775807
  ·rw [if_pos c7] at H
   have c7b0 := eq_true c7; have c7b1 : decide (t118.size + (strOfNums y119).size ≤ 9223372036854775807) = true := decide_eq_true c7
   try have c7b2 : (9223372036854775807 < t118.size + (strOfNums y119).size) = False := eq_false (Nat.not_lt.2 c7)
   obtain rfl := Option.some.inj H
   go_enter Tryd.func22, Tryd.ntmps22
   try go_wp2
   have n0_ := Aside0.mk (below_drew1 HB.out)
   clear HB
   have HB := n0_
   clear n0_
   refine start_ (n := 11) (S := fun w' => True) (ds := []) #[false, false, false, false, false, false, false, false, false, false, false] (by kernel_rfl) rfl rfl trivial (fun hHeld => ?_); refine with_tabW pursuivantref06_Digits.tab3 pursuivantref06_Digits.bits3 (fun HT_ HW_ => ?_)
   generalize w.drew = w8 at HB hHeld ⊢
   refine pure_ (i := 0) (N := some 10) (v := ?_) (a' := ?_) #[true, false, false, false, false, false, false, false, false, false, false] rfl rfl (any_of HT_.out (by kernel_rfl)) (fun _ _ _ h => h) (Or.inl ⟨by rfl, ?_⟩) ?_ ?_
   rotate_left
   ·intro w'
    go_simp
    with_reducible rfl
   rotate_left
   ·simp only [Act.put, List.setIfInBounds_toArray, List.set_cons_zero, List.set_cons_succ, i64_w, i32_w]
    rfl
   refine pure_ (i := 1) (N := some 11) (v := ?_) (a' := ?_) #[true, true, false, false, false, false, false, false, false, false, false] rfl rfl (any_of HT_.out (by kernel_rfl)) (fun _ _ _ h => h) (Or.inl ⟨by rfl, ?_⟩) ?_ ?_
   rotate_left
   ·intro w'
    go_simp
    with_reducible rfl
   rotate_left
   ·simp only [Act.put, List.setIfInBounds_toArray, List.set_cons_zero, List.set_cons_succ, i64_w, i32_w]
    rfl
   refine pure_ (i := 3) (N := some 13) (v := ?_) (a' := ?_) #[true, true, false, true, false, false, false, false, false, false, false] rfl rfl (any_of HT_.out (by kernel_rfl)) (fun _ _ _ h => h) (Or.inl ⟨by rfl, ?_⟩) ?_ ?_
   rotate_left
   ·intro w'
    go_simp
    with_reducible rfl
   rotate_left
   ·simp only [Act.put, List.setIfInBounds_toArray, List.set_cons_zero, List.set_cons_succ, i64_w, i32_w]
    rfl
   refine pure_ (i := 4) (N := some 14) (v := ?_) (a' := ?_) #[true, true, false, true, true, false, false, false, false, false, false] rfl rfl (any_of HT_.out (by kernel_rfl)) (fun _ _ _ h => h) (Or.inl ⟨by rfl, ?_⟩) ?_ ?_
   rotate_left
   ·intro w'
    go_simp
    with_reducible rfl
   rotate_left
   ·simp only [Act.put, List.setIfInBounds_toArray, List.set_cons_zero, List.set_cons_succ, i64_w, i32_w]
    rfl
   refine pure_ (i := 5) (N := some 15) (v := ?_) (a' := ?_) #[true, true, false, true, true, true, false, false, false, false, false] rfl rfl (any_of HT_.out (by kernel_rfl)) (fun _ _ _ h => h) (Or.inl ⟨by rfl, ?_⟩) ?_ ?_
   rotate_left
   ·intro w'
    go_simp
    with_reducible rfl
   rotate_left
   ·simp only [Act.put, List.setIfInBounds_toArray, List.set_cons_zero, List.set_cons_succ, i64_w, i32_w]
    rfl
   refine pure_ (i := 6) (N := some 16) (v := ?_) (a' := ?_) #[true, true, false, true, true, true, true, false, false, false, false] rfl rfl (any_of HT_.out (by kernel_rfl)) (fun _ _ _ h => h) (Or.inl ⟨by rfl, ?_⟩) ?_ ?_
   rotate_left
   ·intro w'
    go_simp
    with_reducible rfl
   rotate_left
   ·simp only [Act.put, List.setIfInBounds_toArray, List.set_cons_zero, List.set_cons_succ, i64_w, i32_w]
    rfl
   refine join_ (σ := Value) 2 #[true, true, true, true, true, true, true, true, true, false, false] (fun s_ => [(12, .string t118), (17, s_), (18, .string (strOfNums y119))]) (fun s_ w' => (Kd.R (Kd.int .u8) 5 w' w.heap.size (fun _ => True) s_ y119) ∧ (Below w.heap.size w w')) ?_ ?_
   rotate_left
   ·intro hCont
    refine two_ (i := 2) (j := 7) (Ni := some 12) (Nj := some 17) #[true, true, true, true, true, true, true, false, false, false, false] #[true, true, false, true, true, true, true, true, false, false, false] rfl rfl rfl rfl (two_of HT_.out (by kernel_rfl)) (by decide) (by decide) (fun K hK => ?_) (fun K hK => ?_)
    ·skip
     refine goes_ Tryd.func22 (by kernel_rfl) rfl #[.int .i64 (wrap64 (Int.tdiv a0 10))] (by rfl) rfl rfl z39_ ?_
     with_reducible refine (ih k (by omega) (wrap64 (Int.tdiv a0 10)) t118 _ ?gw19_ A6.out).mono ?_
     case gw19_ => exact z14_
     rintro e w9 ⟨rfl, hb⟩
     refine ⟨_, rfl, ?_⟩
     have n0_ := Aside0.mk (below_step z40_ hb)
     clear HB
     have HB := n0_
     clear n0_
     (try clear hb)
     (try clear hb2)
     (try clear hk)
     (try clear hi)
     refine hK.out _ _ trivial (fun hHeld => ?_)
     clear hK K
     refine norm_ (a' := ?_) ?_ ?_
     rotate_left
     ·show Act.put _ (some 12) _ = _
      simp only [Act.put, List.setIfInBounds_toArray, List.set_cons_zero, List.set_cons_succ, i64_w, i32_w]
      rfl
     refine one_ (i := 7) (N := some 17) #[true, true, true, true, true, true, true, true, false, false, false] rfl rfl (one_of HT_.out (by kernel_rfl)) (by decide) (fun K hK => ?_)
     refine Kd.R_lit_step (Kd.int .u8) _ 5 ?hg (N := 17) ?hd (xs := ([(wrap64 (48 + (Int.tmod a0 10))) % 256] : List Int)) (inner := [.int .u8 ((wrap64 (48 + (Int.tmod a0 10))) % 256)]) (ok := fun _ => True) (okp := fun _ => True) ?hr ?hp (fun _ hk => hk) trivial (Below.refl _ _) (Nat.le_refl _) (by simp) ?_; (case hd => rfl); (case hg => rfl); (case hr => first | (go_simp; done) | (go_simp; rfl)); (case hp => exact (Reps.one (show Kd.M (Kd.int .u8) _ _ _ ((wrap64 (48 + (Int.tmod a0 10))) % 256) [.int .u8 ((wrap64 (48 + (Int.tmod a0 10))) % 256)] from rfl) (Reps.none _ _)))
     intro v120 w10 ho11 hb hg_ hnew_
     clear hg_ hnew_
     (first | rw [← Ny119.out] at ho11 | (simp only [Int.reduceToNat] at ho11; rw [← Ny119.out] at ho11))
     have n0_ := Aside0.mk (Kd.R_lower ho11 (below_size z40_))
     have n1_ := Aside0.mk (below_step z40_ hb)
     clear HB
     have HO121 := n0_
     have HB := n1_
     clear n0_ n1_; clear hb ho11
     refine hK.out _ _ trivial (fun hHeld => ?_)
     clear hK K
     refine norm_ (a' := ?_) ?_ ?_
     rotate_left
     ·show Act.put _ (some 17) _ = _
      simp only [Act.put, List.setIfInBounds_toArray, List.set_cons_zero, List.set_cons_succ, i64_w, i32_w]
      rfl
     refine one_ (i := 8) (N := some 18) #[true, true, true, true, true, true, true, true, true, false, false] rfl rfl (one_of HT_.out (by kernel_rfl)) (by decide) (fun K hK => ?_)
     have hcv12 := own_string (P := Tryd.prog) Tryd.underlying48 Tryd.underlying5 Tryd.underlying9 (Kd.own_of_R HO121.out)
     refine value_ (w1 := ?_) (v := ?_) (by rfl) rfl ?_ ?_
     rotate_left 2
     ·go_simp
      constructor
      ·rfl
      ·rfl
     clear hcv12
     refine hK.out _ _ trivial (fun hHeld => ?_)
     clear hK K
     refine norm_ (a' := ?_) ?_ ?_
     rotate_left
     ·show Act.put _ (some 18) _ = _
      simp only [Act.put, List.setIfInBounds_toArray, List.set_cons_zero, List.set_cons_succ, i64_w, i32_w]
      rfl
     exact norm_ z58_ (hCont (v120) _ ⟨z57_, z40_⟩)
    ·skip
     refine Kd.R_lit_step (Kd.int .u8) _ 5 ?hg (N := 17) ?hd (xs := ([(wrap64 (48 + (Int.tmod a0 10))) % 256] : List Int)) (inner := [.int .u8 ((wrap64 (48 + (Int.tmod a0 10))) % 256)]) (ok := fun _ => True) (okp := fun _ => True) ?hr ?hp (fun _ hk => hk) trivial (Below.refl _ _) (Nat.le_refl _) (by simp) ?_; (case hd => rfl); (case hg => rfl); (case hr => first | (go_simp; done) | (go_simp; rfl)); (case hp => exact (Reps.one (show Kd.M (Kd.int .u8) _ _ _ ((wrap64 (48 + (Int.tmod a0 10))) % 256) [.int .u8 ((wrap64 (48 + (Int.tmod a0 10))) % 256)] from rfl) (Reps.none _ _)))
     intro v120 w9 ho10 hb hg_ hnew_
     clear hg_ hnew_
     (first | rw [← Ny119.out] at ho10 | (simp only [Int.reduceToNat] at ho10; rw [← Ny119.out] at ho10))
     have n0_ := Aside0.mk (Kd.R_lower ho10 (below_size z40_))
     have n1_ := Aside0.mk (below_step z40_ hb)
     clear HB
     have HO121 := n0_
     have HB := n1_
     clear n0_ n1_; clear hb ho10
     refine hK.out _ _ trivial (fun hHeld => ?_)
     clear hK K
     refine norm_ (a' := ?_) ?_ ?_
     rotate_left
     ·show Act.put _ (some 17) _ = _
      simp only [Act.put, List.setIfInBounds_toArray, List.set_cons_zero, List.set_cons_succ, i64_w, i32_w]
      rfl
     refine two_ (i := 2) (j := 8) (Ni := some 12) (Nj := some 18) #[true, true, true, true, true, true, true, true, false, false, false] #[true, true, false, true, true, true, true, true, true, false, false] rfl rfl rfl rfl (two_of HT_.out (by kernel_rfl)) (by decide) (by decide) (fun K hK => ?_) (fun K hK => ?_)
     ·skip
      refine goes_ Tryd.func22 (by kernel_rfl) rfl #[.int .i64 (wrap64 (Int.tdiv a0 10))] (by rfl) rfl rfl z39_ ?_
      with_reducible refine (ih k (by omega) (wrap64 (Int.tdiv a0 10)) t118 _ ?gw20_ A6.out).mono ?_
      case gw20_ => exact z14_
      rintro e w11 ⟨rfl, hb⟩
      refine ⟨_, rfl, ?_⟩
      have n0_ := Aside0.mk (Kd.R_below z57_ hb)
      have n1_ := Aside0.mk (below_step z40_ hb)
      clear HO121; clear HB
      have HO121 := n0_
      have HB := n1_
      clear n0_ n1_
      (try clear hb)
      (try clear hb2)
      (try clear hk)
      (try clear hi)
      refine hK.out _ _ trivial (fun hHeld => ?_)
      clear hK K
      refine norm_ (a' := ?_) ?_ ?_
      rotate_left
      ·show Act.put _ (some 12) _ = _
       simp only [Act.put, List.setIfInBounds_toArray, List.set_cons_zero, List.set_cons_succ, i64_w, i32_w]
       rfl
      refine one_ (i := 8) (N := some 18) #[true, true, true, true, true, true, true, true, true, false, false] rfl rfl (one_of HT_.out (by kernel_rfl)) (by decide) (fun K hK => ?_)
      have hcv12 := own_string (P := Tryd.prog) Tryd.underlying48 Tryd.underlying5 Tryd.underlying9 (Kd.own_of_R HO121.out)
      refine value_ (w1 := ?_) (v := ?_) (by rfl) rfl ?_ ?_
      rotate_left 2
      ·go_simp
       constructor
       ·rfl
       ·rfl
      clear hcv12
      refine hK.out _ _ trivial (fun hHeld => ?_)
      clear hK K
      refine norm_ (a' := ?_) ?_ ?_
      rotate_left
      ·show Act.put _ (some 18) _ = _
       simp only [Act.put, List.setIfInBounds_toArray, List.set_cons_zero, List.set_cons_succ, i64_w, i32_w]
       rfl
      exact norm_ z58_ (hCont (v120) _ ⟨z57_, z40_⟩)
     ·skip
      have hcv11 := own_string (P := Tryd.prog) Tryd.underlying48 Tryd.underlying5 Tryd.underlying9 (Kd.own_of_R HO121.out)
      refine value_ (w1 := ?_) (v := ?_) (by rfl) rfl ?_ ?_
      rotate_left 2
      ·go_simp
       constructor
       ·rfl
       ·rfl
      clear hcv11
      refine hK.out _ _ trivial (fun hHeld => ?_)
      clear hK K
      refine norm_ (a' := ?_) ?_ ?_
      rotate_left
      ·show Act.put _ (some 18) _ = _
       simp only [Act.put, List.setIfInBounds_toArray, List.set_cons_zero, List.set_cons_succ, i64_w, i32_w]
       rfl
      refine one_ (i := 2) (N := some 12) #[true, true, true, true, true, true, true, true, true, false, false] rfl rfl (one_of HT_.out (by kernel_rfl)) (by decide) (fun K hK => ?_)
      refine goes_ Tryd.func22 (by kernel_rfl) rfl #[.int .i64 (wrap64 (Int.tdiv a0 10))] (by rfl) rfl rfl z39_ ?_
      with_reducible refine (ih k (by omega) (wrap64 (Int.tdiv a0 10)) t118 _ ?gw21_ A6.out).mono ?_
      case gw21_ => exact z14_
      rintro e w12 ⟨rfl, hb⟩
      refine ⟨_, rfl, ?_⟩
      have n0_ := Aside0.mk (Kd.R_below z57_ hb)
      have n1_ := Aside0.mk (below_step z40_ hb)
      clear HO121; clear HB
      have HO121 := n0_
      have HB := n1_
      clear n0_ n1_
      (try clear hb)
      (try clear hb2)
      (try clear hk)
      (try clear hi)
      refine hK.out _ _ trivial (fun hHeld => ?_)
      clear hK K
      refine norm_ (a' := ?_) ?_ ?_
      rotate_left
      ·show Act.put _ (some 12) _ = _
       simp only [Act.put, List.setIfInBounds_toArray, List.set_cons_zero, List.set_cons_succ, i64_w, i32_w]
       rfl
      exact norm_ z58_ (hCont (v120) _ ⟨z57_, z40_⟩)
   rintro v120 w13 ⟨h0_, h1_⟩
   have n0_ : Aside0 (Kd.R (Kd.int .u8) 5 w13 w.heap.size (fun _ => True) v120 y119) := ⟨h0_⟩
   have n1_ : Aside0 (Below w.heap.size w w13) := ⟨h1_⟩
   clear HB; clear h0_ h1_
   have HO121 := n0_
   have HB := n1_
   clear n0_ n1_
   have hHeld := trivial
   refine norm_ (a' := ?_) ?_ ?_
   rotate_left
   ·simp only [putAll, Act.put, List.setIfInBounds_toArray, List.set_cons_zero, List.set_cons_succ]
    rfl
   refine pure_ (i := 9) (N := some 19) (v := ?_) (a' := ?_) #[true, true, true, true, true, true, true, true, true, true, false] rfl rfl (any_of HT_.out (by kernel_rfl)) (fun _ _ _ h => h) (Or.inl ⟨by rfl, ?_⟩) ?_ ?_
   rotate_left
   ·intro w'
    go_simp
    with_reducible rfl
   rotate_left
   ·simp only [Act.put, List.setIfInBounds_toArray, List.set_cons_zero, List.set_cons_succ, i64_w, i32_w]
    rfl
   refine pure_ (i := 10) (N := some 2) (v := ?_) (a' := ?_) #[true, true, true, true, true, true, true, true, true, true, true] rfl rfl (any_of HT_.out (by kernel_rfl)) (fun _ _ _ h => h) (Or.inl ⟨by rfl, ?_⟩) ?_ ?_
   rotate_left
   ·intro w'
    go_simp
    with_reducible rfl
   rotate_left
   ·simp only [Act.put, List.setIfInBounds_toArray, List.set_cons_zero, List.set_cons_succ, i64_w, i32_w]
    rfl
   refine done_ (done_of HT_.out (by kernel_rfl)) ?_
   try go_wp2
   go_ret
   exact ⟨z41_, z40_⟩
  ·rw [if_neg c7] at H
   exact absurd H (by simp)

end Go.Proofs.YtfibkgmbgdaeoaaDoor.Hand
