/- What each Go function here computes, and that its call computes it, over contracts proved by hand (written by this project's xprint.py, which drives the kit's print). -/
import Derived.Test.YtindkgcbglonhaaDoorZ
import Derived.Test.YtindkgcbglonhaaDoorK
import Derived.Test.YtindkgcbglonhaaDoorLib
import Derived.Test.YtindkgcbglonhaaDoorLow
namespace Go.Proofs.YtindkgcbglonhaaDoor.Hand
open Go.RowKit Go.Proofs.YtindkgcbglonhaaDoorW.PrintWords Go.Proofs.YtindkgcbglonhaaDoorW.PrintLast Go.Proofs.YtindkgcbglonhaaDoorW.PrintMore
attribute [local go_sem] max2_int min2_int max_two min_two max_three min_three max_four min_four   -- for this text's walks alone
set_option linter.unusedVariables false
set_option linter.unusedSimpArgs false

mutual
def host_label.j0 : Nat → ByteArray → Bool → Option (Bool)
 | 0, _, _ => none
 | k + 1, x0, x24 => if x24 = true then (some false) else (host_label.l0 k x0 (x0.size : Int) 0)
def host_label.l0 : Nat → ByteArray → Int → Int → Option (Bool)
 | 0, _, _, _ => none
 | k + 1, x0, x26, x27 => if x27 < x26 then (if 0 ≤ x27 then (if x27 < (x0.size : Int) then (if (bt x0 x27) < 97 then (if (bt x0 x27) < 48 then (if (bt x0 x27) = 45 then (host_label.l0 k x0 x26 (wrap64 (x27 + 1))) else (some false)) else (if (bt x0 x27) > 57 then (if (bt x0 x27) = 45 then (host_label.l0 k x0 x26 (wrap64 (x27 + 1))) else (some false)) else (host_label.l0 k x0 x26 (wrap64 (x27 + 1))))) else (if (bt x0 x27) > 122 then (if (bt x0 x27) < 48 then (if (bt x0 x27) = 45 then (host_label.l0 k x0 x26 (wrap64 (x27 + 1))) else (some false)) else (if (bt x0 x27) > 57 then (if (bt x0 x27) = 45 then (host_label.l0 k x0 x26 (wrap64 (x27 + 1))) else (some false)) else (host_label.l0 k x0 x26 (wrap64 (x27 + 1))))) else (host_label.l0 k x0 x26 (wrap64 (x27 + 1))))) else (none)) else (none)) else (some true)
end
def host_label.f (k : Nat) (a0 : ByteArray) : Option (Bool) := if a0.toList = ([] : List UInt8) then (host_label.j0 k a0 true) else (if (a0.size : Int) > 63 then (host_label.j0 k a0 true) else (if 0 < (a0.size : Int) then (if (bt a0 0) = 45 then (host_label.j0 k a0 true) else (if 0 ≤ (wrap64 ((a0.size : Int) - 1)) then (if (wrap64 ((a0.size : Int) - 1)) < (a0.size : Int) then (host_label.j0 k a0 ((bt a0 (wrap64 ((a0.size : Int) - 1))) == 45)) else (none)) else (none))) else (none)))
set_option maxHeartbeats 8000000 in
set_option maxRecDepth 100000 in
theorem host_label.calls (k : Nat) (a0 : ByteArray) (r : Bool) (w : World) (hG_ : GW w) (h : host_label.f k a0 = some r) :
  Calls Tryd.prog 59 #[.string a0] w fun e w' => e = .returned (.bool r) ∧ Drawn0 w w' := by
 have H : (if a0.toList = ([] : List UInt8) then (host_label.j0 k a0 true) else (if (a0.size : Int) > 63 then (host_label.j0 k a0 true) else (if 0 < (a0.size : Int) then (if (bt a0 0) = 45 then (host_label.j0 k a0 true) else (if 0 ≤ (wrap64 ((a0.size : Int) - 1)) then (if (wrap64 ((a0.size : Int) - 1)) < (a0.size : Int) then (host_label.j0 k a0 ((bt a0 (wrap64 ((a0.size : Int) - 1))) == 45)) else (none)) else (none))) else (none)))) = some r := h
 clear h; have HC2 := Aside0.mk H; clear H
 go_enter Tryd.func59, Tryd.ntmps59
 go_upto_region 1 with (fail)
 go_cut [24] (fun v24 wc => ∃ (kq : Nat) (x24_1 : Bool), v24 = .bool x24_1 ∧ Aside0 (host_label.j0 kq a0 x24_1 = some r) ∧ Aside0 (kq ≤ k) ∧ Drawn0 w wc)
 case first =>
  have H := HC2.out
  clear HC2
  by_cases c3 : a0.toList = ([] : List UInt8)
  ·rw [if_pos c3] at H
   have c3b0 : (a0.toList == ([] : List UInt8)) = true := beq_iff_eq.mpr c3
   try have c3e0 : a0.toList.isEmpty = true := by rw [← nil_beq]; exact c3b0
   have c3b1 : (a0.toList != ([] : List UInt8)) = false := bne_eq_false_iff_eq.mpr c3
   clear c3
   (first | rw [c3b0] | (simp only [i64_w, i32_w]; rw [c3b0]) | rw [c3e0] | skip)
   have H' := Aside0.mk H
   clear H; go_wp2
   go_meet
   case rel => exact ⟨_, (true), z62_, H', ⟨z68_⟩, z64_⟩
  ·rw [if_neg c3] at H
   have c3b0 : (a0.toList == ([] : List UInt8)) = false := beq_eq_false_iff_ne.mpr c3
   try have c3e0 : a0.toList.isEmpty = false := by rw [← nil_beq]; exact c3b0
   have c3b1 : (a0.toList != ([] : List UInt8)) = true := bne_iff_ne.mpr c3
   (first | rw [c3b0] | (simp only [i64_w, i32_w]; rw [c3b0]) | rw [c3e0] | skip)
   by_cases c4 : (a0.size : Int) > 63
   ·rw [if_pos c4] at H
    have c4b0 : decide (63 < (a0.size : Int)) = true := decide_eq_true c4
    have c4b1 : decide (63 < a0.size) = true := decide_eq_true (by omega)
    clear c4
    have H' := Aside0.mk H
    clear H; go_wp2
    go_meet
    case rel => exact ⟨_, (true), z62_, H', ⟨z68_⟩, z64_⟩
   ·rw [if_neg c4] at H
    have c4b0 : decide (63 < (a0.size : Int)) = false := decide_eq_false c4
    have c4b1 : decide (63 < a0.size) = false := decide_eq_false (by omega)
    clear c4
    by_cases c5 : 0 < (a0.size : Int)
    ·rw [if_pos c5] at H
     have c5b0 : decide (0 < (a0.size : Int)) = true := decide_eq_true c5
     have c5b1 : decide (0 < a0.size) = true := decide_eq_true (by omega)
     clear c5
     by_cases c7 : (bt a0 0) = 45
     ·rw [if_pos c7] at H
      have c7b0 : ((bt a0 0) == 45) = true := beq_iff_eq.mpr c7
      have c7b1 : ((bt a0 0) != 45) = false := bne_eq_false_iff_eq.mpr c7
      clear c7
      have H' := Aside0.mk H
      clear H
      have p6 : 0 ≤ (0 : Int) := (by omega)
      have q6 : 0 < a0.size := (by have : (0 : Int) < (a0.size : Int) := of_decide_eq_true z66_; omega)
      have hx6 : ∀ h : 0 < a0.size, ((a0[0]'h).toNat : Int) = bt a0 0 := bt_at a0 0
      clear p6
      have qi6 : (0 < (a0.size : Int)) = True := eq_true (of_decide_eq_true z66_)
      replace q6 := eq_true q6
      go_wp2
      go_meet
      case rel => exact ⟨_, (true), z62_, H', ⟨z68_⟩, z64_⟩
     ·rw [if_neg c7] at H
      have c7b0 : ((bt a0 0) == 45) = false := beq_eq_false_iff_ne.mpr c7
      have c7b1 : ((bt a0 0) != 45) = true := bne_iff_ne.mpr c7
      obtain ⟨ji8, hji8⟩ : ∃ j_ : Int, (wrap64 ((a0.size : Int) - 1)) = j_ := ⟨_, rfl⟩
      replace H : (if 0 ≤ (ji8) then (if (ji8) < (a0.size : Int) then (host_label.j0 k a0 ((bt a0 (ji8)) == 45)) else (none)) else (none)) = some r := by first | (rw [hji8] at H; exact H) | (simp only [hji8] at H ⊢; exact H)
      have hji8w : (IntKind.i64.wrap ((a0.size : Int) - 1)) = ji8 := (i64_w _).trans hji8
      by_cases c9 : 0 ≤ (ji8)
      ·rw [if_pos c9] at H
       have c9b0 : decide (0 ≤ (ji8)) = true := decide_eq_true c9; clear c9
       by_cases c10 : (ji8) < (a0.size : Int)
       ·rw [if_pos c10] at H
        have c10b0 : decide ((ji8) < (a0.size : Int)) = true := decide_eq_true c10; clear c10
        have H' := Aside0.mk H
        clear H
        have p6 : 0 ≤ (0 : Int) := (by omega)
        have q6 : 0 < a0.size := (by have : (0 : Int) < (a0.size : Int) := of_decide_eq_true z66_; omega)
        have hx6 : ∀ h : 0 < a0.size, ((a0[0]'h).toNat : Int) = bt a0 0 := bt_at a0 0
        clear p6
        have qi6 : (0 < (a0.size : Int)) = True := eq_true (of_decide_eq_true z66_)
        replace q6 := eq_true q6
        have p11 : 0 ≤ ((ji8) : Int) := of_decide_eq_true z66_
        have q11 : (ji8) < (a0.size : Int) := of_decide_eq_true z66_
        have hx11 := bt_at a0 (ji8)
        replace p11 := eq_true p11
        replace q11 := eq_true q11
        go_wp2
        go_meet
        case rel => exact ⟨_, (((bt a0 (ji8)) == 45)), (by first | rfl | (simp [nil_bne, nil_beq]; done) | (simp; done) | (simp only [← hji8] <;> (first | rfl | simp)) | (simp [*]; done)), H', ⟨z68_⟩, z64_⟩
       ·rw [if_neg c10] at H
        exact absurd H (by simp)
      ·rw [if_neg c9] at H
       exact absurd H (by simp)
    ·rw [if_neg c5] at H
     exact absurd H (by simp)
 case rest =>
  clear HC2; (try clear c1); (try clear p1); (try clear q1); (try clear hx1); (try clear p2); (try clear c3); (try clear c3b0); (try clear c3b1); (try clear c4); (try clear c4b0); (try clear c4b1); (try clear c5); (try clear c5b0); (try clear c5b1); (try clear p6); (try clear q6); (try clear hx6); (try clear qi6); (try clear c7); (try clear c7b0); (try clear c7b1); (try clear c9); (try clear c9b0); (try clear c10); (try clear c10b0); (try clear p11); (try clear q11); (try clear hx11); (try clear p11); (try clear p6); (try clear q11); (try clear q6)
  obtain ⟨kq, x24_1, rfl, HA, HJ1, ⟨mc1, rfl⟩⟩ := hcut
  cases kq with
  | zero => exact absurd HA.out (by simp [host_label.j0])
  | succ kj1 =>
   have H := HA.out
   clear HA
   simp only [host_label.j0] at H
   by_cases c12 : x24_1 = true
   ·subst c12
    have H1 : (some false) = some r := by rw [if_pos rfl] at H; exact H
    clear H
    have H := H1
    clear H1
    obtain rfl := Option.some.inj H
    go_wp2
    go_ret
    exact ⟨z62_, z64_⟩
   ·replace c12 := Bool.eq_false_iff.mpr c12
    subst c12
    have H1 : (host_label.l0 kj1 a0 (a0.size : Int) 0) = some r := by rw [if_neg (show ¬ (false = true) by decide)] at H; exact H
    clear H
    have H := H1
    clear H1
    have H' := Aside0.mk H
    clear H; go_wp2
    go_loopg [27] kj1 (fun kq v27 w' => ∃ (x27_2 : Int), v27 = .int .i64 x27_2 ∧ Aside0 (host_label.l0 kq a0 (a0.size : Int) x27_2 = some r) ∧ Aside0 (kq ≤ kj1) ∧ Drawn0 w w')
    case atStart => exact ⟨(0), z62_, H', ⟨Nat.le_refl _⟩, z64_⟩
    case round =>
     clear H'; (try clear c1); (try clear p1); (try clear q1); (try clear hx1); (try clear p2); (try clear c3); (try clear c3b0); (try clear c3b1); (try clear c4); (try clear c4b0); (try clear c4b1); (try clear c5); (try clear c5b0); (try clear c5b1); (try clear p6); (try clear q6); (try clear hx6); (try clear qi6); (try clear c7); (try clear c7b0); (try clear c7b1); (try clear c9); (try clear c9b0); (try clear c10); (try clear c10b0); (try clear p11); (try clear q11); (try clear hx11); (try clear c12); (try clear p1); (try clear p11); (try clear p2); (try clear p6); (try clear q1); (try clear q11); (try clear q6)
     obtain ⟨x27_2, rfl, HA, HK2, ⟨m2, rfl⟩⟩ := hrel
     cases gk with
     | zero => exact absurd HA.out (by simp [host_label.l0])
     | succ k2 =>
      have H := HA.out
      clear HA
      simp only [host_label.l0] at H
      by_cases c13 : x27_2 < (a0.size : Int)
      ·rw [if_pos c13] at H
       have c13b0 : decide (x27_2 < (a0.size : Int)) = true := decide_eq_true c13; clear c13
       by_cases c14 : 0 ≤ x27_2
       ·rw [if_pos c14] at H
        have c14b0 : decide (0 ≤ x27_2) = true := decide_eq_true c14; clear c14
        by_cases c15 : x27_2 < (a0.size : Int)
        ·rw [if_pos c15] at H
         have c15b0 : decide (x27_2 < (a0.size : Int)) = true := decide_eq_true c15; clear c15
         by_cases c17 : (bt a0 x27_2) < 97
         ·rw [if_pos c17] at H
          have c17b0 : decide ((bt a0 x27_2) < 97) = true := decide_eq_true c17; clear c17
          by_cases c18 : (bt a0 x27_2) < 48
          ·rw [if_pos c18] at H
           have c18b0 : decide ((bt a0 x27_2) < 48) = true := decide_eq_true c18; clear c18
           by_cases c19 : (bt a0 x27_2) = 45
           ·rw [if_pos c19] at H
            have c19b0 : ((bt a0 x27_2) == 45) = true := beq_iff_eq.mpr c19
            have c19b1 : ((bt a0 x27_2) != 45) = false := bne_eq_false_iff_eq.mpr c19
            clear c19
            have H' := Aside0.mk H
            clear H
            have p16 : 0 ≤ (x27_2 : Int) := of_decide_eq_true z66_
            have q16 : x27_2 < (a0.size : Int) := of_decide_eq_true z66_
            have hx16 := bt_at a0 x27_2
            replace p16 := eq_true p16
            replace q16 := eq_true q16
            go_wp2
            go_roundg k2
            case measure => have := HJ1.out; have := HK2.out; omega
            case rel => exact ⟨(wrap64 (x27_2 + 1)), z62_, H', ⟨z67_⟩, z64_⟩
           ·rw [if_neg c19] at H
            have c19b0 : ((bt a0 x27_2) == 45) = false := beq_eq_false_iff_ne.mpr c19
            have c19b1 : ((bt a0 x27_2) != 45) = true := bne_iff_ne.mpr c19
            obtain rfl := Option.some.inj H
            have p16 : 0 ≤ (x27_2 : Int) := of_decide_eq_true z66_
            have q16 : x27_2 < (a0.size : Int) := of_decide_eq_true z66_
            have hx16 := bt_at a0 x27_2
            replace p16 := eq_true p16
            replace q16 := eq_true q16
            go_wp2
            go_ret
            exact ⟨z62_, z64_⟩
          ·rw [if_neg c18] at H
           have c18b0 : decide ((bt a0 x27_2) < 48) = false := decide_eq_false c18; clear c18
           by_cases c20 : (bt a0 x27_2) > 57
           ·rw [if_pos c20] at H
            have c20b0 : decide (57 < (bt a0 x27_2)) = true := decide_eq_true c20; clear c20
            by_cases c21 : (bt a0 x27_2) = 45
            ·rw [if_pos c21] at H
             have c21b0 : ((bt a0 x27_2) == 45) = true := beq_iff_eq.mpr c21
             have c21b1 : ((bt a0 x27_2) != 45) = false := bne_eq_false_iff_eq.mpr c21
             clear c21
             have H' := Aside0.mk H
             clear H
             have p16 : 0 ≤ (x27_2 : Int) := of_decide_eq_true z66_
             have q16 : x27_2 < (a0.size : Int) := of_decide_eq_true z66_
             have hx16 := bt_at a0 x27_2
             replace p16 := eq_true p16
             replace q16 := eq_true q16
             go_wp2
             go_roundg k2
             case measure => have := HJ1.out; have := HK2.out; omega
             case rel => exact ⟨(wrap64 (x27_2 + 1)), z62_, H', ⟨z67_⟩, z64_⟩
            ·rw [if_neg c21] at H
             have c21b0 : ((bt a0 x27_2) == 45) = false := beq_eq_false_iff_ne.mpr c21
             have c21b1 : ((bt a0 x27_2) != 45) = true := bne_iff_ne.mpr c21
             obtain rfl := Option.some.inj H
             have p16 : 0 ≤ (x27_2 : Int) := of_decide_eq_true z66_
             have q16 : x27_2 < (a0.size : Int) := of_decide_eq_true z66_
             have hx16 := bt_at a0 x27_2
             replace p16 := eq_true p16
             replace q16 := eq_true q16
             go_wp2
             go_ret
             exact ⟨z62_, z64_⟩
           ·rw [if_neg c20] at H
            have c20b0 : decide (57 < (bt a0 x27_2)) = false := decide_eq_false c20; clear c20
            have H' := Aside0.mk H
            clear H
            have p16 : 0 ≤ (x27_2 : Int) := of_decide_eq_true z66_
            have q16 : x27_2 < (a0.size : Int) := of_decide_eq_true z66_
            have hx16 := bt_at a0 x27_2
            replace p16 := eq_true p16
            replace q16 := eq_true q16
            go_wp2
            go_roundg k2
            case measure => have := HJ1.out; have := HK2.out; omega
            case rel => exact ⟨(wrap64 (x27_2 + 1)), z62_, H', ⟨z67_⟩, z64_⟩
         ·rw [if_neg c17] at H
          have c17b0 : decide ((bt a0 x27_2) < 97) = false := decide_eq_false c17; clear c17
          by_cases c22 : (bt a0 x27_2) > 122
          ·rw [if_pos c22] at H
           have c22b0 : decide (122 < (bt a0 x27_2)) = true := decide_eq_true c22; clear c22
           by_cases c23 : (bt a0 x27_2) < 48
           ·rw [if_pos c23] at H
            have c23b0 : decide ((bt a0 x27_2) < 48) = true := decide_eq_true c23; clear c23
            by_cases c24 : (bt a0 x27_2) = 45
            ·rw [if_pos c24] at H
             have c24b0 : ((bt a0 x27_2) == 45) = true := beq_iff_eq.mpr c24
             have c24b1 : ((bt a0 x27_2) != 45) = false := bne_eq_false_iff_eq.mpr c24
             clear c24
             have H' := Aside0.mk H
             clear H
             have p16 : 0 ≤ (x27_2 : Int) := of_decide_eq_true z66_
             have q16 : x27_2 < (a0.size : Int) := of_decide_eq_true z66_
             have hx16 := bt_at a0 x27_2
             replace p16 := eq_true p16
             replace q16 := eq_true q16
             go_wp2
             go_roundg k2
             case measure => have := HJ1.out; have := HK2.out; omega
             case rel => exact ⟨(wrap64 (x27_2 + 1)), z62_, H', ⟨z67_⟩, z64_⟩
            ·rw [if_neg c24] at H
             have c24b0 : ((bt a0 x27_2) == 45) = false := beq_eq_false_iff_ne.mpr c24
             have c24b1 : ((bt a0 x27_2) != 45) = true := bne_iff_ne.mpr c24
             obtain rfl := Option.some.inj H
             have p16 : 0 ≤ (x27_2 : Int) := of_decide_eq_true z66_
             have q16 : x27_2 < (a0.size : Int) := of_decide_eq_true z66_
             have hx16 := bt_at a0 x27_2
             replace p16 := eq_true p16
             replace q16 := eq_true q16
             go_wp2
             go_ret
             exact ⟨z62_, z64_⟩
           ·rw [if_neg c23] at H
            have c23b0 : decide ((bt a0 x27_2) < 48) = false := decide_eq_false c23; clear c23
            by_cases c25 : (bt a0 x27_2) > 57
            ·rw [if_pos c25] at H
             have c25b0 : decide (57 < (bt a0 x27_2)) = true := decide_eq_true c25; clear c25
             by_cases c26 : (bt a0 x27_2) = 45
             ·rw [if_pos c26] at H
              have c26b0 : ((bt a0 x27_2) == 45) = true := beq_iff_eq.mpr c26
              have c26b1 : ((bt a0 x27_2) != 45) = false := bne_eq_false_iff_eq.mpr c26
              clear c26
              have H' := Aside0.mk H
              clear H
              have p16 : 0 ≤ (x27_2 : Int) := of_decide_eq_true z66_
              have q16 : x27_2 < (a0.size : Int) := of_decide_eq_true z66_
              have hx16 := bt_at a0 x27_2
              replace p16 := eq_true p16
              replace q16 := eq_true q16
              go_wp2
              go_roundg k2
              case measure => have := HJ1.out; have := HK2.out; omega
              case rel => exact ⟨(wrap64 (x27_2 + 1)), z62_, H', ⟨z67_⟩, z64_⟩
             ·rw [if_neg c26] at H
              have c26b0 : ((bt a0 x27_2) == 45) = false := beq_eq_false_iff_ne.mpr c26
              have c26b1 : ((bt a0 x27_2) != 45) = true := bne_iff_ne.mpr c26
              obtain rfl := Option.some.inj H
              have p16 : 0 ≤ (x27_2 : Int) := of_decide_eq_true z66_
              have q16 : x27_2 < (a0.size : Int) := of_decide_eq_true z66_
              have hx16 := bt_at a0 x27_2
              replace p16 := eq_true p16
              replace q16 := eq_true q16
              go_wp2
              go_ret
              exact ⟨z62_, z64_⟩
            ·rw [if_neg c25] at H
             have c25b0 : decide (57 < (bt a0 x27_2)) = false := decide_eq_false c25; clear c25
             have H' := Aside0.mk H
             clear H
             have p16 : 0 ≤ (x27_2 : Int) := of_decide_eq_true z66_
             have q16 : x27_2 < (a0.size : Int) := of_decide_eq_true z66_
             have hx16 := bt_at a0 x27_2
             replace p16 := eq_true p16
             replace q16 := eq_true q16
             go_wp2
             go_roundg k2
             case measure => have := HJ1.out; have := HK2.out; omega
             case rel => exact ⟨(wrap64 (x27_2 + 1)), z62_, H', ⟨z67_⟩, z64_⟩
          ·rw [if_neg c22] at H
           have c22b0 : decide (122 < (bt a0 x27_2)) = false := decide_eq_false c22; clear c22
           have H' := Aside0.mk H
           clear H
           have p16 : 0 ≤ (x27_2 : Int) := of_decide_eq_true z66_
           have q16 : x27_2 < (a0.size : Int) := of_decide_eq_true z66_
           have hx16 := bt_at a0 x27_2
           replace p16 := eq_true p16
           replace q16 := eq_true q16
           go_wp2
           go_roundg k2
           case measure => have := HJ1.out; have := HK2.out; omega
           case rel => exact ⟨(wrap64 (x27_2 + 1)), z62_, H', ⟨z67_⟩, z64_⟩
        ·rw [if_neg c15] at H
         exact absurd H (by simp)
       ·rw [if_neg c14] at H
        exact absurd H (by simp)
      ·rw [if_neg c13] at H
       have c13b0 : decide (x27_2 < (a0.size : Int)) = false := decide_eq_false c13; clear c13
       obtain rfl := Option.some.inj H
       go_wp2
       go_ret
       exact ⟨z62_, z64_⟩

def host_Default.f (a0 : ByteArray) : Option (Int) := if a0.toList = ([104, 116, 116, 112] : List UInt8) then (some 80) else (if a0.toList = ([104, 116, 116, 112, 115] : List UInt8) then (some 443) else (some 0))
set_option maxHeartbeats 8000000 in
set_option maxRecDepth 100000 in
theorem host_Default.calls (a0 : ByteArray) (r : Int) (w : World) (hG_ : GW w) (h : host_Default.f a0 = some r) :
  Calls Tryd.prog 22 #[.string a0] w fun e w' => e = .returned (.int .i64 r) ∧ Drawn0 w w' := by
 have H : (if a0.toList = ([104, 116, 116, 112] : List UInt8) then (some 80) else (if a0.toList = ([104, 116, 116, 112, 115] : List UInt8) then (some 443) else (some 0))) = some r := h
 clear h
 by_cases c2 : a0.toList = ([104, 116, 116, 112] : List UInt8)
 ·rw [if_pos c2] at H
  have c2b0 : (a0.toList == ([104, 116, 116, 112] : List UInt8)) = true := beq_iff_eq.mpr c2
  have c2b1 : (a0.toList != ([104, 116, 116, 112] : List UInt8)) = false := bne_eq_false_iff_eq.mpr c2
  clear c2
  obtain rfl := Option.some.inj H
  go_enter Tryd.func22, Tryd.ntmps22
  go_wp2
  go_ret
  exact ⟨z62_, z64_⟩
 ·rw [if_neg c2] at H
  have c2b0 : (a0.toList == ([104, 116, 116, 112] : List UInt8)) = false := beq_eq_false_iff_ne.mpr c2
  have c2b1 : (a0.toList != ([104, 116, 116, 112] : List UInt8)) = true := bne_iff_ne.mpr c2
  by_cases c3 : a0.toList = ([104, 116, 116, 112, 115] : List UInt8)
  ·rw [if_pos c3] at H
   have c3b0 : (a0.toList == ([104, 116, 116, 112, 115] : List UInt8)) = true := beq_iff_eq.mpr c3
   have c3b1 : (a0.toList != ([104, 116, 116, 112, 115] : List UInt8)) = false := bne_eq_false_iff_eq.mpr c3
   clear c3
   obtain rfl := Option.some.inj H
   go_enter Tryd.func22, Tryd.ntmps22
   go_wp2
   go_ret
   exact ⟨z62_, z64_⟩
  ·rw [if_neg c3] at H
   have c3b0 : (a0.toList == ([104, 116, 116, 112, 115] : List UInt8)) = false := beq_eq_false_iff_ne.mpr c3
   have c3b1 : (a0.toList != ([104, 116, 116, 112, 115] : List UInt8)) = true := bne_iff_ne.mpr c3
   obtain rfl := Option.some.inj H
   go_enter Tryd.func22, Tryd.ntmps22
   go_wp2
   go_ret
   exact ⟨z62_, z64_⟩

def pursuivantref05_letter.f (a0 : Int) : Option (Bool) := if a0 ≥ 97 then (if a0 ≤ 122 then (some true) else (if a0 ≥ 48 then (if a0 ≤ 57 then (some true) else (some (a0 == 45))) else (some (a0 == 45)))) else (if a0 ≥ 48 then (if a0 ≤ 57 then (some true) else (some (a0 == 45))) else (some (a0 == 45)))
set_option maxHeartbeats 8000000 in
set_option maxRecDepth 100000 in
theorem pursuivantref05_letter.calls (a0 : Int) (r : Bool) (w : World) (hG_ : GW w) (h : pursuivantref05_letter.f a0 = some r) :
  Calls Tryd.prog 60 #[.int .u8 a0] w fun e w' => e = .returned (.bool r) ∧ Drawn0 w w' := by
 have H : (if a0 ≥ 97 then (if a0 ≤ 122 then (some true) else (if a0 ≥ 48 then (if a0 ≤ 57 then (some true) else (some (a0 == 45))) else (some (a0 == 45)))) else (if a0 ≥ 48 then (if a0 ≤ 57 then (some true) else (some (a0 == 45))) else (some (a0 == 45)))) = some r := h
 clear h
 by_cases c2 : a0 ≥ 97
 ·rw [if_pos c2] at H
  have c2b0 : decide (97 ≤ a0) = true := decide_eq_true c2; clear c2
  by_cases c3 : a0 ≤ 122
  ·rw [if_pos c3] at H
   have c3b0 : decide (a0 ≤ 122) = true := decide_eq_true c3; clear c3
   obtain rfl := Option.some.inj H
   go_enter Tryd.func60, Tryd.ntmps60
   go_wp2
   go_ret
   exact ⟨z62_, z64_⟩
  ·rw [if_neg c3] at H
   have c3b0 : decide (a0 ≤ 122) = false := decide_eq_false c3; clear c3
   by_cases c4 : a0 ≥ 48
   ·rw [if_pos c4] at H
    have c4b0 : decide (48 ≤ a0) = true := decide_eq_true c4; clear c4
    by_cases c5 : a0 ≤ 57
    ·rw [if_pos c5] at H
     have c5b0 : decide (a0 ≤ 57) = true := decide_eq_true c5; clear c5
     obtain rfl := Option.some.inj H
     go_enter Tryd.func60, Tryd.ntmps60
     go_wp2
     go_ret
     exact ⟨z62_, z64_⟩
    ·rw [if_neg c5] at H
     have c5b0 : decide (a0 ≤ 57) = false := decide_eq_false c5; clear c5
     obtain rfl := Option.some.inj H
     go_enter Tryd.func60, Tryd.ntmps60
     go_wp2
     go_ret
     exact ⟨z62_, z64_⟩
   ·rw [if_neg c4] at H
    have c4b0 : decide (48 ≤ a0) = false := decide_eq_false c4; clear c4
    obtain rfl := Option.some.inj H
    go_enter Tryd.func60, Tryd.ntmps60
    go_wp2
    go_ret
    exact ⟨z62_, z64_⟩
 ·rw [if_neg c2] at H
  have c2b0 : decide (97 ≤ a0) = false := decide_eq_false c2; clear c2
  by_cases c6 : a0 ≥ 48
  ·rw [if_pos c6] at H
   have c6b0 : decide (48 ≤ a0) = true := decide_eq_true c6; clear c6
   by_cases c7 : a0 ≤ 57
   ·rw [if_pos c7] at H
    have c7b0 : decide (a0 ≤ 57) = true := decide_eq_true c7; clear c7
    obtain rfl := Option.some.inj H
    go_enter Tryd.func60, Tryd.ntmps60
    go_wp2
    go_ret
    exact ⟨z62_, z64_⟩
   ·rw [if_neg c7] at H
    have c7b0 : decide (a0 ≤ 57) = false := decide_eq_false c7; clear c7
    obtain rfl := Option.some.inj H
    go_enter Tryd.func60, Tryd.ntmps60
    go_wp2
    go_ret
    exact ⟨z62_, z64_⟩
  ·rw [if_neg c6] at H
   have c6b0 : decide (48 ≤ a0) = false := decide_eq_false c6; clear c6
   obtain rfl := Option.some.inj H
   go_enter Tryd.func60, Tryd.ntmps60
   go_wp2
   go_ret
   exact ⟨z62_, z64_⟩

mutual
def pursuivantref05_Good.l0 : Nat → ByteArray → Int → Int → Option (Bool)
 | 0, _, _, _ => none
 | k + 1, x0, x3, x4 => if x4 ≤ (x0.size : Int) then (if x4 < (x0.size : Int) then (if 0 ≤ x4 then (pursuivantref05_Good.j1 k x0 x3 x4 ((bt x0 x4) != 46)) else (none)) else (pursuivantref05_Good.j1 k x0 x3 x4 false)) else (some true)
def pursuivantref05_Good.j1 : Nat → ByteArray → Int → Int → Bool → Option (Bool)
 | 0, _, _, _, _ => none
 | k + 1, x0, x3, x4, x23 => if x23 = true then (if 0 ≤ x4 then (if x4 < (x0.size : Int) then ((pursuivantref05_letter.f (bt x0 x4)).bind fun t101 => (if t101 = true then (pursuivantref05_Good.l0 k x0 x3 (wrap64 (x4 + 1))) else (some false))) else (none)) else (none)) else (if x4 = x3 then (some false) else (if (wrap64 (x4 - x3)) > 63 then (some false) else (if 0 ≤ x3 then (if x3 < (x0.size : Int) then (if (bt x0 x3) = 45 then (some false) else (if 0 ≤ (wrap64 (x4 - 1)) then (if (wrap64 (x4 - 1)) < (x0.size : Int) then (if (bt x0 (wrap64 (x4 - 1))) = 45 then (some false) else (pursuivantref05_Good.l0 k x0 (wrap64 (x4 + 1)) (wrap64 (x4 + 1)))) else (none)) else (none))) else (none)) else (none))))
end
def pursuivantref05_Good.f (k : Nat) (a0 : ByteArray) : Option (Bool) := if (a0.size : Int) > 253 then (some false) else (pursuivantref05_Good.l0 k a0 0 0)
set_option maxHeartbeats 8000000 in
set_option maxRecDepth 100000 in
theorem pursuivantref05_Good.calls (k : Nat) (a0 : ByteArray) (r : Bool) (w : World) (hG_ : GW w) (h : pursuivantref05_Good.f k a0 = some r) :
  Calls Tryd.prog 17 #[.string a0] w fun e w' => e = .returned (.bool r) ∧ Drawn0 w w' := by
 have H : (if (a0.size : Int) > 253 then (some false) else (pursuivantref05_Good.l0 k a0 0 0)) = some r := h
 clear h
 by_cases c2 : (a0.size : Int) > 253
 ·rw [if_pos c2] at H
  have c2b0 : decide (253 < (a0.size : Int)) = true := decide_eq_true c2
  have c2b1 : decide (253 < a0.size) = true := decide_eq_true (by omega)
  clear c2
  obtain rfl := Option.some.inj H
  go_enter Tryd.func17, Tryd.ntmps17
  go_wp2
  go_ret
  exact ⟨z62_, z64_⟩
 ·rw [if_neg c2] at H
  have c2b0 : decide (253 < (a0.size : Int)) = false := decide_eq_false c2
  have c2b1 : decide (253 < a0.size) = false := decide_eq_false (by omega)
  clear c2
  have H' := Aside0.mk H
  clear H
  go_enter Tryd.func17, Tryd.ntmps17
  go_wp2
  go_loopg [3, 4] k (fun kq v3 v4 w' => ∃ (x3_1 x4_1 : Int), v3 = .int .i64 x3_1 ∧ v4 = .int .i64 x4_1 ∧ Aside0 (pursuivantref05_Good.l0 kq a0 x3_1 x4_1 = some r) ∧ Aside0 (kq ≤ k) ∧ Drawn0 w w')
  case atStart => exact ⟨(0), (0), z62_, z62_, H', ⟨Nat.le_refl _⟩, z64_⟩
  case round =>
   clear H'; (try clear c1); (try clear c2); (try clear c2b0); (try clear c2b1); (try clear p2)
   obtain ⟨x3_1, x4_1, rfl, rfl, HA, HK1, ⟨m1, rfl⟩⟩ := hrel
   cases gk with
   | zero => exact absurd HA.out (by simp [pursuivantref05_Good.l0])
   | succ k1 =>
    have H := HA.out
    clear HA
    simp only [pursuivantref05_Good.l0] at H
    by_cases c3 : x4_1 ≤ (a0.size : Int)
    ·rw [if_pos c3] at H
     have c3b0 : decide (x4_1 ≤ (a0.size : Int)) = true := decide_eq_true c3; clear c3; have HC4 := Aside0.mk H; clear H
     go_upto_region 7 with (fail)
     go_cut [23] (fun v23 wc => ∃ (kq : Nat) (x23_3 : Bool), v23 = .bool x23_3 ∧ Aside0 (pursuivantref05_Good.j1 kq a0 x3_1 x4_1 x23_3 = some r) ∧ Aside0 (kq ≤ k1) ∧ Drawn0 w wc)
     case first =>
      have H := HC4.out
      clear HC4
      by_cases c5 : x4_1 < (a0.size : Int)
      ·rw [if_pos c5] at H
       have c5b0 : decide (x4_1 < (a0.size : Int)) = true := decide_eq_true c5; clear c5
       (first | rw [c5b0] | (simp only [i64_w, i32_w]; rw [c5b0]) | skip)
       by_cases c6 : 0 ≤ x4_1
       ·rw [if_pos c6] at H
        have c6b0 : decide (0 ≤ x4_1) = true := decide_eq_true c6; clear c6
        have H' := Aside0.mk H
        clear H
        have p7 : 0 ≤ (x4_1 : Int) := of_decide_eq_true z66_
        have q7 : x4_1 < (a0.size : Int) := of_decide_eq_true z66_
        have hx7 := bt_at a0 x4_1
        replace p7 := eq_true p7
        replace q7 := eq_true q7
        go_wp2
        go_meet
        case rel => exact ⟨_, (((bt a0 x4_1) != 46)), z62_, H', ⟨by have := HK1.out; first | omega | exact Nat.le_refl _⟩, z64_⟩
       ·rw [if_neg c6] at H
        exact absurd H (by simp)
      ·rw [if_neg c5] at H
       have c5b0 : decide (x4_1 < (a0.size : Int)) = false := decide_eq_false c5; clear c5
       (first | rw [c5b0] | (simp only [i64_w, i32_w]; rw [c5b0]) | skip)
       have H' := Aside0.mk H
       clear H; go_wp2
       go_meet
       case rel => exact ⟨_, (false), z62_, H', ⟨by have := HK1.out; first | omega | exact Nat.le_refl _⟩, z64_⟩
     case rest =>
      clear HC4; (try clear c1); (try clear c2); (try clear c2b0); (try clear c2b1); (try clear p2); (try clear c3); (try clear c3b0); (try clear c5); (try clear c5b0); (try clear c6); (try clear c6b0); (try clear p7); (try clear q7); (try clear hx7); (try clear p2); (try clear p7); (try clear q7)
      obtain ⟨kq, x23_3, rfl, HA, HJ3, ⟨mc3, rfl⟩⟩ := hcut
      cases kq with
      | zero => exact absurd HA.out (by simp [pursuivantref05_Good.j1])
      | succ kj3 =>
       have H := HA.out
       clear HA
       simp only [pursuivantref05_Good.j1] at H
       by_cases c8 : x23_3 = true
       ·subst c8
        have H1 : (if 0 ≤ x4_1 then (if x4_1 < (a0.size : Int) then ((pursuivantref05_letter.f (bt a0 x4_1)).bind fun t101 => (if t101 = true then (pursuivantref05_Good.l0 kj3 a0 x3_1 (wrap64 (x4_1 + 1))) else (some false))) else (none)) else (none)) = some r := by rw [if_pos rfl] at H; exact H
        clear H
        have H := H1
        clear H1
        by_cases c9 : 0 ≤ x4_1
        ·rw [if_pos c9] at H
         have c9b0 : decide (0 ≤ x4_1) = true := decide_eq_true c9; clear c9
         by_cases c10 : x4_1 < (a0.size : Int)
         ·rw [if_pos c10] at H
          have c10b0 : decide (x4_1 < (a0.size : Int)) = true := decide_eq_true c10; clear c10
          replace H := Option.bind_eq_some_iff.mp H
          obtain ⟨t101, A120, H⟩ := H
          replace H : (if t101 = true then (pursuivantref05_Good.l0 kj3 a0 x3_1 (wrap64 (x4_1 + 1))) else (some false)) = some r := H
          have A12 := Aside0.mk A120; clear A120
          by_cases c13 : t101 = true
          ·subst c13
           have H1 : (pursuivantref05_Good.l0 kj3 a0 x3_1 (wrap64 (x4_1 + 1))) = some r := by rw [if_pos rfl] at H; exact H
           clear H
           have H := H1
           clear H1
           have H' := Aside0.mk H
           clear H
           have p11 : 0 ≤ (x4_1 : Int) := of_decide_eq_true z66_
           have q11 : x4_1 < (a0.size : Int) := of_decide_eq_true z66_
           have hx11 := bt_at a0 x4_1
           replace p11 := eq_true p11
           replace q11 := eq_true q11
           go_wp2_with (first | ((with_reducible refine gate_callee (f := 60) rfl ?_); refine goesL_ (some 27) rfl rfl Tryd.func60 (by kernel_rfl) rfl #[.int .u8 (bt a0 x4_1)] rfl z38_ ?_; (with_reducible refine (pursuivantref05_letter.calls (bt a0 x4_1) true _ ?gw1_ A12.out).mono ?_); (case gw1_ => first | exact hG_ | (refine GW.below hG_ ?_; first | (with_reducible exact HB.out) | (repeat (first | (with_reducible first | exact HB.out | apply below_alloc | apply pw_below_drewN | apply below_drew1 | apply below_drew | exact Below.refl _ _) | exact HB.out))) | (apply GW.drewN; exact hG_) | (apply GW.drew; exact hG_)); rintro e w' ⟨rfl, ⟨nd, rfl⟩⟩; refine ⟨_, rfl, ?_⟩))
           go_roundg kj3
           case measure => have := HK1.out; have := HJ3.out; omega
           case rel => exact ⟨(x3_1), (wrap64 (x4_1 + 1)), z62_, z62_, H', ⟨by have := HK1.out; have := HJ3.out; omega⟩, z64_⟩
          ·replace c13 := Bool.eq_false_iff.mpr c13
           subst c13
           have H1 : (some false) = some r := by rw [if_neg (show ¬ (false = true) by decide)] at H; exact H
           clear H
           have H := H1
           clear H1
           obtain rfl := Option.some.inj H
           have p11 : 0 ≤ (x4_1 : Int) := of_decide_eq_true z66_
           have q11 : x4_1 < (a0.size : Int) := of_decide_eq_true z66_
           have hx11 := bt_at a0 x4_1
           replace p11 := eq_true p11
           replace q11 := eq_true q11
           go_wp2_with (first | ((with_reducible refine gate_callee (f := 60) rfl ?_); refine goesL_ (some 27) rfl rfl Tryd.func60 (by kernel_rfl) rfl #[.int .u8 (bt a0 x4_1)] rfl z38_ ?_; (with_reducible refine (pursuivantref05_letter.calls (bt a0 x4_1) false _ ?gw2_ A12.out).mono ?_); (case gw2_ => first | exact hG_ | (refine GW.below hG_ ?_; first | (with_reducible exact HB.out) | (repeat (first | (with_reducible first | exact HB.out | apply below_alloc | apply pw_below_drewN | apply below_drew1 | apply below_drew | exact Below.refl _ _) | exact HB.out))) | (apply GW.drewN; exact hG_) | (apply GW.drew; exact hG_)); rintro e w' ⟨rfl, ⟨nd, rfl⟩⟩; refine ⟨_, rfl, ?_⟩))
           go_ret
           exact ⟨z62_, z64_⟩
         ·rw [if_neg c10] at H
          exact absurd H (by simp)
        ·rw [if_neg c9] at H
         exact absurd H (by simp)
       ·replace c8 := Bool.eq_false_iff.mpr c8
        subst c8
        have H1 : (if x4_1 = x3_1 then (some false) else (if (wrap64 (x4_1 - x3_1)) > 63 then (some false) else (if 0 ≤ x3_1 then (if x3_1 < (a0.size : Int) then (if (bt a0 x3_1) = 45 then (some false) else (if 0 ≤ (wrap64 (x4_1 - 1)) then (if (wrap64 (x4_1 - 1)) < (a0.size : Int) then (if (bt a0 (wrap64 (x4_1 - 1))) = 45 then (some false) else (pursuivantref05_Good.l0 kj3 a0 (wrap64 (x4_1 + 1)) (wrap64 (x4_1 + 1)))) else (none)) else (none))) else (none)) else (none)))) = some r := by rw [if_neg (show ¬ (false = true) by decide)] at H; exact H
        clear H
        have H := H1
        clear H1
        by_cases c14 : x4_1 = x3_1
        ·rw [if_pos c14] at H
         have c14b0 : (x4_1 == x3_1) = true := beq_iff_eq.mpr c14
         have c14b1 : (x4_1 != x3_1) = false := bne_eq_false_iff_eq.mpr c14
         clear c14
         obtain rfl := Option.some.inj H
         go_wp2
         go_ret
         exact ⟨z62_, z64_⟩
        ·rw [if_neg c14] at H
         have c14b0 : (x4_1 == x3_1) = false := beq_eq_false_iff_ne.mpr c14
         have c14b1 : (x4_1 != x3_1) = true := bne_iff_ne.mpr c14
         by_cases c15 : (wrap64 (x4_1 - x3_1)) > 63
         ·rw [if_pos c15] at H
          have c15b0 : decide (63 < (wrap64 (x4_1 - x3_1))) = true := decide_eq_true c15; clear c15
          obtain rfl := Option.some.inj H
          go_wp2
          go_ret
          exact ⟨z62_, z64_⟩
         ·rw [if_neg c15] at H
          have c15b0 : decide (63 < (wrap64 (x4_1 - x3_1))) = false := decide_eq_false c15; clear c15
          by_cases c16 : 0 ≤ x3_1
          ·rw [if_pos c16] at H
           have c16b0 : decide (0 ≤ x3_1) = true := decide_eq_true c16; clear c16
           by_cases c17 : x3_1 < (a0.size : Int)
           ·rw [if_pos c17] at H
            have c17b0 : decide (x3_1 < (a0.size : Int)) = true := decide_eq_true c17; clear c17
            by_cases c19 : (bt a0 x3_1) = 45
            ·rw [if_pos c19] at H
             have c19b0 : ((bt a0 x3_1) == 45) = true := beq_iff_eq.mpr c19
             have c19b1 : ((bt a0 x3_1) != 45) = false := bne_eq_false_iff_eq.mpr c19
             clear c19
             obtain rfl := Option.some.inj H
             have p18 : 0 ≤ (x3_1 : Int) := of_decide_eq_true z66_
             have q18 : x3_1 < (a0.size : Int) := of_decide_eq_true z66_
             have hx18 := bt_at a0 x3_1
             replace p18 := eq_true p18
             replace q18 := eq_true q18
             go_wp2
             go_ret
             exact ⟨z62_, z64_⟩
            ·rw [if_neg c19] at H
             have c19b0 : ((bt a0 x3_1) == 45) = false := beq_eq_false_iff_ne.mpr c19
             have c19b1 : ((bt a0 x3_1) != 45) = true := bne_iff_ne.mpr c19
             obtain ⟨ji20, hji20⟩ : ∃ j_ : Int, (wrap64 (x4_1 - 1)) = j_ := ⟨_, rfl⟩
             replace H : (if 0 ≤ (ji20) then (if (ji20) < (a0.size : Int) then (if (bt a0 (ji20)) = 45 then (some false) else (pursuivantref05_Good.l0 kj3 a0 (wrap64 (x4_1 + 1)) (wrap64 (x4_1 + 1)))) else (none)) else (none)) = some r := by first | (rw [hji20] at H; exact H) | (simp only [hji20] at H ⊢; exact H)
             have hji20w : (IntKind.i64.wrap (x4_1 - 1)) = ji20 := (i64_w _).trans hji20
             by_cases c21 : 0 ≤ (ji20)
             ·rw [if_pos c21] at H
              have c21b0 : decide (0 ≤ (ji20)) = true := decide_eq_true c21; clear c21
              by_cases c22 : (ji20) < (a0.size : Int)
              ·rw [if_pos c22] at H
               have c22b0 : decide ((ji20) < (a0.size : Int)) = true := decide_eq_true c22; clear c22
               by_cases c24 : (bt a0 (ji20)) = 45
               ·rw [if_pos c24] at H
                have c24b0 : ((bt a0 (ji20)) == 45) = true := beq_iff_eq.mpr c24
                have c24b1 : ((bt a0 (ji20)) != 45) = false := bne_eq_false_iff_eq.mpr c24
                clear c24
                obtain rfl := Option.some.inj H
                have p18 : 0 ≤ (x3_1 : Int) := of_decide_eq_true z66_
                have q18 : x3_1 < (a0.size : Int) := of_decide_eq_true z66_
                have hx18 := bt_at a0 x3_1
                replace p18 := eq_true p18
                replace q18 := eq_true q18
                have p23 : 0 ≤ ((ji20) : Int) := of_decide_eq_true z66_
                have q23 : (ji20) < (a0.size : Int) := of_decide_eq_true z66_
                have hx23 := bt_at a0 (ji20)
                replace p23 := eq_true p23
                replace q23 := eq_true q23
                go_wp2
                go_ret
                exact ⟨by first | rfl | (simp [nil_bne, nil_beq]; done) | (simp; done) | (simp only [← hji20] <;> (first | rfl | simp)) | (simp [*]; done), z64_⟩
               ·rw [if_neg c24] at H
                have c24b0 : ((bt a0 (ji20)) == 45) = false := beq_eq_false_iff_ne.mpr c24
                have c24b1 : ((bt a0 (ji20)) != 45) = true := bne_iff_ne.mpr c24
                have H' := Aside0.mk H
                clear H
                have p18 : 0 ≤ (x3_1 : Int) := of_decide_eq_true z66_
                have q18 : x3_1 < (a0.size : Int) := of_decide_eq_true z66_
                have hx18 := bt_at a0 x3_1
                replace p18 := eq_true p18
                replace q18 := eq_true q18
                have p23 : 0 ≤ ((ji20) : Int) := of_decide_eq_true z66_
                have q23 : (ji20) < (a0.size : Int) := of_decide_eq_true z66_
                have hx23 := bt_at a0 (ji20)
                replace p23 := eq_true p23
                replace q23 := eq_true q23
                go_wp2
                go_roundg kj3
                case measure => have := HK1.out; have := HJ3.out; omega
                case rel => exact ⟨(wrap64 (x4_1 + 1)), (wrap64 (x4_1 + 1)), z62_, z62_, H', ⟨by have := HK1.out; have := HJ3.out; omega⟩, z64_⟩
              ·rw [if_neg c22] at H
               exact absurd H (by simp)
             ·rw [if_neg c21] at H
              exact absurd H (by simp)
           ·rw [if_neg c17] at H
            exact absurd H (by simp)
          ·rw [if_neg c16] at H
           exact absurd H (by simp)
    ·rw [if_neg c3] at H
     have c3b0 : decide (x4_1 ≤ (a0.size : Int)) = false := decide_eq_false c3; clear c3
     obtain rfl := Option.some.inj H
     go_wp2
     go_ret
     exact ⟨z62_, z64_⟩

def pursuivantref05_Port.l0 : Nat → ByteArray → Int → Int → Option (Int × Bool)
 | 0, _, _, _ => none
 | k + 1, x0, x4, x5 => if x5 < (x0.size : Int) then (if 0 ≤ x5 then (if (bt x0 x5) < 48 then (some (0, false)) else (if (bt x0 x5) > 57 then (some (0, false)) else (if x5 > 4 then (some (0, false)) else (if x4 = 0 then (if (bt x0 x5) = 48 then (some (0, false)) else (pursuivantref05_Port.l0 k x0 (wrap64 ((wrap64 (10 * x4)) + (((bt x0 x5) - 48) % 256))) (wrap64 (x5 + 1)))) else (pursuivantref05_Port.l0 k x0 (wrap64 ((wrap64 (10 * x4)) + (((bt x0 x5) - 48) % 256))) (wrap64 (x5 + 1))))))) else (none)) else (if x4 < 1 then (some (0, false)) else (if x4 > 65535 then (some (0, false)) else (some (x4, true))))
def pursuivantref05_Port.f (k : Nat) (a0 : ByteArray) : Option (Int × Bool) := pursuivantref05_Port.l0 k a0 0 0
set_option maxHeartbeats 8000000 in
set_option maxRecDepth 100000 in
theorem pursuivantref05_Port.calls (k : Nat) (a0 : ByteArray) (r1 : Int) (r2 : Bool) (w : World) (hG_ : GW w) (h : pursuivantref05_Port.f k a0 = some (r1, r2)) :
  Calls Tryd.prog 21 #[.string a0] w fun e w' => e = .returned (.tuple #[.int .i64 r1, .bool r2]) ∧ Drawn0 w w' := by
 have H : (pursuivantref05_Port.l0 k a0 0 0) = some (r1, r2) := h
 clear h
 have H' := Aside0.mk H
 clear H
 go_enter Tryd.func21, Tryd.ntmps21
 go_wp2
 go_loopg [4, 5] k (fun kq v4 v5 w' => ∃ (x4_1 x5_1 : Int), v4 = .int .i64 x4_1 ∧ v5 = .int .i64 x5_1 ∧ Aside0 (pursuivantref05_Port.l0 kq a0 x4_1 x5_1 = some (r1, r2)) ∧ Aside0 (kq ≤ k) ∧ Drawn0 w w')
 case atStart => exact ⟨(0), (0), z62_, z62_, H', ⟨Nat.le_refl _⟩, z64_⟩
 case round =>
  clear H'
  obtain ⟨x4_1, x5_1, rfl, rfl, HA, HK1, ⟨m1, rfl⟩⟩ := hrel
  cases gk with
  | zero => exact absurd HA.out (by simp [pursuivantref05_Port.l0])
  | succ k1 =>
   have H := HA.out
   clear HA
   simp only [pursuivantref05_Port.l0] at H
   by_cases c2 : x5_1 < (a0.size : Int)
   ·rw [if_pos c2] at H
    have c2b0 : decide (x5_1 < (a0.size : Int)) = true := decide_eq_true c2; clear c2
    by_cases c3 : 0 ≤ x5_1
    ·rw [if_pos c3] at H
     have c3b0 : decide (0 ≤ x5_1) = true := decide_eq_true c3; clear c3
     by_cases c5 : (bt a0 x5_1) < 48
     ·rw [if_pos c5] at H
      have c5b0 : decide ((bt a0 x5_1) < 48) = true := decide_eq_true c5; clear c5
      simp only [Option.some.injEq, Prod.mk.injEq] at H
      obtain ⟨rfl, rfl⟩ := H
      have p4 : 0 ≤ (x5_1 : Int) := of_decide_eq_true z66_
      have q4 : x5_1 < (a0.size : Int) := of_decide_eq_true z66_
      have hx4 := bt_at a0 x5_1
      replace p4 := eq_true p4
      replace q4 := eq_true q4
      go_wp2
      go_ret2
      exact ⟨z62_, z64_⟩
     ·rw [if_neg c5] at H
      have c5b0 : decide ((bt a0 x5_1) < 48) = false := decide_eq_false c5; clear c5
      by_cases c7 : (bt a0 x5_1) > 57
      ·rw [if_pos c7] at H
       have c7b0 : decide (57 < (bt a0 x5_1)) = true := decide_eq_true c7; clear c7
       simp only [Option.some.injEq, Prod.mk.injEq] at H
       obtain ⟨rfl, rfl⟩ := H
       have p4 : 0 ≤ (x5_1 : Int) := of_decide_eq_true z66_
       have q4 : x5_1 < (a0.size : Int) := of_decide_eq_true z66_
       have hx4 := bt_at a0 x5_1
       replace p4 := eq_true p4
       replace q4 := eq_true q4
       have p6 : 0 ≤ (x5_1 : Int) := of_decide_eq_true z66_
       have q6 : x5_1 < (a0.size : Int) := of_decide_eq_true z66_
       have hx6 := bt_at a0 x5_1
       replace p6 := eq_true p6
       replace q6 := eq_true q6
       go_wp2
       go_ret2
       exact ⟨z62_, z64_⟩
      ·rw [if_neg c7] at H
       have c7b0 : decide (57 < (bt a0 x5_1)) = false := decide_eq_false c7; clear c7
       by_cases c8 : x5_1 > 4
       ·rw [if_pos c8] at H
        have c8b0 : decide (4 < x5_1) = true := decide_eq_true c8; clear c8
        simp only [Option.some.injEq, Prod.mk.injEq] at H
        obtain ⟨rfl, rfl⟩ := H
        have p4 : 0 ≤ (x5_1 : Int) := of_decide_eq_true z66_
        have q4 : x5_1 < (a0.size : Int) := of_decide_eq_true z66_
        have hx4 := bt_at a0 x5_1
        replace p4 := eq_true p4
        replace q4 := eq_true q4
        have p6 : 0 ≤ (x5_1 : Int) := of_decide_eq_true z66_
        have q6 : x5_1 < (a0.size : Int) := of_decide_eq_true z66_
        have hx6 := bt_at a0 x5_1
        replace p6 := eq_true p6
        replace q6 := eq_true q6
        go_wp2
        go_ret2
        exact ⟨z62_, z64_⟩
       ·rw [if_neg c8] at H
        have c8b0 : decide (4 < x5_1) = false := decide_eq_false c8; clear c8
        by_cases c9 : x4_1 = 0
        ·rw [if_pos c9] at H
         have c9b0 : (x4_1 == 0) = true := beq_iff_eq.mpr c9
         have c9b1 : (x4_1 != 0) = false := bne_eq_false_iff_eq.mpr c9
         clear c9
         by_cases c11 : (bt a0 x5_1) = 48
         ·rw [if_pos c11] at H
          have c11b0 : ((bt a0 x5_1) == 48) = true := beq_iff_eq.mpr c11
          have c11b1 : ((bt a0 x5_1) != 48) = false := bne_eq_false_iff_eq.mpr c11
          clear c11
          simp only [Option.some.injEq, Prod.mk.injEq] at H
          obtain ⟨rfl, rfl⟩ := H
          have p4 : 0 ≤ (x5_1 : Int) := of_decide_eq_true z66_
          have q4 : x5_1 < (a0.size : Int) := of_decide_eq_true z66_
          have hx4 := bt_at a0 x5_1
          replace p4 := eq_true p4
          replace q4 := eq_true q4
          have p6 : 0 ≤ (x5_1 : Int) := of_decide_eq_true z66_
          have q6 : x5_1 < (a0.size : Int) := of_decide_eq_true z66_
          have hx6 := bt_at a0 x5_1
          replace p6 := eq_true p6
          replace q6 := eq_true q6
          have p10 : 0 ≤ (x5_1 : Int) := of_decide_eq_true z66_
          have q10 : x5_1 < (a0.size : Int) := of_decide_eq_true z66_
          have hx10 := bt_at a0 x5_1
          replace p10 := eq_true p10
          replace q10 := eq_true q10
          go_wp2
          go_ret2
          exact ⟨z62_, z64_⟩
         ·rw [if_neg c11] at H
          have c11b0 : ((bt a0 x5_1) == 48) = false := beq_eq_false_iff_ne.mpr c11
          have c11b1 : ((bt a0 x5_1) != 48) = true := bne_iff_ne.mpr c11
          have H' := Aside0.mk H
          clear H
          have p4 : 0 ≤ (x5_1 : Int) := of_decide_eq_true z66_
          have q4 : x5_1 < (a0.size : Int) := of_decide_eq_true z66_
          have hx4 := bt_at a0 x5_1
          replace p4 := eq_true p4
          replace q4 := eq_true q4
          have p6 : 0 ≤ (x5_1 : Int) := of_decide_eq_true z66_
          have q6 : x5_1 < (a0.size : Int) := of_decide_eq_true z66_
          have hx6 := bt_at a0 x5_1
          replace p6 := eq_true p6
          replace q6 := eq_true q6
          have p10 : 0 ≤ (x5_1 : Int) := of_decide_eq_true z66_
          have q10 : x5_1 < (a0.size : Int) := of_decide_eq_true z66_
          have hx10 := bt_at a0 x5_1
          replace p10 := eq_true p10
          replace q10 := eq_true q10
          have p12 : 0 ≤ (x5_1 : Int) := of_decide_eq_true z66_
          have q12 : x5_1 < (a0.size : Int) := of_decide_eq_true z66_
          have hx12 := bt_at a0 x5_1
          replace p12 := eq_true p12
          replace q12 := eq_true q12
          go_wp2
          go_roundg k1
          case measure => have := HK1.out; omega
          case rel => exact ⟨(wrap64 ((wrap64 (10 * x4_1)) + (((bt a0 x5_1) - 48) % 256))), (wrap64 (x5_1 + 1)), z62_, z62_, H', ⟨z69_⟩, z64_⟩
        ·rw [if_neg c9] at H
         have c9b0 : (x4_1 == 0) = false := beq_eq_false_iff_ne.mpr c9
         have c9b1 : (x4_1 != 0) = true := bne_iff_ne.mpr c9
         have H' := Aside0.mk H
         clear H
         have p4 : 0 ≤ (x5_1 : Int) := of_decide_eq_true z66_
         have q4 : x5_1 < (a0.size : Int) := of_decide_eq_true z66_
         have hx4 := bt_at a0 x5_1
         replace p4 := eq_true p4
         replace q4 := eq_true q4
         have p6 : 0 ≤ (x5_1 : Int) := of_decide_eq_true z66_
         have q6 : x5_1 < (a0.size : Int) := of_decide_eq_true z66_
         have hx6 := bt_at a0 x5_1
         replace p6 := eq_true p6
         replace q6 := eq_true q6
         have p13 : 0 ≤ (x5_1 : Int) := of_decide_eq_true z66_
         have q13 : x5_1 < (a0.size : Int) := of_decide_eq_true z66_
         have hx13 := bt_at a0 x5_1
         replace p13 := eq_true p13
         replace q13 := eq_true q13
         go_wp2
         go_roundg k1
         case measure => have := HK1.out; omega
         case rel => exact ⟨(wrap64 ((wrap64 (10 * x4_1)) + (((bt a0 x5_1) - 48) % 256))), (wrap64 (x5_1 + 1)), z62_, z62_, H', ⟨z69_⟩, z64_⟩
    ·rw [if_neg c3] at H
     exact absurd H (by simp)
   ·rw [if_neg c2] at H
    have c2b0 : decide (x5_1 < (a0.size : Int)) = false := decide_eq_false c2; clear c2
    by_cases c14 : x4_1 < 1
    ·rw [if_pos c14] at H
     have c14b0 : decide (x4_1 < 1) = true := decide_eq_true c14; clear c14
     simp only [Option.some.injEq, Prod.mk.injEq] at H
     obtain ⟨rfl, rfl⟩ := H
     go_wp2
     go_ret2
     exact ⟨z62_, z64_⟩
    ·rw [if_neg c14] at H
     have c14b0 : decide (x4_1 < 1) = false := decide_eq_false c14; clear c14
     by_cases c15 : x4_1 > 65535
     ·rw [if_pos c15] at H
      have c15b0 : decide (65535 < x4_1) = true := decide_eq_true c15; clear c15
      simp only [Option.some.injEq, Prod.mk.injEq] at H
      obtain ⟨rfl, rfl⟩ := H
      go_wp2
      go_ret2
      exact ⟨z62_, z64_⟩
     ·rw [if_neg c15] at H
      have c15b0 : decide (65535 < x4_1) = false := decide_eq_false c15; clear c15
      simp only [Option.some.injEq, Prod.mk.injEq] at H
      obtain ⟨rfl, rfl⟩ := H
      go_wp2
      go_ret2
      exact ⟨z62_, z64_⟩

def pursuivantref05_Default.f (a0 : ByteArray) : Option (Int) := if a0.toList = ([104, 116, 116, 112] : List UInt8) then (some 80) else (if a0.toList = ([104, 116, 116, 112, 115] : List UInt8) then (some 443) else (some 0))
set_option maxHeartbeats 8000000 in
set_option maxRecDepth 100000 in
theorem pursuivantref05_Default.calls (a0 : ByteArray) (r : Int) (w : World) (hG_ : GW w) (h : pursuivantref05_Default.f a0 = some r) :
  Calls Tryd.prog 23 #[.string a0] w fun e w' => e = .returned (.int .i64 r) ∧ Drawn0 w w' := by
 have H : (if a0.toList = ([104, 116, 116, 112] : List UInt8) then (some 80) else (if a0.toList = ([104, 116, 116, 112, 115] : List UInt8) then (some 443) else (some 0))) = some r := h
 clear h
 by_cases c2 : a0.toList = ([104, 116, 116, 112] : List UInt8)
 ·rw [if_pos c2] at H
  have c2b0 : (a0.toList == ([104, 116, 116, 112] : List UInt8)) = true := beq_iff_eq.mpr c2
  have c2b1 : (a0.toList != ([104, 116, 116, 112] : List UInt8)) = false := bne_eq_false_iff_eq.mpr c2
  clear c2
  obtain rfl := Option.some.inj H
  go_enter Tryd.func23, Tryd.ntmps23
  go_wp2
  go_ret
  exact ⟨z62_, z64_⟩
 ·rw [if_neg c2] at H
  have c2b0 : (a0.toList == ([104, 116, 116, 112] : List UInt8)) = false := beq_eq_false_iff_ne.mpr c2
  have c2b1 : (a0.toList != ([104, 116, 116, 112] : List UInt8)) = true := bne_iff_ne.mpr c2
  by_cases c3 : a0.toList = ([104, 116, 116, 112, 115] : List UInt8)
  ·rw [if_pos c3] at H
   have c3b0 : (a0.toList == ([104, 116, 116, 112, 115] : List UInt8)) = true := beq_iff_eq.mpr c3
   have c3b1 : (a0.toList != ([104, 116, 116, 112, 115] : List UInt8)) = false := bne_eq_false_iff_eq.mpr c3
   clear c3
   obtain rfl := Option.some.inj H
   go_enter Tryd.func23, Tryd.ntmps23
   go_wp2
   go_ret
   exact ⟨z62_, z64_⟩
  ·rw [if_neg c3] at H
   have c3b0 : (a0.toList == ([104, 116, 116, 112, 115] : List UInt8)) = false := beq_eq_false_iff_ne.mpr c3
   have c3b1 : (a0.toList != ([104, 116, 116, 112, 115] : List UInt8)) = true := bne_iff_ne.mpr c3
   obtain rfl := Option.some.inj H
   go_enter Tryd.func23, Tryd.ntmps23
   go_wp2
   go_ret
   exact ⟨z62_, z64_⟩

end Go.Proofs.YtindkgcbglonhaaDoor.Hand
