/- What each Go function here computes, and that its call computes it, over contracts proved by hand (written by this project's xprint.py, which drives the kit's print). -/
import Derived.Test.YtindkgcbglonhaaDoorZ
import Derived.Test.YtindkgcbglonhaaDoorK
import Derived.Test.YtindkgcbglonhaaDoorLib
import Derived.Test.YtindkgcbglonhaaDoorLow
import Derived.Test.YtindkgcbglonhaaDoorFA1
namespace Go.Proofs.YtindkgcbglonhaaDoor.Hand
open Go.RowKit Go.Proofs.YtindkgcbglonhaaDoorW.PrintWords Go.Proofs.YtindkgcbglonhaaDoorW.PrintLast Go.Proofs.YtindkgcbglonhaaDoorW.PrintMore
attribute [local go_sem] max2_int min2_int max_two min_two max_three min_three max_four min_four   -- for this text's walks alone
set_option linter.unusedVariables false
set_option linter.unusedSimpArgs false

/-! ### pursuivantref10_Method: function 26 -/
/-! ### pursuivantref10_Bad: function 28 -/
/-! ### pursuivantref10_Simple: function 30 -/
/-! ### pursuivantref04_Lower: function 71 -/
def pursuivantref04_Lower.l0 : Nat → ByteArray → List Int → Int → Option (ByteArray)
 | 0, _, _, _ => none
 | k + 1, x0, x3, x4 => if x4 < (x0.size : Int) then (if 0 ≤ x4 then (if (bt x0 x4) ≥ 65 then (if (bt x0 x4) ≤ 90 then (if x3.length < 140737488355328 then (pursuivantref04_Lower.l0 k x0 (x3 ++ [((bt x0 x4) + 32) % 256]) (wrap64 (x4 + 1))) else (none)) else (if x3.length < 140737488355328 then (pursuivantref04_Lower.l0 k x0 (x3 ++ [bt x0 x4]) (wrap64 (x4 + 1))) else (none))) else (if x3.length < 140737488355328 then (pursuivantref04_Lower.l0 k x0 (x3 ++ [bt x0 x4]) (wrap64 (x4 + 1))) else (none))) else (none)) else (some (strOfNums x3))
def pursuivantref04_Lower.f (k : Nat) (a0 : ByteArray) : Option (ByteArray) := pursuivantref04_Lower.l0 k a0 (([] : List Int)) 0
set_option maxHeartbeats 8000000 in
set_option maxRecDepth 100000 in
theorem pursuivantref04_Lower.calls (k : Nat) (a0 : ByteArray) (r : ByteArray) (w : World) (hG_ : GW w) (h : pursuivantref04_Lower.f k a0 = some r) :
  Calls Tryd.prog 71 #[.string a0] w fun e w' => e = .returned (.string r) ∧ Below w.heap.size w w' := by
 have HB := Aside0.mk (Below.refl w.heap.size w)
 have H : (pursuivantref04_Lower.l0 k a0 (([] : List Int)) 0) = some r := h
 clear h
 obtain ⟨y156, hy156⟩ : ∃ y_ : List Int, y_ = (([] : List Int)) := ⟨_, rfl⟩
 replace H : (pursuivantref04_Lower.l0 k a0 y156 0) = some r := by first | (rw [hy156]; with_reducible exact H) | (have H2_ := (Option.bind_some _ _).symm.trans H; rw [hy156]; with_reducible exact H2_) | (have H2_ := (Option.bind_some _ _).symm.trans H; with_reducible exact H2_) | with_reducible exact H | (rw [hy156]; exact H) | exact H
 have Ny156 := Aside0.mk hy156
 clear hy156
 have H' := Aside0.mk H
 clear H
 go_enter Tryd.func71, Tryd.ntmps71
 go_wp2_with (first | ((with_reducible refine gate_dst (N := 6) rfl ?_); refine Kd.R_lit (Kd.int .u8) _ 5 ?hg (N := 6) ?hd (xs := ([] : List Int)) (inner := []) (ok := fun _ => True) (okp := fun _ => True) ?hr ?hp (fun _ hk => hk) trivial (Below.refl _ _) (Nat.le_refl _) (by simp) ?_; (case hd => rfl); (case hg => rfl); (case hr => first | (go_simp; done) | (go_simp; rfl)); (case hp => exact (Reps.none _ _)); intro v157 w2 ho3 hb hg_ hnew_; clear hg_ hnew_; (first | rw [← Ny156.out] at ho3 | (simp only [Int.reduceToNat] at ho3; rw [← Ny156.out] at ho3)); have n0_ := Aside0.mk (Kd.R_lower ho3 (below_size z3_)); have n1_ := Aside0.mk (below_step z3_ hb); clear HB; have HO158 := n0_; have HB := n1_; clear n0_ n1_; clear hb ho3))
 go_loopg [3, 4] k (fun kq v3 v4 w' => ∃ (x3_1 : List Int) (x4_1 : Int), v4 = .int .i64 x4_1 ∧ Aside0 (pursuivantref04_Lower.l0 kq a0 x3_1 x4_1 = some r) ∧ Aside0 (kq ≤ k) ∧ Aside0 (Kd.R (Kd.int .u8) 5 w' w.heap.size (fun _ => True) v3 x3_1) ∧ Aside0 (Below w.heap.size w w'))
 case atStart => exact ⟨(y156), (0), z15_, H', ⟨Nat.le_refl _⟩, ⟨by (with_reducible repeat (first | apply Kd.R_alloc | apply Kd.R_drewN | apply Kd.R_drew)); exact HO158.out⟩, ⟨z3_⟩⟩
 case round =>
  clear H'
  try clear p2
  obtain ⟨x3_1, x4_1, rfl, HA, HK1, HO_3, HB⟩ := hrel
  cases gk with
  | zero => exact absurd HA.out (by simp [pursuivantref04_Lower.l0])
  | succ k1 =>
   have H := HA.out
   clear HA
   simp only [pursuivantref04_Lower.l0] at H
   by_cases c4 : x4_1 < (a0.size : Int)
   ·rw [if_pos c4] at H
    have c4b0 : decide (x4_1 < (a0.size : Int)) = true := decide_eq_true c4
    clear c4
    by_cases c5 : 0 ≤ x4_1
    ·rw [if_pos c5] at H
     have c5b0 : decide (0 ≤ x4_1) = true := decide_eq_true c5
     clear c5
     by_cases c7 : (bt a0 x4_1) ≥ 65
     ·rw [if_pos c7] at H
      have c7b0 : decide (65 ≤ (bt a0 x4_1)) = true := decide_eq_true c7
      clear c7
      by_cases c8 : (bt a0 x4_1) ≤ 90
      ·rw [if_pos c8] at H
       have c8b0 : decide ((bt a0 x4_1) ≤ 90) = true := decide_eq_true c8
       clear c8
       by_cases c9 : x3_1.length < 140737488355328
       ·rw [if_pos c9] at H
        have LMc9 := Aside0.mk c9
        clear c9
        obtain ⟨y159, hy159⟩ : ∃ y_ : List Int, y_ = (x3_1 ++ [((bt a0 x4_1) + 32) % 256]) := ⟨_, rfl⟩
        replace H : (pursuivantref04_Lower.l0 k1 a0 y159 (wrap64 (x4_1 + 1))) = some r := by first | (rw [hy159]; with_reducible exact H) | (have H2_ := (Option.bind_some _ _).symm.trans H; rw [hy159]; with_reducible exact H2_) | (have H2_ := (Option.bind_some _ _).symm.trans H; with_reducible exact H2_) | with_reducible exact H | (rw [hy159]; exact H) | exact H
        have Ny159 := Aside0.mk hy159
        clear hy159
        have H' := Aside0.mk H
        clear H
        have p6 : 0 ≤ (x4_1 : Int) := of_decide_eq_true z19_
        have q6 : x4_1 < (a0.size : Int) := of_decide_eq_true z19_
        have hx6 := bt_at a0 x4_1
        replace p6 := eq_true p6
        replace q6 := eq_true q6
        go_wp2_with (first | ((with_reducible refine gate_builtin (b := .append) (xs := #[.tmp 24, .tmp 26]) rfl ?_); at_builtin; refine Kd.R_append (Kd.int .u8) (w0 := w) w.heap.size rfl (.tmp 24) (.tmp 26) 84 5 (.int .u8 0) 1 rfl Tryd.underlying84 info5 rfl (by decide) (by omega) u3 x3_1 (((bt a0 x4_1) + 32) % 256) [.int .u8 (((bt a0 x4_1) + 32) % 256)] (fun _ => True) (fun _ => False) rfl rfl ?aP (fun _ hk => hk.elim) ?aF ?aO ?aB ?aS ?aL ?_; (case aP => exact rfl); (case aB => exact z3_); (case aF => exact (fun _ _ => trivial)); (case aO => exact z11_); (case aS => exact (below_size z3_)); (case aL => have := LMc9.out; omega); intro v160 w10 ho hb hg hat; rw [← Ny159.out] at ho; have n0_ := Aside0.mk (hb); have n1_ := Aside0.mk (ho); clear HB; clear HO_3; have HB := n0_; have HO161 := n1_; clear n0_ n1_; clear ho hb hg hat))
        go_roundg k1
        case measure => have := HK1.out; omega
        case rel => exact ⟨(y159), (wrap64 (x4_1 + 1)), z15_, H', ⟨z22_⟩, ⟨by (with_reducible repeat (first | apply Kd.R_alloc | apply Kd.R_drewN | apply Kd.R_drew)); exact HO161.out⟩, ⟨z3_⟩⟩
       ·rw [if_neg c9] at H
        exact absurd H (by simp)
      ·rw [if_neg c8] at H
       have c8b0 : decide ((bt a0 x4_1) ≤ 90) = false := decide_eq_false c8
       clear c8
       by_cases c11 : x3_1.length < 140737488355328
       ·rw [if_pos c11] at H
        have LMc11 := Aside0.mk c11
        clear c11
        obtain ⟨y162, hy162⟩ : ∃ y_ : List Int, y_ = (x3_1 ++ [bt a0 x4_1]) := ⟨_, rfl⟩
        replace H : (pursuivantref04_Lower.l0 k1 a0 y162 (wrap64 (x4_1 + 1))) = some r := by first | (rw [hy162]; with_reducible exact H) | (have H2_ := (Option.bind_some _ _).symm.trans H; rw [hy162]; with_reducible exact H2_) | (have H2_ := (Option.bind_some _ _).symm.trans H; with_reducible exact H2_) | with_reducible exact H | (rw [hy162]; exact H) | exact H
        have Ny162 := Aside0.mk hy162
        clear hy162
        have H' := Aside0.mk H
        clear H
        have p6 : 0 ≤ (x4_1 : Int) := of_decide_eq_true z19_
        have q6 : x4_1 < (a0.size : Int) := of_decide_eq_true z19_
        have hx6 := bt_at a0 x4_1
        replace p6 := eq_true p6
        replace q6 := eq_true q6
        go_wp2_with (first | ((with_reducible refine gate_builtin (b := .append) (xs := #[.tmp 24, .tmp 26]) rfl ?_); at_builtin; refine Kd.R_append (Kd.int .u8) (w0 := w) w.heap.size rfl (.tmp 24) (.tmp 26) 84 5 (.int .u8 0) 1 rfl Tryd.underlying84 info5 rfl (by decide) (by omega) u3 x3_1 (bt a0 x4_1) [.int .u8 (bt a0 x4_1)] (fun _ => True) (fun _ => False) rfl rfl ?aP (fun _ hk => hk.elim) ?aF ?aO ?aB ?aS ?aL ?_; (case aP => exact rfl); (case aB => exact z3_); (case aF => exact (fun _ _ => trivial)); (case aO => exact z11_); (case aS => exact (below_size z3_)); (case aL => have := LMc11.out; omega); intro v163 w12 ho hb hg hat; rw [← Ny162.out] at ho; have n0_ := Aside0.mk (hb); have n1_ := Aside0.mk (ho); clear HB; clear HO_3; have HB := n0_; have HO164 := n1_; clear n0_ n1_; clear ho hb hg hat))
        go_roundg k1
        case measure => have := HK1.out; omega
        case rel => exact ⟨(y162), (wrap64 (x4_1 + 1)), z15_, H', ⟨z22_⟩, ⟨by (with_reducible repeat (first | apply Kd.R_alloc | apply Kd.R_drewN | apply Kd.R_drew)); exact HO164.out⟩, ⟨z3_⟩⟩
       ·rw [if_neg c11] at H
        exact absurd H (by simp)
     ·rw [if_neg c7] at H
      have c7b0 : decide (65 ≤ (bt a0 x4_1)) = false := decide_eq_false c7
      clear c7
      by_cases c13 : x3_1.length < 140737488355328
      ·rw [if_pos c13] at H
       have LMc13 := Aside0.mk c13
       clear c13
       obtain ⟨y165, hy165⟩ : ∃ y_ : List Int, y_ = (x3_1 ++ [bt a0 x4_1]) := ⟨_, rfl⟩
       replace H : (pursuivantref04_Lower.l0 k1 a0 y165 (wrap64 (x4_1 + 1))) = some r := by first | (rw [hy165]; with_reducible exact H) | (have H2_ := (Option.bind_some _ _).symm.trans H; rw [hy165]; with_reducible exact H2_) | (have H2_ := (Option.bind_some _ _).symm.trans H; with_reducible exact H2_) | with_reducible exact H | (rw [hy165]; exact H) | exact H
       have Ny165 := Aside0.mk hy165
       clear hy165
       have H' := Aside0.mk H
       clear H
       have p6 : 0 ≤ (x4_1 : Int) := of_decide_eq_true z19_
       have q6 : x4_1 < (a0.size : Int) := of_decide_eq_true z19_
       have hx6 := bt_at a0 x4_1
       replace p6 := eq_true p6
       replace q6 := eq_true q6
       go_wp2_with (first | ((with_reducible refine gate_builtin (b := .append) (xs := #[.tmp 24, .tmp 26]) rfl ?_); at_builtin; refine Kd.R_append (Kd.int .u8) (w0 := w) w.heap.size rfl (.tmp 24) (.tmp 26) 84 5 (.int .u8 0) 1 rfl Tryd.underlying84 info5 rfl (by decide) (by omega) u3 x3_1 (bt a0 x4_1) [.int .u8 (bt a0 x4_1)] (fun _ => True) (fun _ => False) rfl rfl ?aP (fun _ hk => hk.elim) ?aF ?aO ?aB ?aS ?aL ?_; (case aP => exact rfl); (case aB => exact z3_); (case aF => exact (fun _ _ => trivial)); (case aO => exact z11_); (case aS => exact (below_size z3_)); (case aL => have := LMc13.out; omega); intro v166 w14 ho hb hg hat; rw [← Ny165.out] at ho; have n0_ := Aside0.mk (hb); have n1_ := Aside0.mk (ho); clear HB; clear HO_3; have HB := n0_; have HO167 := n1_; clear n0_ n1_; clear ho hb hg hat))
       go_roundg k1
       case measure => have := HK1.out; omega
       case rel => exact ⟨(y165), (wrap64 (x4_1 + 1)), z15_, H', ⟨z22_⟩, ⟨by (with_reducible repeat (first | apply Kd.R_alloc | apply Kd.R_drewN | apply Kd.R_drew)); exact HO167.out⟩, ⟨z3_⟩⟩
      ·rw [if_neg c13] at H
       exact absurd H (by simp)
    ·rw [if_neg c5] at H
     exact absurd H (by simp)
   ·rw [if_neg c4] at H
    have c4b0 : decide (x4_1 < (a0.size : Int)) = false := decide_eq_false c4
    clear c4
    obtain rfl := Option.some.inj H
    have hcv15 := own_string (P := Tryd.prog) Tryd.underlying84 Tryd.underlying5 Tryd.underlying9 (Kd.own_of_R HO_3.out)
    go_wp2
    go_ret
    exact ⟨z4_, z3_⟩

/-! ### pursuivantref10_language: function 72 -/
def pursuivantref10_language.f (a0 : Int) : Option (Bool) := if a0 ≥ 48 then (if a0 ≤ 57 then (some true) else (if a0 ≥ 65 then (if a0 ≤ 90 then (some true) else (if a0 ≥ 97 then (if a0 ≤ 122 then (some true) else (if a0 = 32 then (some true) else (if a0 = 42 then (some true) else (if a0 = 44 then (some true) else (if a0 = 45 then (some true) else (if a0 = 46 then (some true) else (if a0 = 59 then (some true) else (some (a0 == 61))))))))) else (if a0 = 32 then (some true) else (if a0 = 42 then (some true) else (if a0 = 44 then (some true) else (if a0 = 45 then (some true) else (if a0 = 46 then (some true) else (if a0 = 59 then (some true) else (some (a0 == 61)))))))))) else (if a0 ≥ 97 then (if a0 ≤ 122 then (some true) else (if a0 = 32 then (some true) else (if a0 = 42 then (some true) else (if a0 = 44 then (some true) else (if a0 = 45 then (some true) else (if a0 = 46 then (some true) else (if a0 = 59 then (some true) else (some (a0 == 61))))))))) else (if a0 = 32 then (some true) else (if a0 = 42 then (some true) else (if a0 = 44 then (some true) else (if a0 = 45 then (some true) else (if a0 = 46 then (some true) else (if a0 = 59 then (some true) else (some (a0 == 61))))))))))) else (if a0 ≥ 65 then (if a0 ≤ 90 then (some true) else (if a0 ≥ 97 then (if a0 ≤ 122 then (some true) else (if a0 = 32 then (some true) else (if a0 = 42 then (some true) else (if a0 = 44 then (some true) else (if a0 = 45 then (some true) else (if a0 = 46 then (some true) else (if a0 = 59 then (some true) else (some (a0 == 61))))))))) else (if a0 = 32 then (some true) else (if a0 = 42 then (some true) else (if a0 = 44 then (some true) else (if a0 = 45 then (some true) else (if a0 = 46 then (some true) else (if a0 = 59 then (some true) else (some (a0 == 61)))))))))) else (if a0 ≥ 97 then (if a0 ≤ 122 then (some true) else (if a0 = 32 then (some true) else (if a0 = 42 then (some true) else (if a0 = 44 then (some true) else (if a0 = 45 then (some true) else (if a0 = 46 then (some true) else (if a0 = 59 then (some true) else (some (a0 == 61))))))))) else (if a0 = 32 then (some true) else (if a0 = 42 then (some true) else (if a0 = 44 then (some true) else (if a0 = 45 then (some true) else (if a0 = 46 then (some true) else (if a0 = 59 then (some true) else (some (a0 == 61))))))))))
set_option maxHeartbeats 8000000 in
set_option maxRecDepth 100000 in
theorem pursuivantref10_language.calls (a0 : Int) (r : Bool) (w : World) (hG_ : GW w) (h : pursuivantref10_language.f a0 = some r) :
  Calls Tryd.prog 72 #[.int .u8 a0] w fun e w' => e = .returned (.bool r) ∧ Drawn0 w w' := by
 have H : (if a0 ≥ 48 then (if a0 ≤ 57 then (some true) else (if a0 ≥ 65 then (if a0 ≤ 90 then (some true) else (if a0 ≥ 97 then (if a0 ≤ 122 then (some true) else (if a0 = 32 then (some true) else (if a0 = 42 then (some true) else (if a0 = 44 then (some true) else (if a0 = 45 then (some true) else (if a0 = 46 then (some true) else (if a0 = 59 then (some true) else (some (a0 == 61))))))))) else (if a0 = 32 then (some true) else (if a0 = 42 then (some true) else (if a0 = 44 then (some true) else (if a0 = 45 then (some true) else (if a0 = 46 then (some true) else (if a0 = 59 then (some true) else (some (a0 == 61)))))))))) else (if a0 ≥ 97 then (if a0 ≤ 122 then (some true) else (if a0 = 32 then (some true) else (if a0 = 42 then (some true) else (if a0 = 44 then (some true) else (if a0 = 45 then (some true) else (if a0 = 46 then (some true) else (if a0 = 59 then (some true) else (some (a0 == 61))))))))) else (if a0 = 32 then (some true) else (if a0 = 42 then (some true) else (if a0 = 44 then (some true) else (if a0 = 45 then (some true) else (if a0 = 46 then (some true) else (if a0 = 59 then (some true) else (some (a0 == 61))))))))))) else (if a0 ≥ 65 then (if a0 ≤ 90 then (some true) else (if a0 ≥ 97 then (if a0 ≤ 122 then (some true) else (if a0 = 32 then (some true) else (if a0 = 42 then (some true) else (if a0 = 44 then (some true) else (if a0 = 45 then (some true) else (if a0 = 46 then (some true) else (if a0 = 59 then (some true) else (some (a0 == 61))))))))) else (if a0 = 32 then (some true) else (if a0 = 42 then (some true) else (if a0 = 44 then (some true) else (if a0 = 45 then (some true) else (if a0 = 46 then (some true) else (if a0 = 59 then (some true) else (some (a0 == 61)))))))))) else (if a0 ≥ 97 then (if a0 ≤ 122 then (some true) else (if a0 = 32 then (some true) else (if a0 = 42 then (some true) else (if a0 = 44 then (some true) else (if a0 = 45 then (some true) else (if a0 = 46 then (some true) else (if a0 = 59 then (some true) else (some (a0 == 61))))))))) else (if a0 = 32 then (some true) else (if a0 = 42 then (some true) else (if a0 = 44 then (some true) else (if a0 = 45 then (some true) else (if a0 = 46 then (some true) else (if a0 = 59 then (some true) else (some (a0 == 61))))))))))) = some r := h
 clear h
 by_cases c2 : a0 ≥ 48
 ·rw [if_pos c2] at H
  have c2b0 : decide (48 ≤ a0) = true := decide_eq_true c2
  clear c2
  by_cases c3 : a0 ≤ 57
  ·rw [if_pos c3] at H
   have c3b0 : decide (a0 ≤ 57) = true := decide_eq_true c3
   clear c3
   obtain rfl := Option.some.inj H
   go_enter Tryd.func72, Tryd.ntmps72
   go_wp2
   go_ret
   exact ⟨z15_, z17_⟩
  ·rw [if_neg c3] at H
   have c3b0 : decide (a0 ≤ 57) = false := decide_eq_false c3
   clear c3
   by_cases c4 : a0 ≥ 65
   ·rw [if_pos c4] at H
    have c4b0 : decide (65 ≤ a0) = true := decide_eq_true c4
    clear c4
    by_cases c5 : a0 ≤ 90
    ·rw [if_pos c5] at H
     have c5b0 : decide (a0 ≤ 90) = true := decide_eq_true c5
     clear c5
     obtain rfl := Option.some.inj H
     go_enter Tryd.func72, Tryd.ntmps72
     go_wp2
     go_ret
     exact ⟨z15_, z17_⟩
    ·rw [if_neg c5] at H
     have c5b0 : decide (a0 ≤ 90) = false := decide_eq_false c5
     clear c5
     by_cases c6 : a0 ≥ 97
     ·rw [if_pos c6] at H
      have c6b0 : decide (97 ≤ a0) = true := decide_eq_true c6
      clear c6
      by_cases c7 : a0 ≤ 122
      ·rw [if_pos c7] at H
       have c7b0 : decide (a0 ≤ 122) = true := decide_eq_true c7
       clear c7
       obtain rfl := Option.some.inj H
       go_enter Tryd.func72, Tryd.ntmps72
       go_wp2
       go_ret
       exact ⟨z15_, z17_⟩
      ·rw [if_neg c7] at H
       have c7b0 : decide (a0 ≤ 122) = false := decide_eq_false c7
       clear c7
       by_cases c8 : a0 = 32
       ·rw [if_pos c8] at H
        have c8b0 : (a0 == 32) = true := beq_iff_eq.mpr c8
        have c8b1 : (a0 != 32) = false := bne_eq_false_iff_eq.mpr c8
        clear c8
        obtain rfl := Option.some.inj H
        go_enter Tryd.func72, Tryd.ntmps72
        go_wp2
        go_ret
        exact ⟨z15_, z17_⟩
       ·rw [if_neg c8] at H
        have c8b0 : (a0 == 32) = false := beq_eq_false_iff_ne.mpr c8
        have c8b1 : (a0 != 32) = true := bne_iff_ne.mpr c8
        by_cases c9 : a0 = 42
        ·rw [if_pos c9] at H
         have c9b0 : (a0 == 42) = true := beq_iff_eq.mpr c9
         have c9b1 : (a0 != 42) = false := bne_eq_false_iff_eq.mpr c9
         clear c9
         obtain rfl := Option.some.inj H
         go_enter Tryd.func72, Tryd.ntmps72
         go_wp2
         go_ret
         exact ⟨z15_, z17_⟩
        ·rw [if_neg c9] at H
         have c9b0 : (a0 == 42) = false := beq_eq_false_iff_ne.mpr c9
         have c9b1 : (a0 != 42) = true := bne_iff_ne.mpr c9
         by_cases c10 : a0 = 44
         ·rw [if_pos c10] at H
          have c10b0 : (a0 == 44) = true := beq_iff_eq.mpr c10
          have c10b1 : (a0 != 44) = false := bne_eq_false_iff_eq.mpr c10
          clear c10
          obtain rfl := Option.some.inj H
          go_enter Tryd.func72, Tryd.ntmps72
          go_wp2
          go_ret
          exact ⟨z15_, z17_⟩
         ·rw [if_neg c10] at H
          have c10b0 : (a0 == 44) = false := beq_eq_false_iff_ne.mpr c10
          have c10b1 : (a0 != 44) = true := bne_iff_ne.mpr c10
          by_cases c11 : a0 = 45
          ·rw [if_pos c11] at H
           have c11b0 : (a0 == 45) = true := beq_iff_eq.mpr c11
           have c11b1 : (a0 != 45) = false := bne_eq_false_iff_eq.mpr c11
           clear c11
           obtain rfl := Option.some.inj H
           go_enter Tryd.func72, Tryd.ntmps72
           go_wp2
           go_ret
           exact ⟨z15_, z17_⟩
          ·rw [if_neg c11] at H
           have c11b0 : (a0 == 45) = false := beq_eq_false_iff_ne.mpr c11
           have c11b1 : (a0 != 45) = true := bne_iff_ne.mpr c11
           by_cases c12 : a0 = 46
           ·rw [if_pos c12] at H
            have c12b0 : (a0 == 46) = true := beq_iff_eq.mpr c12
            have c12b1 : (a0 != 46) = false := bne_eq_false_iff_eq.mpr c12
            clear c12
            obtain rfl := Option.some.inj H
            go_enter Tryd.func72, Tryd.ntmps72
            go_wp2
            go_ret
            exact ⟨z15_, z17_⟩
           ·rw [if_neg c12] at H
            have c12b0 : (a0 == 46) = false := beq_eq_false_iff_ne.mpr c12
            have c12b1 : (a0 != 46) = true := bne_iff_ne.mpr c12
            by_cases c13 : a0 = 59
            ·rw [if_pos c13] at H
             have c13b0 : (a0 == 59) = true := beq_iff_eq.mpr c13
             have c13b1 : (a0 != 59) = false := bne_eq_false_iff_eq.mpr c13
             clear c13
             obtain rfl := Option.some.inj H
             go_enter Tryd.func72, Tryd.ntmps72
             go_wp2
             go_ret
             exact ⟨z15_, z17_⟩
            ·rw [if_neg c13] at H
             have c13b0 : (a0 == 59) = false := beq_eq_false_iff_ne.mpr c13
             have c13b1 : (a0 != 59) = true := bne_iff_ne.mpr c13
             obtain rfl := Option.some.inj H
             go_enter Tryd.func72, Tryd.ntmps72
             go_wp2
             go_ret
             exact ⟨z15_, z17_⟩
     ·rw [if_neg c6] at H
      have c6b0 : decide (97 ≤ a0) = false := decide_eq_false c6
      clear c6
      by_cases c14 : a0 = 32
      ·rw [if_pos c14] at H
       have c14b0 : (a0 == 32) = true := beq_iff_eq.mpr c14
       have c14b1 : (a0 != 32) = false := bne_eq_false_iff_eq.mpr c14
       clear c14
       obtain rfl := Option.some.inj H
       go_enter Tryd.func72, Tryd.ntmps72
       go_wp2
       go_ret
       exact ⟨z15_, z17_⟩
      ·rw [if_neg c14] at H
       have c14b0 : (a0 == 32) = false := beq_eq_false_iff_ne.mpr c14
       have c14b1 : (a0 != 32) = true := bne_iff_ne.mpr c14
       by_cases c15 : a0 = 42
       ·rw [if_pos c15] at H
        have c15b0 : (a0 == 42) = true := beq_iff_eq.mpr c15
        have c15b1 : (a0 != 42) = false := bne_eq_false_iff_eq.mpr c15
        clear c15
        obtain rfl := Option.some.inj H
        go_enter Tryd.func72, Tryd.ntmps72
        go_wp2
        go_ret
        exact ⟨z15_, z17_⟩
       ·rw [if_neg c15] at H
        have c15b0 : (a0 == 42) = false := beq_eq_false_iff_ne.mpr c15
        have c15b1 : (a0 != 42) = true := bne_iff_ne.mpr c15
        by_cases c16 : a0 = 44
        ·rw [if_pos c16] at H
         have c16b0 : (a0 == 44) = true := beq_iff_eq.mpr c16
         have c16b1 : (a0 != 44) = false := bne_eq_false_iff_eq.mpr c16
         clear c16
         obtain rfl := Option.some.inj H
         go_enter Tryd.func72, Tryd.ntmps72
         go_wp2
         go_ret
         exact ⟨z15_, z17_⟩
        ·rw [if_neg c16] at H
         have c16b0 : (a0 == 44) = false := beq_eq_false_iff_ne.mpr c16
         have c16b1 : (a0 != 44) = true := bne_iff_ne.mpr c16
         by_cases c17 : a0 = 45
         ·rw [if_pos c17] at H
          have c17b0 : (a0 == 45) = true := beq_iff_eq.mpr c17
          have c17b1 : (a0 != 45) = false := bne_eq_false_iff_eq.mpr c17
          clear c17
          obtain rfl := Option.some.inj H
          go_enter Tryd.func72, Tryd.ntmps72
          go_wp2
          go_ret
          exact ⟨z15_, z17_⟩
         ·rw [if_neg c17] at H
          have c17b0 : (a0 == 45) = false := beq_eq_false_iff_ne.mpr c17
          have c17b1 : (a0 != 45) = true := bne_iff_ne.mpr c17
          by_cases c18 : a0 = 46
          ·rw [if_pos c18] at H
           have c18b0 : (a0 == 46) = true := beq_iff_eq.mpr c18
           have c18b1 : (a0 != 46) = false := bne_eq_false_iff_eq.mpr c18
           clear c18
           obtain rfl := Option.some.inj H
           go_enter Tryd.func72, Tryd.ntmps72
           go_wp2
           go_ret
           exact ⟨z15_, z17_⟩
          ·rw [if_neg c18] at H
           have c18b0 : (a0 == 46) = false := beq_eq_false_iff_ne.mpr c18
           have c18b1 : (a0 != 46) = true := bne_iff_ne.mpr c18
           by_cases c19 : a0 = 59
           ·rw [if_pos c19] at H
            have c19b0 : (a0 == 59) = true := beq_iff_eq.mpr c19
            have c19b1 : (a0 != 59) = false := bne_eq_false_iff_eq.mpr c19
            clear c19
            obtain rfl := Option.some.inj H
            go_enter Tryd.func72, Tryd.ntmps72
            go_wp2
            go_ret
            exact ⟨z15_, z17_⟩
           ·rw [if_neg c19] at H
            have c19b0 : (a0 == 59) = false := beq_eq_false_iff_ne.mpr c19
            have c19b1 : (a0 != 59) = true := bne_iff_ne.mpr c19
            obtain rfl := Option.some.inj H
            go_enter Tryd.func72, Tryd.ntmps72
            go_wp2
            go_ret
            exact ⟨z15_, z17_⟩
   ·rw [if_neg c4] at H
    have c4b0 : decide (65 ≤ a0) = false := decide_eq_false c4
    clear c4
    by_cases c20 : a0 ≥ 97
    ·rw [if_pos c20] at H
     have c20b0 : decide (97 ≤ a0) = true := decide_eq_true c20
     clear c20
     by_cases c21 : a0 ≤ 122
     ·rw [if_pos c21] at H
      have c21b0 : decide (a0 ≤ 122) = true := decide_eq_true c21
      clear c21
      obtain rfl := Option.some.inj H
      go_enter Tryd.func72, Tryd.ntmps72
      go_wp2
      go_ret
      exact ⟨z15_, z17_⟩
     ·rw [if_neg c21] at H
      have c21b0 : decide (a0 ≤ 122) = false := decide_eq_false c21
      clear c21
      by_cases c22 : a0 = 32
      ·rw [if_pos c22] at H
       have c22b0 : (a0 == 32) = true := beq_iff_eq.mpr c22
       have c22b1 : (a0 != 32) = false := bne_eq_false_iff_eq.mpr c22
       clear c22
       obtain rfl := Option.some.inj H
       go_enter Tryd.func72, Tryd.ntmps72
       go_wp2
       go_ret
       exact ⟨z15_, z17_⟩
      ·rw [if_neg c22] at H
       have c22b0 : (a0 == 32) = false := beq_eq_false_iff_ne.mpr c22
       have c22b1 : (a0 != 32) = true := bne_iff_ne.mpr c22
       by_cases c23 : a0 = 42
       ·rw [if_pos c23] at H
        have c23b0 : (a0 == 42) = true := beq_iff_eq.mpr c23
        have c23b1 : (a0 != 42) = false := bne_eq_false_iff_eq.mpr c23
        clear c23
        obtain rfl := Option.some.inj H
        go_enter Tryd.func72, Tryd.ntmps72
        go_wp2
        go_ret
        exact ⟨z15_, z17_⟩
       ·rw [if_neg c23] at H
        have c23b0 : (a0 == 42) = false := beq_eq_false_iff_ne.mpr c23
        have c23b1 : (a0 != 42) = true := bne_iff_ne.mpr c23
        by_cases c24 : a0 = 44
        ·rw [if_pos c24] at H
         have c24b0 : (a0 == 44) = true := beq_iff_eq.mpr c24
         have c24b1 : (a0 != 44) = false := bne_eq_false_iff_eq.mpr c24
         clear c24
         obtain rfl := Option.some.inj H
         go_enter Tryd.func72, Tryd.ntmps72
         go_wp2
         go_ret
         exact ⟨z15_, z17_⟩
        ·rw [if_neg c24] at H
         have c24b0 : (a0 == 44) = false := beq_eq_false_iff_ne.mpr c24
         have c24b1 : (a0 != 44) = true := bne_iff_ne.mpr c24
         by_cases c25 : a0 = 45
         ·rw [if_pos c25] at H
          have c25b0 : (a0 == 45) = true := beq_iff_eq.mpr c25
          have c25b1 : (a0 != 45) = false := bne_eq_false_iff_eq.mpr c25
          clear c25
          obtain rfl := Option.some.inj H
          go_enter Tryd.func72, Tryd.ntmps72
          go_wp2
          go_ret
          exact ⟨z15_, z17_⟩
         ·rw [if_neg c25] at H
          have c25b0 : (a0 == 45) = false := beq_eq_false_iff_ne.mpr c25
          have c25b1 : (a0 != 45) = true := bne_iff_ne.mpr c25
          by_cases c26 : a0 = 46
          ·rw [if_pos c26] at H
           have c26b0 : (a0 == 46) = true := beq_iff_eq.mpr c26
           have c26b1 : (a0 != 46) = false := bne_eq_false_iff_eq.mpr c26
           clear c26
           obtain rfl := Option.some.inj H
           go_enter Tryd.func72, Tryd.ntmps72
           go_wp2
           go_ret
           exact ⟨z15_, z17_⟩
          ·rw [if_neg c26] at H
           have c26b0 : (a0 == 46) = false := beq_eq_false_iff_ne.mpr c26
           have c26b1 : (a0 != 46) = true := bne_iff_ne.mpr c26
           by_cases c27 : a0 = 59
           ·rw [if_pos c27] at H
            have c27b0 : (a0 == 59) = true := beq_iff_eq.mpr c27
            have c27b1 : (a0 != 59) = false := bne_eq_false_iff_eq.mpr c27
            clear c27
            obtain rfl := Option.some.inj H
            go_enter Tryd.func72, Tryd.ntmps72
            go_wp2
            go_ret
            exact ⟨z15_, z17_⟩
           ·rw [if_neg c27] at H
            have c27b0 : (a0 == 59) = false := beq_eq_false_iff_ne.mpr c27
            have c27b1 : (a0 != 59) = true := bne_iff_ne.mpr c27
            obtain rfl := Option.some.inj H
            go_enter Tryd.func72, Tryd.ntmps72
            go_wp2
            go_ret
            exact ⟨z15_, z17_⟩
    ·rw [if_neg c20] at H
     have c20b0 : decide (97 ≤ a0) = false := decide_eq_false c20
     clear c20
     by_cases c28 : a0 = 32
     ·rw [if_pos c28] at H
      have c28b0 : (a0 == 32) = true := beq_iff_eq.mpr c28
      have c28b1 : (a0 != 32) = false := bne_eq_false_iff_eq.mpr c28
      clear c28
      obtain rfl := Option.some.inj H
      go_enter Tryd.func72, Tryd.ntmps72
      go_wp2
      go_ret
      exact ⟨z15_, z17_⟩
     ·rw [if_neg c28] at H
      have c28b0 : (a0 == 32) = false := beq_eq_false_iff_ne.mpr c28
      have c28b1 : (a0 != 32) = true := bne_iff_ne.mpr c28
      by_cases c29 : a0 = 42
      ·rw [if_pos c29] at H
       have c29b0 : (a0 == 42) = true := beq_iff_eq.mpr c29
       have c29b1 : (a0 != 42) = false := bne_eq_false_iff_eq.mpr c29
       clear c29
       obtain rfl := Option.some.inj H
       go_enter Tryd.func72, Tryd.ntmps72
       go_wp2
       go_ret
       exact ⟨z15_, z17_⟩
      ·rw [if_neg c29] at H
       have c29b0 : (a0 == 42) = false := beq_eq_false_iff_ne.mpr c29
       have c29b1 : (a0 != 42) = true := bne_iff_ne.mpr c29
       by_cases c30 : a0 = 44
       ·rw [if_pos c30] at H
        have c30b0 : (a0 == 44) = true := beq_iff_eq.mpr c30
        have c30b1 : (a0 != 44) = false := bne_eq_false_iff_eq.mpr c30
        clear c30
        obtain rfl := Option.some.inj H
        go_enter Tryd.func72, Tryd.ntmps72
        go_wp2
        go_ret
        exact ⟨z15_, z17_⟩
       ·rw [if_neg c30] at H
        have c30b0 : (a0 == 44) = false := beq_eq_false_iff_ne.mpr c30
        have c30b1 : (a0 != 44) = true := bne_iff_ne.mpr c30
        by_cases c31 : a0 = 45
        ·rw [if_pos c31] at H
         have c31b0 : (a0 == 45) = true := beq_iff_eq.mpr c31
         have c31b1 : (a0 != 45) = false := bne_eq_false_iff_eq.mpr c31
         clear c31
         obtain rfl := Option.some.inj H
         go_enter Tryd.func72, Tryd.ntmps72
         go_wp2
         go_ret
         exact ⟨z15_, z17_⟩
        ·rw [if_neg c31] at H
         have c31b0 : (a0 == 45) = false := beq_eq_false_iff_ne.mpr c31
         have c31b1 : (a0 != 45) = true := bne_iff_ne.mpr c31
         by_cases c32 : a0 = 46
         ·rw [if_pos c32] at H
          have c32b0 : (a0 == 46) = true := beq_iff_eq.mpr c32
          have c32b1 : (a0 != 46) = false := bne_eq_false_iff_eq.mpr c32
          clear c32
          obtain rfl := Option.some.inj H
          go_enter Tryd.func72, Tryd.ntmps72
          go_wp2
          go_ret
          exact ⟨z15_, z17_⟩
         ·rw [if_neg c32] at H
          have c32b0 : (a0 == 46) = false := beq_eq_false_iff_ne.mpr c32
          have c32b1 : (a0 != 46) = true := bne_iff_ne.mpr c32
          by_cases c33 : a0 = 59
          ·rw [if_pos c33] at H
           have c33b0 : (a0 == 59) = true := beq_iff_eq.mpr c33
           have c33b1 : (a0 != 59) = false := bne_eq_false_iff_eq.mpr c33
           clear c33
           obtain rfl := Option.some.inj H
           go_enter Tryd.func72, Tryd.ntmps72
           go_wp2
           go_ret
           exact ⟨z15_, z17_⟩
          ·rw [if_neg c33] at H
           have c33b0 : (a0 == 59) = false := beq_eq_false_iff_ne.mpr c33
           have c33b1 : (a0 != 59) = true := bne_iff_ne.mpr c33
           obtain rfl := Option.some.inj H
           go_enter Tryd.func72, Tryd.ntmps72
           go_wp2
           go_ret
           exact ⟨z15_, z17_⟩
 ·rw [if_neg c2] at H
  have c2b0 : decide (48 ≤ a0) = false := decide_eq_false c2
  clear c2
  by_cases c34 : a0 ≥ 65
  ·rw [if_pos c34] at H
   have c34b0 : decide (65 ≤ a0) = true := decide_eq_true c34
   clear c34
   by_cases c35 : a0 ≤ 90
   ·rw [if_pos c35] at H
    have c35b0 : decide (a0 ≤ 90) = true := decide_eq_true c35
    clear c35
    obtain rfl := Option.some.inj H
    go_enter Tryd.func72, Tryd.ntmps72
    go_wp2
    go_ret
    exact ⟨z15_, z17_⟩
   ·rw [if_neg c35] at H
    have c35b0 : decide (a0 ≤ 90) = false := decide_eq_false c35
    clear c35
    by_cases c36 : a0 ≥ 97
    ·rw [if_pos c36] at H
     have c36b0 : decide (97 ≤ a0) = true := decide_eq_true c36
     clear c36
     by_cases c37 : a0 ≤ 122
     ·rw [if_pos c37] at H
      have c37b0 : decide (a0 ≤ 122) = true := decide_eq_true c37
      clear c37
      obtain rfl := Option.some.inj H
      go_enter Tryd.func72, Tryd.ntmps72
      go_wp2
      go_ret
      exact ⟨z15_, z17_⟩
     ·rw [if_neg c37] at H
      have c37b0 : decide (a0 ≤ 122) = false := decide_eq_false c37
      clear c37
      by_cases c38 : a0 = 32
      ·rw [if_pos c38] at H
       have c38b0 : (a0 == 32) = true := beq_iff_eq.mpr c38
       have c38b1 : (a0 != 32) = false := bne_eq_false_iff_eq.mpr c38
       clear c38
       obtain rfl := Option.some.inj H
       go_enter Tryd.func72, Tryd.ntmps72
       go_wp2
       go_ret
       exact ⟨z15_, z17_⟩
      ·rw [if_neg c38] at H
       have c38b0 : (a0 == 32) = false := beq_eq_false_iff_ne.mpr c38
       have c38b1 : (a0 != 32) = true := bne_iff_ne.mpr c38
       by_cases c39 : a0 = 42
       ·rw [if_pos c39] at H
        have c39b0 : (a0 == 42) = true := beq_iff_eq.mpr c39
        have c39b1 : (a0 != 42) = false := bne_eq_false_iff_eq.mpr c39
        clear c39
        obtain rfl := Option.some.inj H
        go_enter Tryd.func72, Tryd.ntmps72
        go_wp2
        go_ret
        exact ⟨z15_, z17_⟩
       ·rw [if_neg c39] at H
        have c39b0 : (a0 == 42) = false := beq_eq_false_iff_ne.mpr c39
        have c39b1 : (a0 != 42) = true := bne_iff_ne.mpr c39
        by_cases c40 : a0 = 44
        ·rw [if_pos c40] at H
         have c40b0 : (a0 == 44) = true := beq_iff_eq.mpr c40
         have c40b1 : (a0 != 44) = false := bne_eq_false_iff_eq.mpr c40
         clear c40
         obtain rfl := Option.some.inj H
         go_enter Tryd.func72, Tryd.ntmps72
         go_wp2
         go_ret
         exact ⟨z15_, z17_⟩
        ·rw [if_neg c40] at H
         have c40b0 : (a0 == 44) = false := beq_eq_false_iff_ne.mpr c40
         have c40b1 : (a0 != 44) = true := bne_iff_ne.mpr c40
         by_cases c41 : a0 = 45
         ·rw [if_pos c41] at H
          have c41b0 : (a0 == 45) = true := beq_iff_eq.mpr c41
          have c41b1 : (a0 != 45) = false := bne_eq_false_iff_eq.mpr c41
          clear c41
          obtain rfl := Option.some.inj H
          go_enter Tryd.func72, Tryd.ntmps72
          go_wp2
          go_ret
          exact ⟨z15_, z17_⟩
         ·rw [if_neg c41] at H
          have c41b0 : (a0 == 45) = false := beq_eq_false_iff_ne.mpr c41
          have c41b1 : (a0 != 45) = true := bne_iff_ne.mpr c41
          by_cases c42 : a0 = 46
          ·rw [if_pos c42] at H
           have c42b0 : (a0 == 46) = true := beq_iff_eq.mpr c42
           have c42b1 : (a0 != 46) = false := bne_eq_false_iff_eq.mpr c42
           clear c42
           obtain rfl := Option.some.inj H
           go_enter Tryd.func72, Tryd.ntmps72
           go_wp2
           go_ret
           exact ⟨z15_, z17_⟩
          ·rw [if_neg c42] at H
           have c42b0 : (a0 == 46) = false := beq_eq_false_iff_ne.mpr c42
           have c42b1 : (a0 != 46) = true := bne_iff_ne.mpr c42
           by_cases c43 : a0 = 59
           ·rw [if_pos c43] at H
            have c43b0 : (a0 == 59) = true := beq_iff_eq.mpr c43
            have c43b1 : (a0 != 59) = false := bne_eq_false_iff_eq.mpr c43
            clear c43
            obtain rfl := Option.some.inj H
            go_enter Tryd.func72, Tryd.ntmps72
            go_wp2
            go_ret
            exact ⟨z15_, z17_⟩
           ·rw [if_neg c43] at H
            have c43b0 : (a0 == 59) = false := beq_eq_false_iff_ne.mpr c43
            have c43b1 : (a0 != 59) = true := bne_iff_ne.mpr c43
            obtain rfl := Option.some.inj H
            go_enter Tryd.func72, Tryd.ntmps72
            go_wp2
            go_ret
            exact ⟨z15_, z17_⟩
    ·rw [if_neg c36] at H
     have c36b0 : decide (97 ≤ a0) = false := decide_eq_false c36
     clear c36
     by_cases c44 : a0 = 32
     ·rw [if_pos c44] at H
      have c44b0 : (a0 == 32) = true := beq_iff_eq.mpr c44
      have c44b1 : (a0 != 32) = false := bne_eq_false_iff_eq.mpr c44
      clear c44
      obtain rfl := Option.some.inj H
      go_enter Tryd.func72, Tryd.ntmps72
      go_wp2
      go_ret
      exact ⟨z15_, z17_⟩
     ·rw [if_neg c44] at H
      have c44b0 : (a0 == 32) = false := beq_eq_false_iff_ne.mpr c44
      have c44b1 : (a0 != 32) = true := bne_iff_ne.mpr c44
      by_cases c45 : a0 = 42
      ·rw [if_pos c45] at H
       have c45b0 : (a0 == 42) = true := beq_iff_eq.mpr c45
       have c45b1 : (a0 != 42) = false := bne_eq_false_iff_eq.mpr c45
       clear c45
       obtain rfl := Option.some.inj H
       go_enter Tryd.func72, Tryd.ntmps72
       go_wp2
       go_ret
       exact ⟨z15_, z17_⟩
      ·rw [if_neg c45] at H
       have c45b0 : (a0 == 42) = false := beq_eq_false_iff_ne.mpr c45
       have c45b1 : (a0 != 42) = true := bne_iff_ne.mpr c45
       by_cases c46 : a0 = 44
       ·rw [if_pos c46] at H
        have c46b0 : (a0 == 44) = true := beq_iff_eq.mpr c46
        have c46b1 : (a0 != 44) = false := bne_eq_false_iff_eq.mpr c46
        clear c46
        obtain rfl := Option.some.inj H
        go_enter Tryd.func72, Tryd.ntmps72
        go_wp2
        go_ret
        exact ⟨z15_, z17_⟩
       ·rw [if_neg c46] at H
        have c46b0 : (a0 == 44) = false := beq_eq_false_iff_ne.mpr c46
        have c46b1 : (a0 != 44) = true := bne_iff_ne.mpr c46
        by_cases c47 : a0 = 45
        ·rw [if_pos c47] at H
         have c47b0 : (a0 == 45) = true := beq_iff_eq.mpr c47
         have c47b1 : (a0 != 45) = false := bne_eq_false_iff_eq.mpr c47
         clear c47
         obtain rfl := Option.some.inj H
         go_enter Tryd.func72, Tryd.ntmps72
         go_wp2
         go_ret
         exact ⟨z15_, z17_⟩
        ·rw [if_neg c47] at H
         have c47b0 : (a0 == 45) = false := beq_eq_false_iff_ne.mpr c47
         have c47b1 : (a0 != 45) = true := bne_iff_ne.mpr c47
         by_cases c48 : a0 = 46
         ·rw [if_pos c48] at H
          have c48b0 : (a0 == 46) = true := beq_iff_eq.mpr c48
          have c48b1 : (a0 != 46) = false := bne_eq_false_iff_eq.mpr c48
          clear c48
          obtain rfl := Option.some.inj H
          go_enter Tryd.func72, Tryd.ntmps72
          go_wp2
          go_ret
          exact ⟨z15_, z17_⟩
         ·rw [if_neg c48] at H
          have c48b0 : (a0 == 46) = false := beq_eq_false_iff_ne.mpr c48
          have c48b1 : (a0 != 46) = true := bne_iff_ne.mpr c48
          by_cases c49 : a0 = 59
          ·rw [if_pos c49] at H
           have c49b0 : (a0 == 59) = true := beq_iff_eq.mpr c49
           have c49b1 : (a0 != 59) = false := bne_eq_false_iff_eq.mpr c49
           clear c49
           obtain rfl := Option.some.inj H
           go_enter Tryd.func72, Tryd.ntmps72
           go_wp2
           go_ret
           exact ⟨z15_, z17_⟩
          ·rw [if_neg c49] at H
           have c49b0 : (a0 == 59) = false := beq_eq_false_iff_ne.mpr c49
           have c49b1 : (a0 != 59) = true := bne_iff_ne.mpr c49
           obtain rfl := Option.some.inj H
           go_enter Tryd.func72, Tryd.ntmps72
           go_wp2
           go_ret
           exact ⟨z15_, z17_⟩
  ·rw [if_neg c34] at H
   have c34b0 : decide (65 ≤ a0) = false := decide_eq_false c34
   clear c34
   by_cases c50 : a0 ≥ 97
   ·rw [if_pos c50] at H
    have c50b0 : decide (97 ≤ a0) = true := decide_eq_true c50
    clear c50
    by_cases c51 : a0 ≤ 122
    ·rw [if_pos c51] at H
     have c51b0 : decide (a0 ≤ 122) = true := decide_eq_true c51
     clear c51
     obtain rfl := Option.some.inj H
     go_enter Tryd.func72, Tryd.ntmps72
     go_wp2
     go_ret
     exact ⟨z15_, z17_⟩
    ·rw [if_neg c51] at H
     have c51b0 : decide (a0 ≤ 122) = false := decide_eq_false c51
     clear c51
     by_cases c52 : a0 = 32
     ·rw [if_pos c52] at H
      have c52b0 : (a0 == 32) = true := beq_iff_eq.mpr c52
      have c52b1 : (a0 != 32) = false := bne_eq_false_iff_eq.mpr c52
      clear c52
      obtain rfl := Option.some.inj H
      go_enter Tryd.func72, Tryd.ntmps72
      go_wp2
      go_ret
      exact ⟨z15_, z17_⟩
     ·rw [if_neg c52] at H
      have c52b0 : (a0 == 32) = false := beq_eq_false_iff_ne.mpr c52
      have c52b1 : (a0 != 32) = true := bne_iff_ne.mpr c52
      by_cases c53 : a0 = 42
      ·rw [if_pos c53] at H
       have c53b0 : (a0 == 42) = true := beq_iff_eq.mpr c53
       have c53b1 : (a0 != 42) = false := bne_eq_false_iff_eq.mpr c53
       clear c53
       obtain rfl := Option.some.inj H
       go_enter Tryd.func72, Tryd.ntmps72
       go_wp2
       go_ret
       exact ⟨z15_, z17_⟩
      ·rw [if_neg c53] at H
       have c53b0 : (a0 == 42) = false := beq_eq_false_iff_ne.mpr c53
       have c53b1 : (a0 != 42) = true := bne_iff_ne.mpr c53
       by_cases c54 : a0 = 44
       ·rw [if_pos c54] at H
        have c54b0 : (a0 == 44) = true := beq_iff_eq.mpr c54
        have c54b1 : (a0 != 44) = false := bne_eq_false_iff_eq.mpr c54
        clear c54
        obtain rfl := Option.some.inj H
        go_enter Tryd.func72, Tryd.ntmps72
        go_wp2
        go_ret
        exact ⟨z15_, z17_⟩
       ·rw [if_neg c54] at H
        have c54b0 : (a0 == 44) = false := beq_eq_false_iff_ne.mpr c54
        have c54b1 : (a0 != 44) = true := bne_iff_ne.mpr c54
        by_cases c55 : a0 = 45
        ·rw [if_pos c55] at H
         have c55b0 : (a0 == 45) = true := beq_iff_eq.mpr c55
         have c55b1 : (a0 != 45) = false := bne_eq_false_iff_eq.mpr c55
         clear c55
         obtain rfl := Option.some.inj H
         go_enter Tryd.func72, Tryd.ntmps72
         go_wp2
         go_ret
         exact ⟨z15_, z17_⟩
        ·rw [if_neg c55] at H
         have c55b0 : (a0 == 45) = false := beq_eq_false_iff_ne.mpr c55
         have c55b1 : (a0 != 45) = true := bne_iff_ne.mpr c55
         by_cases c56 : a0 = 46
         ·rw [if_pos c56] at H
          have c56b0 : (a0 == 46) = true := beq_iff_eq.mpr c56
          have c56b1 : (a0 != 46) = false := bne_eq_false_iff_eq.mpr c56
          clear c56
          obtain rfl := Option.some.inj H
          go_enter Tryd.func72, Tryd.ntmps72
          go_wp2
          go_ret
          exact ⟨z15_, z17_⟩
         ·rw [if_neg c56] at H
          have c56b0 : (a0 == 46) = false := beq_eq_false_iff_ne.mpr c56
          have c56b1 : (a0 != 46) = true := bne_iff_ne.mpr c56
          by_cases c57 : a0 = 59
          ·rw [if_pos c57] at H
           have c57b0 : (a0 == 59) = true := beq_iff_eq.mpr c57
           have c57b1 : (a0 != 59) = false := bne_eq_false_iff_eq.mpr c57
           clear c57
           obtain rfl := Option.some.inj H
           go_enter Tryd.func72, Tryd.ntmps72
           go_wp2
           go_ret
           exact ⟨z15_, z17_⟩
          ·rw [if_neg c57] at H
           have c57b0 : (a0 == 59) = false := beq_eq_false_iff_ne.mpr c57
           have c57b1 : (a0 != 59) = true := bne_iff_ne.mpr c57
           obtain rfl := Option.some.inj H
           go_enter Tryd.func72, Tryd.ntmps72
           go_wp2
           go_ret
           exact ⟨z15_, z17_⟩
   ·rw [if_neg c50] at H
    have c50b0 : decide (97 ≤ a0) = false := decide_eq_false c50
    clear c50
    by_cases c58 : a0 = 32
    ·rw [if_pos c58] at H
     have c58b0 : (a0 == 32) = true := beq_iff_eq.mpr c58
     have c58b1 : (a0 != 32) = false := bne_eq_false_iff_eq.mpr c58
     clear c58
     obtain rfl := Option.some.inj H
     go_enter Tryd.func72, Tryd.ntmps72
     go_wp2
     go_ret
     exact ⟨z15_, z17_⟩
    ·rw [if_neg c58] at H
     have c58b0 : (a0 == 32) = false := beq_eq_false_iff_ne.mpr c58
     have c58b1 : (a0 != 32) = true := bne_iff_ne.mpr c58
     by_cases c59 : a0 = 42
     ·rw [if_pos c59] at H
      have c59b0 : (a0 == 42) = true := beq_iff_eq.mpr c59
      have c59b1 : (a0 != 42) = false := bne_eq_false_iff_eq.mpr c59
      clear c59
      obtain rfl := Option.some.inj H
      go_enter Tryd.func72, Tryd.ntmps72
      go_wp2
      go_ret
      exact ⟨z15_, z17_⟩
     ·rw [if_neg c59] at H
      have c59b0 : (a0 == 42) = false := beq_eq_false_iff_ne.mpr c59
      have c59b1 : (a0 != 42) = true := bne_iff_ne.mpr c59
      by_cases c60 : a0 = 44
      ·rw [if_pos c60] at H
       have c60b0 : (a0 == 44) = true := beq_iff_eq.mpr c60
       have c60b1 : (a0 != 44) = false := bne_eq_false_iff_eq.mpr c60
       clear c60
       obtain rfl := Option.some.inj H
       go_enter Tryd.func72, Tryd.ntmps72
       go_wp2
       go_ret
       exact ⟨z15_, z17_⟩
      ·rw [if_neg c60] at H
       have c60b0 : (a0 == 44) = false := beq_eq_false_iff_ne.mpr c60
       have c60b1 : (a0 != 44) = true := bne_iff_ne.mpr c60
       by_cases c61 : a0 = 45
       ·rw [if_pos c61] at H
        have c61b0 : (a0 == 45) = true := beq_iff_eq.mpr c61
        have c61b1 : (a0 != 45) = false := bne_eq_false_iff_eq.mpr c61
        clear c61
        obtain rfl := Option.some.inj H
        go_enter Tryd.func72, Tryd.ntmps72
        go_wp2
        go_ret
        exact ⟨z15_, z17_⟩
       ·rw [if_neg c61] at H
        have c61b0 : (a0 == 45) = false := beq_eq_false_iff_ne.mpr c61
        have c61b1 : (a0 != 45) = true := bne_iff_ne.mpr c61
        by_cases c62 : a0 = 46
        ·rw [if_pos c62] at H
         have c62b0 : (a0 == 46) = true := beq_iff_eq.mpr c62
         have c62b1 : (a0 != 46) = false := bne_eq_false_iff_eq.mpr c62
         clear c62
         obtain rfl := Option.some.inj H
         go_enter Tryd.func72, Tryd.ntmps72
         go_wp2
         go_ret
         exact ⟨z15_, z17_⟩
        ·rw [if_neg c62] at H
         have c62b0 : (a0 == 46) = false := beq_eq_false_iff_ne.mpr c62
         have c62b1 : (a0 != 46) = true := bne_iff_ne.mpr c62
         by_cases c63 : a0 = 59
         ·rw [if_pos c63] at H
          have c63b0 : (a0 == 59) = true := beq_iff_eq.mpr c63
          have c63b1 : (a0 != 59) = false := bne_eq_false_iff_eq.mpr c63
          clear c63
          obtain rfl := Option.some.inj H
          go_enter Tryd.func72, Tryd.ntmps72
          go_wp2
          go_ret
          exact ⟨z15_, z17_⟩
         ·rw [if_neg c63] at H
          have c63b0 : (a0 == 59) = false := beq_eq_false_iff_ne.mpr c63
          have c63b1 : (a0 != 59) = true := bne_iff_ne.mpr c63
          obtain rfl := Option.some.inj H
          go_enter Tryd.func72, Tryd.ntmps72
          go_wp2
          go_ret
          exact ⟨z15_, z17_⟩

/-! ### pursuivantref10_unsafe: function 73 -/
def pursuivantref10_unsafe.f (a0 : Int) : Option (Bool) := if a0 < 32 then (some (a0 != 9)) else (if a0 = 34 then (some true) else (if a0 = 40 then (some true) else (if a0 = 41 then (some true) else (if a0 = 58 then (some true) else (if a0 = 60 then (some true) else (if a0 = 62 then (some true) else (if a0 = 63 then (some true) else (if a0 = 64 then (some true) else (if a0 = 91 then (some true) else (if a0 = 92 then (some true) else (if a0 = 93 then (some true) else (if a0 = 123 then (some true) else (if a0 = 125 then (some true) else (some (a0 == 127)))))))))))))))
set_option maxHeartbeats 8000000 in
set_option maxRecDepth 100000 in
theorem pursuivantref10_unsafe.calls (a0 : Int) (r : Bool) (w : World) (hG_ : GW w) (h : pursuivantref10_unsafe.f a0 = some r) :
  Calls Tryd.prog 73 #[.int .u8 a0] w fun e w' => e = .returned (.bool r) ∧ Drawn0 w w' := by
 have H : (if a0 < 32 then (some (a0 != 9)) else (if a0 = 34 then (some true) else (if a0 = 40 then (some true) else (if a0 = 41 then (some true) else (if a0 = 58 then (some true) else (if a0 = 60 then (some true) else (if a0 = 62 then (some true) else (if a0 = 63 then (some true) else (if a0 = 64 then (some true) else (if a0 = 91 then (some true) else (if a0 = 92 then (some true) else (if a0 = 93 then (some true) else (if a0 = 123 then (some true) else (if a0 = 125 then (some true) else (some (a0 == 127)))))))))))))))) = some r := h
 clear h
 by_cases c2 : a0 < 32
 ·rw [if_pos c2] at H
  have c2b0 : decide (a0 < 32) = true := decide_eq_true c2
  clear c2
  obtain rfl := Option.some.inj H
  go_enter Tryd.func73, Tryd.ntmps73
  go_wp2
  go_ret
  exact ⟨z15_, z17_⟩
 ·rw [if_neg c2] at H
  have c2b0 : decide (a0 < 32) = false := decide_eq_false c2
  clear c2
  by_cases c3 : a0 = 34
  ·rw [if_pos c3] at H
   have c3b0 : (a0 == 34) = true := beq_iff_eq.mpr c3
   have c3b1 : (a0 != 34) = false := bne_eq_false_iff_eq.mpr c3
   clear c3
   obtain rfl := Option.some.inj H
   go_enter Tryd.func73, Tryd.ntmps73
   go_wp2
   go_ret
   exact ⟨z15_, z17_⟩
  ·rw [if_neg c3] at H
   have c3b0 : (a0 == 34) = false := beq_eq_false_iff_ne.mpr c3
   have c3b1 : (a0 != 34) = true := bne_iff_ne.mpr c3
   by_cases c4 : a0 = 40
   ·rw [if_pos c4] at H
    have c4b0 : (a0 == 40) = true := beq_iff_eq.mpr c4
    have c4b1 : (a0 != 40) = false := bne_eq_false_iff_eq.mpr c4
    clear c4
    obtain rfl := Option.some.inj H
    go_enter Tryd.func73, Tryd.ntmps73
    go_wp2
    go_ret
    exact ⟨z15_, z17_⟩
   ·rw [if_neg c4] at H
    have c4b0 : (a0 == 40) = false := beq_eq_false_iff_ne.mpr c4
    have c4b1 : (a0 != 40) = true := bne_iff_ne.mpr c4
    by_cases c5 : a0 = 41
    ·rw [if_pos c5] at H
     have c5b0 : (a0 == 41) = true := beq_iff_eq.mpr c5
     have c5b1 : (a0 != 41) = false := bne_eq_false_iff_eq.mpr c5
     clear c5
     obtain rfl := Option.some.inj H
     go_enter Tryd.func73, Tryd.ntmps73
     go_wp2
     go_ret
     exact ⟨z15_, z17_⟩
    ·rw [if_neg c5] at H
     have c5b0 : (a0 == 41) = false := beq_eq_false_iff_ne.mpr c5
     have c5b1 : (a0 != 41) = true := bne_iff_ne.mpr c5
     by_cases c6 : a0 = 58
     ·rw [if_pos c6] at H
      have c6b0 : (a0 == 58) = true := beq_iff_eq.mpr c6
      have c6b1 : (a0 != 58) = false := bne_eq_false_iff_eq.mpr c6
      clear c6
      obtain rfl := Option.some.inj H
      go_enter Tryd.func73, Tryd.ntmps73
      go_wp2
      go_ret
      exact ⟨z15_, z17_⟩
     ·rw [if_neg c6] at H
      have c6b0 : (a0 == 58) = false := beq_eq_false_iff_ne.mpr c6
      have c6b1 : (a0 != 58) = true := bne_iff_ne.mpr c6
      by_cases c7 : a0 = 60
      ·rw [if_pos c7] at H
       have c7b0 : (a0 == 60) = true := beq_iff_eq.mpr c7
       have c7b1 : (a0 != 60) = false := bne_eq_false_iff_eq.mpr c7
       clear c7
       obtain rfl := Option.some.inj H
       go_enter Tryd.func73, Tryd.ntmps73
       go_wp2
       go_ret
       exact ⟨z15_, z17_⟩
      ·rw [if_neg c7] at H
       have c7b0 : (a0 == 60) = false := beq_eq_false_iff_ne.mpr c7
       have c7b1 : (a0 != 60) = true := bne_iff_ne.mpr c7
       by_cases c8 : a0 = 62
       ·rw [if_pos c8] at H
        have c8b0 : (a0 == 62) = true := beq_iff_eq.mpr c8
        have c8b1 : (a0 != 62) = false := bne_eq_false_iff_eq.mpr c8
        clear c8
        obtain rfl := Option.some.inj H
        go_enter Tryd.func73, Tryd.ntmps73
        go_wp2
        go_ret
        exact ⟨z15_, z17_⟩
       ·rw [if_neg c8] at H
        have c8b0 : (a0 == 62) = false := beq_eq_false_iff_ne.mpr c8
        have c8b1 : (a0 != 62) = true := bne_iff_ne.mpr c8
        by_cases c9 : a0 = 63
        ·rw [if_pos c9] at H
         have c9b0 : (a0 == 63) = true := beq_iff_eq.mpr c9
         have c9b1 : (a0 != 63) = false := bne_eq_false_iff_eq.mpr c9
         clear c9
         obtain rfl := Option.some.inj H
         go_enter Tryd.func73, Tryd.ntmps73
         go_wp2
         go_ret
         exact ⟨z15_, z17_⟩
        ·rw [if_neg c9] at H
         have c9b0 : (a0 == 63) = false := beq_eq_false_iff_ne.mpr c9
         have c9b1 : (a0 != 63) = true := bne_iff_ne.mpr c9
         by_cases c10 : a0 = 64
         ·rw [if_pos c10] at H
          have c10b0 : (a0 == 64) = true := beq_iff_eq.mpr c10
          have c10b1 : (a0 != 64) = false := bne_eq_false_iff_eq.mpr c10
          clear c10
          obtain rfl := Option.some.inj H
          go_enter Tryd.func73, Tryd.ntmps73
          go_wp2
          go_ret
          exact ⟨z15_, z17_⟩
         ·rw [if_neg c10] at H
          have c10b0 : (a0 == 64) = false := beq_eq_false_iff_ne.mpr c10
          have c10b1 : (a0 != 64) = true := bne_iff_ne.mpr c10
          by_cases c11 : a0 = 91
          ·rw [if_pos c11] at H
           have c11b0 : (a0 == 91) = true := beq_iff_eq.mpr c11
           have c11b1 : (a0 != 91) = false := bne_eq_false_iff_eq.mpr c11
           clear c11
           obtain rfl := Option.some.inj H
           go_enter Tryd.func73, Tryd.ntmps73
           go_wp2
           go_ret
           exact ⟨z15_, z17_⟩
          ·rw [if_neg c11] at H
           have c11b0 : (a0 == 91) = false := beq_eq_false_iff_ne.mpr c11
           have c11b1 : (a0 != 91) = true := bne_iff_ne.mpr c11
           by_cases c12 : a0 = 92
           ·rw [if_pos c12] at H
            have c12b0 : (a0 == 92) = true := beq_iff_eq.mpr c12
            have c12b1 : (a0 != 92) = false := bne_eq_false_iff_eq.mpr c12
            clear c12
            obtain rfl := Option.some.inj H
            go_enter Tryd.func73, Tryd.ntmps73
            go_wp2
            go_ret
            exact ⟨z15_, z17_⟩
           ·rw [if_neg c12] at H
            have c12b0 : (a0 == 92) = false := beq_eq_false_iff_ne.mpr c12
            have c12b1 : (a0 != 92) = true := bne_iff_ne.mpr c12
            by_cases c13 : a0 = 93
            ·rw [if_pos c13] at H
             have c13b0 : (a0 == 93) = true := beq_iff_eq.mpr c13
             have c13b1 : (a0 != 93) = false := bne_eq_false_iff_eq.mpr c13
             clear c13
             obtain rfl := Option.some.inj H
             go_enter Tryd.func73, Tryd.ntmps73
             go_wp2
             go_ret
             exact ⟨z15_, z17_⟩
            ·rw [if_neg c13] at H
             have c13b0 : (a0 == 93) = false := beq_eq_false_iff_ne.mpr c13
             have c13b1 : (a0 != 93) = true := bne_iff_ne.mpr c13
             by_cases c14 : a0 = 123
             ·rw [if_pos c14] at H
              have c14b0 : (a0 == 123) = true := beq_iff_eq.mpr c14
              have c14b1 : (a0 != 123) = false := bne_eq_false_iff_eq.mpr c14
              clear c14
              obtain rfl := Option.some.inj H
              go_enter Tryd.func73, Tryd.ntmps73
              go_wp2
              go_ret
              exact ⟨z15_, z17_⟩
             ·rw [if_neg c14] at H
              have c14b0 : (a0 == 123) = false := beq_eq_false_iff_ne.mpr c14
              have c14b1 : (a0 != 123) = true := bne_iff_ne.mpr c14
              by_cases c15 : a0 = 125
              ·rw [if_pos c15] at H
               have c15b0 : (a0 == 125) = true := beq_iff_eq.mpr c15
               have c15b1 : (a0 != 125) = false := bne_eq_false_iff_eq.mpr c15
               clear c15
               obtain rfl := Option.some.inj H
               go_enter Tryd.func73, Tryd.ntmps73
               go_wp2
               go_ret
               exact ⟨z15_, z17_⟩
              ·rw [if_neg c15] at H
               have c15b0 : (a0 == 125) = false := beq_eq_false_iff_ne.mpr c15
               have c15b1 : (a0 != 125) = true := bne_iff_ne.mpr c15
               obtain rfl := Option.some.inj H
               go_enter Tryd.func73, Tryd.ntmps73
               go_wp2
               go_ret
               exact ⟨z15_, z17_⟩

/-! ### pursuivantref04_Trim: function 74 -/
mutual
def pursuivantref04_Trim.j1 : Nat → ByteArray → Option (ByteArray)
 | 0, _ => none
 | k + 1, x0 => pursuivantref04_Trim.l1 k x0
def pursuivantref04_Trim.l1 : Nat → ByteArray → Option (ByteArray)
 | 0, _ => none
 | k + 1, x0 => if (x0.size : Int) > 0 then (if 0 ≤ (wrap64 ((x0.size : Int) - 1)) then (if (wrap64 ((x0.size : Int) - 1)) < (x0.size : Int) then (if (bt x0 (wrap64 ((x0.size : Int) - 1))) = 32 then (if (wrap64 ((x0.size : Int) - 1)) ≤ (x0.size : Int) then (pursuivantref04_Trim.l1 k (x0.extract 0 ((wrap64 ((x0.size : Int) - 1)) : Int).toNat)) else (none)) else (if (bt x0 (wrap64 ((x0.size : Int) - 1))) = 9 then (if (wrap64 ((x0.size : Int) - 1)) ≤ (x0.size : Int) then (pursuivantref04_Trim.l1 k (x0.extract 0 ((wrap64 ((x0.size : Int) - 1)) : Int).toNat)) else (none)) else (some x0))) else (none)) else (none)) else (some x0)
def pursuivantref04_Trim.l0 : Nat → ByteArray → Option (ByteArray)
 | 0, _ => none
 | k + 1, x0 => if (x0.size : Int) > 0 then (if 0 < (x0.size : Int) then (if (bt x0 0) = 32 then (if 1 ≤ (x0.size : Int) then (pursuivantref04_Trim.l0 k (x0.extract 1 x0.size)) else (none)) else (if (bt x0 0) = 9 then (if 1 ≤ (x0.size : Int) then (pursuivantref04_Trim.l0 k (x0.extract 1 x0.size)) else (none)) else (pursuivantref04_Trim.j1 k x0))) else (none)) else (pursuivantref04_Trim.j1 k x0)
end
def pursuivantref04_Trim.f (k : Nat) (a0 : ByteArray) : Option (ByteArray) := pursuivantref04_Trim.l0 k a0
set_option maxHeartbeats 8000000 in
set_option maxRecDepth 100000 in
theorem pursuivantref04_Trim.calls (k : Nat) (a0 : ByteArray) (r : ByteArray) (w : World) (hG_ : GW w) (h : pursuivantref04_Trim.f k a0 = some r) :
  Calls Tryd.prog 74 #[.string a0] w fun e w' => e = .returned (.string r) ∧ Drawn0 w w' := by
 have H : (pursuivantref04_Trim.l0 k a0) = some r := h
 clear h
 have HC2 := Aside0.mk H
 clear H
 go_enter Tryd.func74, Tryd.ntmps74
 go_upto_block 0 with (fail)
 go_cut [0] (fun v0 wc => ∃ (kq : Nat) (x0_1 : ByteArray), v0 = .string x0_1 ∧ Aside0 (pursuivantref04_Trim.j1 kq x0_1 = some r) ∧ Aside0 (kq ≤ k) ∧ Drawn0 w wc)
 case first =>
  have H := HC2.out
  clear HC2
  have H' := Aside0.mk H
  clear H
  go_wp2
  go_loopg [0] k (fun kq v0 w' => ∃ (x0_1 : ByteArray), v0 = .string x0_1 ∧ Aside0 (pursuivantref04_Trim.l0 kq x0_1 = some r) ∧ Aside0 (kq ≤ k) ∧ Drawn0 w w')
  case atStart => exact ⟨(a0), z15_, H', ⟨Nat.le_refl _⟩, z17_⟩
  case round =>
   clear H'
   try clear p2
   obtain ⟨x0_1, rfl, HA, HK1, ⟨m1, rfl⟩⟩ := hrel
   cases gk with
   | zero => exact absurd HA.out (by simp [pursuivantref04_Trim.l0])
   | succ k1 =>
    have H := HA.out
    clear HA
    simp only [pursuivantref04_Trim.l0] at H
    by_cases c3 : (x0_1.size : Int) > 0
    ·rw [if_pos c3] at H
     have c3b0 : decide (0 < (x0_1.size : Int)) = true := decide_eq_true c3
     have c3b1 : decide (0 < x0_1.size) = true := decide_eq_true (by omega)
     clear c3
     (first | rw [c3b0] | (simp only [i64_w, i32_w]; rw [c3b0]) | rw [c3e0] | skip)
     by_cases c4 : 0 < (x0_1.size : Int)
     ·rw [if_pos c4] at H
      have c4b0 : decide (0 < (x0_1.size : Int)) = true := decide_eq_true c4
      have c4b1 : decide (0 < x0_1.size) = true := decide_eq_true (by omega)
      clear c4
      by_cases c6 : (bt x0_1 0) = 32
      ·rw [if_pos c6] at H
       have c6b0 : ((bt x0_1 0) == 32) = true := beq_iff_eq.mpr c6
       have c6b1 : ((bt x0_1 0) != 32) = false := bne_eq_false_iff_eq.mpr c6
       clear c6
       by_cases c7 : 1 ≤ (x0_1.size : Int)
       ·rw [if_pos c7] at H
        have c7b0 := eq_true c7
        have c7b1 : decide (1 ≤ (x0_1.size : Int)) = true := decide_eq_true c7
        clear c7
        have H' := Aside0.mk H
        clear H
        have p5 : 0 ≤ (0 : Int) := (by omega)
        have q5 : 0 < x0_1.size := (by have : (0 : Int) < (x0_1.size : Int) := of_decide_eq_true z19_; omega)
        have hx5 : ∀ h : 0 < x0_1.size, ((x0_1[0]'h).toNat : Int) = bt x0_1 0 := bt_at x0_1 0
        clear p5
        have qi5 : (0 < (x0_1.size : Int)) = True := eq_true (of_decide_eq_true z19_)
        replace q5 := eq_true q5
        go_wp2
        go_roundg k1
        case measure => have := HK1.out; omega
        case rel => exact ⟨(x0_1.extract 1 x0_1.size), z15_, H', ⟨z22_⟩, z17_⟩
       ·rw [if_neg c7] at H
        exact absurd H (by simp)
      ·rw [if_neg c6] at H
       have c6b0 : ((bt x0_1 0) == 32) = false := beq_eq_false_iff_ne.mpr c6
       have c6b1 : ((bt x0_1 0) != 32) = true := bne_iff_ne.mpr c6
       by_cases c9 : (bt x0_1 0) = 9
       ·rw [if_pos c9] at H
        have c9b0 : ((bt x0_1 0) == 9) = true := beq_iff_eq.mpr c9
        have c9b1 : ((bt x0_1 0) != 9) = false := bne_eq_false_iff_eq.mpr c9
        clear c9
        by_cases c10 : 1 ≤ (x0_1.size : Int)
        ·rw [if_pos c10] at H
         have c10b0 := eq_true c10
         have c10b1 : decide (1 ≤ (x0_1.size : Int)) = true := decide_eq_true c10
         clear c10
         have H' := Aside0.mk H
         clear H
         have p5 : 0 ≤ (0 : Int) := (by omega)
         have q5 : 0 < x0_1.size := (by have : (0 : Int) < (x0_1.size : Int) := of_decide_eq_true z19_; omega)
         have hx5 : ∀ h : 0 < x0_1.size, ((x0_1[0]'h).toNat : Int) = bt x0_1 0 := bt_at x0_1 0
         clear p5
         have qi5 : (0 < (x0_1.size : Int)) = True := eq_true (of_decide_eq_true z19_)
         replace q5 := eq_true q5
         have p8 : 0 ≤ (0 : Int) := (by omega)
         have q8 : 0 < x0_1.size := (by have : (0 : Int) < (x0_1.size : Int) := of_decide_eq_true z19_; omega)
         have hx8 : ∀ h : 0 < x0_1.size, ((x0_1[0]'h).toNat : Int) = bt x0_1 0 := bt_at x0_1 0
         clear p8
         have qi8 : (0 < (x0_1.size : Int)) = True := eq_true (of_decide_eq_true z19_)
         replace q8 := eq_true q8
         go_wp2
         go_roundg k1
         case measure => have := HK1.out; omega
         case rel => exact ⟨(x0_1.extract 1 x0_1.size), z15_, H', ⟨z22_⟩, z17_⟩
        ·rw [if_neg c10] at H
         exact absurd H (by simp)
       ·rw [if_neg c9] at H
        have c9b0 : ((bt x0_1 0) == 9) = false := beq_eq_false_iff_ne.mpr c9
        have c9b1 : ((bt x0_1 0) != 9) = true := bne_iff_ne.mpr c9
        have H' := Aside0.mk H
        clear H
        have p5 : 0 ≤ (0 : Int) := (by omega)
        have q5 : 0 < x0_1.size := (by have : (0 : Int) < (x0_1.size : Int) := of_decide_eq_true z19_; omega)
        have hx5 : ∀ h : 0 < x0_1.size, ((x0_1[0]'h).toNat : Int) = bt x0_1 0 := bt_at x0_1 0
        clear p5
        have qi5 : (0 < (x0_1.size : Int)) = True := eq_true (of_decide_eq_true z19_)
        replace q5 := eq_true q5
        have p8 : 0 ≤ (0 : Int) := (by omega)
        have q8 : 0 < x0_1.size := (by have : (0 : Int) < (x0_1.size : Int) := of_decide_eq_true z19_; omega)
        have hx8 : ∀ h : 0 < x0_1.size, ((x0_1[0]'h).toNat : Int) = bt x0_1 0 := bt_at x0_1 0
        clear p8
        have qi8 : (0 < (x0_1.size : Int)) = True := eq_true (of_decide_eq_true z19_)
        replace q8 := eq_true q8
        go_wp2
        go_meet
        case rel => exact ⟨_, (x0_1), z15_, H', ⟨by have := HK1.out; first | omega | exact Nat.le_refl _⟩, z17_⟩
     ·rw [if_neg c4] at H
      exact absurd H (by simp)
    ·rw [if_neg c3] at H
     have c3b0 : decide (0 < (x0_1.size : Int)) = false := decide_eq_false c3
     have c3b1 : decide (0 < x0_1.size) = false := decide_eq_false (by omega)
     clear c3
     (first | rw [c3b0] | (simp only [i64_w, i32_w]; rw [c3b0]) | rw [c3e0] | skip)
     have H' := Aside0.mk H
     clear H
     go_wp2
     go_meet
     case rel => exact ⟨_, (x0_1), z15_, H', ⟨by have := HK1.out; first | omega | exact Nat.le_refl _⟩, z17_⟩
 case rest =>
  clear HC2
  try clear c1
  try clear p2
  try clear c3
  try clear c3b0
  try clear c3b1
  try clear c4
  try clear c4b0
  try clear c4b1
  try clear p5
  try clear q5
  try clear hx5
  try clear qi5
  try clear c6
  try clear c6b0
  try clear c6b1
  try clear c7
  try clear c7b0
  try clear c7b1
  try clear p8
  try clear q8
  try clear hx8
  try clear qi8
  try clear c9
  try clear c9b0
  try clear c9b1
  try clear c10
  try clear c10b0
  try clear c10b1
  try clear p2
  try clear p5
  try clear p8
  try clear q5
  try clear q8
  obtain ⟨kq, x0_1, rfl, HA, HJ1, ⟨mc1, rfl⟩⟩ := hcut
  cases kq with
  | zero => exact absurd HA.out (by simp [pursuivantref04_Trim.j1])
  | succ kj1 =>
   have H := HA.out
   clear HA
   simp only [pursuivantref04_Trim.j1] at H
   have H' := Aside0.mk H
   clear H
   go_wp2
   go_loopg [0] kj1 (fun kq v0 w' => ∃ (x0_2 : ByteArray), v0 = .string x0_2 ∧ Aside0 (pursuivantref04_Trim.l1 kq x0_2 = some r) ∧ Aside0 (kq ≤ kj1) ∧ Drawn0 w w')
   case atStart => exact ⟨(x0_1), z15_, H', ⟨Nat.le_refl _⟩, z17_⟩
   case round =>
    clear H'
    try clear c1
    try clear p2
    try clear c3
    try clear c3b0
    try clear c3b1
    try clear c4
    try clear c4b0
    try clear c4b1
    try clear p5
    try clear q5
    try clear hx5
    try clear qi5
    try clear c6
    try clear c6b0
    try clear c6b1
    try clear c7
    try clear c7b0
    try clear c7b1
    try clear p8
    try clear q8
    try clear hx8
    try clear qi8
    try clear c9
    try clear c9b0
    try clear c9b1
    try clear c10
    try clear c10b0
    try clear c10b1
    try clear p2
    try clear p5
    try clear p8
    try clear q5
    try clear q8
    obtain ⟨x0_2, rfl, HA, HK2, ⟨m2, rfl⟩⟩ := hrel
    cases gk with
    | zero => exact absurd HA.out (by simp [pursuivantref04_Trim.l1])
    | succ k2 =>
     have H := HA.out
     clear HA
     simp only [pursuivantref04_Trim.l1] at H
     by_cases c11 : (x0_2.size : Int) > 0
     ·rw [if_pos c11] at H
      have c11b0 : decide (0 < (x0_2.size : Int)) = true := decide_eq_true c11
      have c11b1 : decide (0 < x0_2.size) = true := decide_eq_true (by omega)
      clear c11
      obtain ⟨ji12, hji12⟩ : ∃ j_ : Int, (wrap64 ((x0_2.size : Int) - 1)) = j_ := ⟨_, rfl⟩
      replace H : (if 0 ≤ (ji12) then (if (ji12) < (x0_2.size : Int) then (if (bt x0_2 (ji12)) = 32 then (if (ji12) ≤ (x0_2.size : Int) then (pursuivantref04_Trim.l1 k2 (x0_2.extract 0 ((ji12) : Int).toNat)) else (none)) else (if (bt x0_2 (ji12)) = 9 then (if (ji12) ≤ (x0_2.size : Int) then (pursuivantref04_Trim.l1 k2 (x0_2.extract 0 ((ji12) : Int).toNat)) else (none)) else (some x0_2))) else (none)) else (none)) = some r := by first | (rw [hji12] at H; exact H) | (simp only [hji12] at H ⊢; exact H)
      have hji12w : (IntKind.i64.wrap ((x0_2.size : Int) - 1)) = ji12 := (i64_w _).trans hji12
      by_cases c13 : 0 ≤ (ji12)
      ·rw [if_pos c13] at H
       have c13b0 : decide (0 ≤ (ji12)) = true := decide_eq_true c13
       clear c13
       by_cases c14 : (ji12) < (x0_2.size : Int)
       ·rw [if_pos c14] at H
        have c14b0 : decide ((ji12) < (x0_2.size : Int)) = true := decide_eq_true c14
        clear c14
        by_cases c16 : (bt x0_2 (ji12)) = 32
        ·rw [if_pos c16] at H
         have c16b0 : ((bt x0_2 (ji12)) == 32) = true := beq_iff_eq.mpr c16
         have c16b1 : ((bt x0_2 (ji12)) != 32) = false := bne_eq_false_iff_eq.mpr c16
         clear c16
         have c17b0 := eq_true (of_decide_eq_true z19_ : 0 ≤ (ji12))
         by_cases c18 : (ji12) ≤ (x0_2.size : Int)
         ·rw [if_pos c18] at H
          have c18b0 := eq_true c18
          have c18b1 : decide ((ji12) ≤ (x0_2.size : Int)) = true := decide_eq_true c18
          clear c18
          have H' := Aside0.mk H
          clear H
          have p15 : 0 ≤ ((ji12) : Int) := of_decide_eq_true z19_
          have q15 : (ji12) < (x0_2.size : Int) := of_decide_eq_true z19_
          have hx15 := bt_at x0_2 (ji12)
          replace p15 := eq_true p15
          replace q15 := eq_true q15
          go_wp2
          go_roundg k2
          case measure => have := HJ1.out; have := HK2.out; omega
          case rel => exact ⟨(x0_2.extract 0 ((ji12) : Int).toNat), z5_, H', ⟨z20_⟩, z17_⟩
         ·rw [if_neg c18] at H
          exact absurd H (by simp)
        ·rw [if_neg c16] at H
         have c16b0 : ((bt x0_2 (ji12)) == 32) = false := beq_eq_false_iff_ne.mpr c16
         have c16b1 : ((bt x0_2 (ji12)) != 32) = true := bne_iff_ne.mpr c16
         by_cases c20 : (bt x0_2 (ji12)) = 9
         ·rw [if_pos c20] at H
          have c20b0 : ((bt x0_2 (ji12)) == 9) = true := beq_iff_eq.mpr c20
          have c20b1 : ((bt x0_2 (ji12)) != 9) = false := bne_eq_false_iff_eq.mpr c20
          clear c20
          have c21b0 := eq_true (of_decide_eq_true z19_ : 0 ≤ (ji12))
          by_cases c22 : (ji12) ≤ (x0_2.size : Int)
          ·rw [if_pos c22] at H
           have c22b0 := eq_true c22
           have c22b1 : decide ((ji12) ≤ (x0_2.size : Int)) = true := decide_eq_true c22
           clear c22
           have H' := Aside0.mk H
           clear H
           have p15 : 0 ≤ ((ji12) : Int) := of_decide_eq_true z19_
           have q15 : (ji12) < (x0_2.size : Int) := of_decide_eq_true z19_
           have hx15 := bt_at x0_2 (ji12)
           replace p15 := eq_true p15
           replace q15 := eq_true q15
           have p19 : 0 ≤ ((ji12) : Int) := of_decide_eq_true z19_
           have q19 : (ji12) < (x0_2.size : Int) := of_decide_eq_true z19_
           have hx19 := bt_at x0_2 (ji12)
           replace p19 := eq_true p19
           replace q19 := eq_true q19
           go_wp2
           go_roundg k2
           case measure => have := HJ1.out; have := HK2.out; omega
           case rel => exact ⟨(x0_2.extract 0 ((ji12) : Int).toNat), z5_, H', ⟨z20_⟩, z17_⟩
          ·rw [if_neg c22] at H
           exact absurd H (by simp)
         ·rw [if_neg c20] at H
          have c20b0 : ((bt x0_2 (ji12)) == 9) = false := beq_eq_false_iff_ne.mpr c20
          have c20b1 : ((bt x0_2 (ji12)) != 9) = true := bne_iff_ne.mpr c20
          obtain rfl := Option.some.inj H
          have p15 : 0 ≤ ((ji12) : Int) := of_decide_eq_true z19_
          have q15 : (ji12) < (x0_2.size : Int) := of_decide_eq_true z19_
          have hx15 := bt_at x0_2 (ji12)
          replace p15 := eq_true p15
          replace q15 := eq_true q15
          have p19 : 0 ≤ ((ji12) : Int) := of_decide_eq_true z19_
          have q19 : (ji12) < (x0_2.size : Int) := of_decide_eq_true z19_
          have hx19 := bt_at x0_2 (ji12)
          replace p19 := eq_true p19
          replace q19 := eq_true q19
          go_wp2
          go_ret
          exact ⟨z5_, z17_⟩
       ·rw [if_neg c14] at H
        exact absurd H (by simp)
      ·rw [if_neg c13] at H
       exact absurd H (by simp)
     ·rw [if_neg c11] at H
      have c11b0 : decide (0 < (x0_2.size : Int)) = false := decide_eq_false c11
      have c11b1 : decide (0 < x0_2.size) = false := decide_eq_false (by omega)
      clear c11
      obtain rfl := Option.some.inj H
      go_wp2
      go_ret
      exact ⟨z15_, z17_⟩

/-! ### pursuivantref10_Header: function 32 -/
mutual
def pursuivantref10_Header.j0 : Nat → ByteArray → ByteArray → Bool → Option (Bool)
 | 0, _, _, _ => none
 | k + 1, x3, x4, x20 => if x20 = true then (some false) else (pursuivantref10_Header.l0 k x3 x4 (x4.size : Int) (wrap64 ((x4.size : Int) - 1)))
def pursuivantref10_Header.l0 : Nat → ByteArray → ByteArray → Int → Int → Option (Bool)
 | 0, _, _, _, _ => none
 | k + 1, x3, x4, x5, x6 => if x6 ≥ 0 then (if 0 ≤ x6 then (if x6 < (x4.size : Int) then (if (bt x4 x6) = 59 then (pursuivantref10_Header.j2 k x3 x4 x6 x6) else (pursuivantref10_Header.j2 k x3 x4 x5 x6)) else (none)) else (none)) else (if x3.toList = ([99, 111, 110, 116, 101, 110, 116, 45, 116, 121, 112, 101] : List UInt8) then (if 0 ≤ x5 then (if x5 ≤ (x4.size : Int) then ((pursuivantref04_Trim.f k (x4.extract 0 (x5 : Int).toNat)).bind fun t174 => ((pursuivantref04_Lower.f k t174).bind fun t175 => ((pursuivantref10_among.f k t175 (([(⟨#[116, 101, 120, 116, 47, 112, 108, 97, 105, 110]⟩ : ByteArray), (⟨#[109, 117, 108, 116, 105, 112, 97, 114, 116, 47, 102, 111, 114, 109, 45, 100, 97, 116, 97]⟩ : ByteArray), (⟨#[97, 112, 112, 108, 105, 99, 97, 116, 105, 111, 110, 47, 120, 45, 119, 119, 119, 45, 102, 111, 114, 109, 45, 117, 114, 108, 101, 110, 99, 111, 100, 101, 100]⟩ : ByteArray)] : List ByteArray))).bind fun t179 => (some t179)))) else (none)) else (none)) else (some true))
def pursuivantref10_Header.j2 : Nat → ByteArray → ByteArray → Int → Int → Option (Bool)
 | 0, _, _, _, _ => none
 | k + 1, x3, x4, x5, x6 => if 0 ≤ (wrap64 ((x3.size : Int) - 1)) then (if (wrap64 ((x3.size : Int) - 1)) < (x3.size : Int) then (if (bt x3 (wrap64 ((x3.size : Int) - 1))) = 101 then (pursuivantref10_Header.j3 k x3 x4 x5 x6 (x3.toList != ([99, 111, 110, 116, 101, 110, 116, 45, 116, 121, 112, 101] : List UInt8))) else (pursuivantref10_Header.j3 k x3 x4 x5 x6 false)) else (none)) else (none)
def pursuivantref10_Header.j3 : Nat → ByteArray → ByteArray → Int → Int → Bool → Option (Bool)
 | 0, _, _, _, _, _ => none
 | k + 1, x3, x4, x5, x6, x44 => if x44 = true then (if 0 ≤ x6 then (if x6 < (x4.size : Int) then ((pursuivantref10_language.f (bt x4 x6)).bind fun t180 => (if t180 = true then (pursuivantref10_Header.l0 k x3 x4 x5 (wrap64 (x6 - 1))) else (some false))) else (none)) else (none)) else (if 0 ≤ x6 then (if x6 < (x4.size : Int) then ((pursuivantref10_unsafe.f (bt x4 x6)).bind fun t181 => (if t181 = true then (some false) else (pursuivantref10_Header.l0 k x3 x4 x5 (wrap64 (x6 - 1))))) else (none)) else (none))
end
def pursuivantref10_Header.f (k : Nat) (a0_0 : ByteArray) (a0_1 : ByteArray) : Option (Bool) := (pursuivantref04_Lower.f k a0_0).bind fun t169 => (if (a0_1.size : Int) > 128 then (pursuivantref10_Header.j0 k t169 a0_1 true) else ((pursuivantref10_among.f k t169 (([(⟨#[97, 99, 99, 101, 112, 116]⟩ : ByteArray), (⟨#[97, 99, 99, 101, 112, 116, 45, 108, 97, 110, 103, 117, 97, 103, 101]⟩ : ByteArray), (⟨#[99, 111, 110, 116, 101, 110, 116, 45, 108, 97, 110, 103, 117, 97, 103, 101]⟩ : ByteArray), (⟨#[99, 111, 110, 116, 101, 110, 116, 45, 116, 121, 112, 101]⟩ : ByteArray)] : List ByteArray))).bind fun t173 => (pursuivantref10_Header.j0 k t169 a0_1 (!t173))))
set_option maxHeartbeats 8000000 in
set_option maxRecDepth 100000 in
theorem pursuivantref10_Header.calls (k : Nat) (a0_0 : ByteArray) (a0_1 : ByteArray) (r : Bool) (w : World) (hG_ : GW w) (h : pursuivantref10_Header.f k a0_0 a0_1 = some r) :
  Calls Tryd.prog 32 #[.agg #[.string a0_0, .string a0_1]] w fun e w' => e = .returned (.bool r) ∧ Below w.heap.size w w' := by
 have hu31 := Tryd.underlying31
 have HB := Aside0.mk (Below.refl w.heap.size w)
 have H : ((pursuivantref04_Lower.f k a0_0).bind fun t169 => (if (a0_1.size : Int) > 128 then (pursuivantref10_Header.j0 k t169 a0_1 true) else ((pursuivantref10_among.f k t169 (([(⟨#[97, 99, 99, 101, 112, 116]⟩ : ByteArray), (⟨#[97, 99, 99, 101, 112, 116, 45, 108, 97, 110, 103, 117, 97, 103, 101]⟩ : ByteArray), (⟨#[99, 111, 110, 116, 101, 110, 116, 45, 108, 97, 110, 103, 117, 97, 103, 101]⟩ : ByteArray), (⟨#[99, 111, 110, 116, 101, 110, 116, 45, 116, 121, 112, 101]⟩ : ByteArray)] : List ByteArray))).bind fun t173 => (pursuivantref10_Header.j0 k t169 a0_1 (!t173))))) = some r := h
 clear h
 replace H := Option.bind_eq_some_iff.mp H
 obtain ⟨t169, A20, H⟩ := H
 replace H : (if (a0_1.size : Int) > 128 then (pursuivantref10_Header.j0 k t169 a0_1 true) else ((pursuivantref10_among.f k t169 (([(⟨#[97, 99, 99, 101, 112, 116]⟩ : ByteArray), (⟨#[97, 99, 99, 101, 112, 116, 45, 108, 97, 110, 103, 117, 97, 103, 101]⟩ : ByteArray), (⟨#[99, 111, 110, 116, 101, 110, 116, 45, 108, 97, 110, 103, 117, 97, 103, 101]⟩ : ByteArray), (⟨#[99, 111, 110, 116, 101, 110, 116, 45, 116, 121, 112, 101]⟩ : ByteArray)] : List ByteArray))).bind fun t173 => (pursuivantref10_Header.j0 k t169 a0_1 (!t173)))) = some r := H
 have A2 := Aside0.mk A20
 clear A20
 have HC3 := Aside0.mk H
 clear H
 go_enter Tryd.func32, Tryd.ntmps32
 try go_wp2_with (first | ((with_reducible refine gate_dst (N := 1) rfl ?_); (try (refine gate_guard (by rfl) ?_; dsimp only)); refine box_event ?hg (N := 1) ?hd (cs := #[.string a0_0, .string a0_1]) (t := 31) ?hr ?_; (case hd => rfl); (case hg => rfl); (case hr => first | (go_simp; done) | (go_simp; rfl)); intro gb168 hg w4 hbox hb; have n0_ := Aside0.mk (below_step z3_ hb); have n1_ := Aside0.mk (hbox); have n2_ := Aside0.mk ((by rw [hg]; exact (below_size z3_) : w.heap.size ≤ gb168)); have n3_ := Aside0.mk ((by rw [hg]; exact (below_size z3_) : w.heap.size ≤ gb168)); clear HB; have HB := n0_; have BK168 := n1_; have GW168 := n2_; have GE168 := n3_; clear n0_ n1_ n2_ n3_; clear hb hbox hg))
 have n0_ := Aside0.mk (blk_drew BK168.out)
 have n1_ := Aside0.mk (below_drew1 HB.out)
 clear BK168
 clear HB
 have BK168 := n0_
 have HB := n1_
 clear n0_ n1_
 refine start_ (n := 7) (S := fun w' => w'.cell? ⟨gb168, 0, none⟩ = some (.string a0_0) ∧ w'.cell? ⟨gb168, 1, none⟩ = some (.string a0_1)) (ds := []) #[false, false, false, false, false, false, false] (by kernel_rfl) rfl rfl ⟨(blk_cell BK168.out 0).trans rfl, (blk_cell BK168.out 1).trans rfl⟩ (fun hHeld => ?_)
 generalize w4.drew = w5 at BK168 HB hHeld ⊢
 refine pure_ (i := 0) (N := some 7) (v := ?_) (a' := ?_) #[true, false, false, false, false, false, false] rfl rfl (by kernel_rfl) (fun _ _ _ h => h) (Or.inl ⟨by rfl, ?_⟩) ?_ ?_
 rotate_left
 ·intro w'
  go_simp
  with_reducible rfl
 rotate_left
 ·simp only [Act.put, List.setIfInBounds_toArray, List.set_cons_zero, List.set_cons_succ, i64_w, i32_w]
  rfl
 refine pure_ (i := 3) (N := some 10) (v := ?_) (a' := ?_) #[true, false, false, true, false, false, false] rfl rfl (by kernel_rfl) (fun _ _ _ h => h) (Or.inl ⟨by rfl, ?_⟩) ?_ ?_
 rotate_left
 ·intro w'
  go_simp
  with_reducible rfl
 rotate_left
 ·simp only [Act.put, List.setIfInBounds_toArray, List.set_cons_zero, List.set_cons_succ, i64_w, i32_w]
  rfl
 refine take_ (i := 1) (N := some 8) (v := ?_) (a' := ?_) #[true, true, false, true, false, false, false] rfl rfl (by kernel_rfl) (fun _ _ _ h => h) (Or.inl ⟨by rfl, ?_⟩) hHeld ?_ ?_
 rotate_left
 ·rintro w' ⟨s0, s1⟩
  go_simp
  with_reducible rfl
 rotate_left
 ·simp only [Act.put, List.setIfInBounds_toArray, List.set_cons_zero, List.set_cons_succ, i64_w, i32_w]
  rfl
 refine take_ (i := 4) (N := some 11) (v := ?_) (a' := ?_) #[true, true, false, true, true, false, false] rfl rfl (by kernel_rfl) (fun _ _ _ h => h) (Or.inl ⟨by rfl, ?_⟩) hHeld ?_ ?_
 rotate_left
 ·rintro w' ⟨s0, s1⟩
  go_simp
  with_reducible rfl
 rotate_left
 ·simp only [Act.put, List.setIfInBounds_toArray, List.set_cons_zero, List.set_cons_succ, i64_w, i32_w]
  rfl
 refine one_ (i := 2) (N := some 9) #[true, true, true, true, true, false, false] rfl rfl (by kernel_rfl) (by decide) (fun K hK => ?_)
 refine goes_ Tryd.func71 (by kernel_rfl) rfl #[.string a0_0] (by rfl) rfl rfl z2_ ?_
 with_reducible refine (pursuivantref04_Lower.calls k a0_0 t169 _ ?gw85_ A2.out).mono ?_
 case gw85_ => first | exact hG_ | (refine GW.below hG_ ?_; first | (with_reducible exact HB.out) | (repeat (first | (with_reducible first | exact HB.out | apply below_alloc | apply pw_below_drewN | apply below_drew1 | apply below_drew | exact Below.refl _ _) | exact HB.out))) | (apply GW.drewN; exact hG_) | (apply GW.drew; exact hG_)
 rintro e w6 ⟨rfl, hb⟩
 refine ⟨_, rfl, ?_⟩
 have n0_ := Aside0.mk (blk_below (g := gb168) (o := .cells #[.string a0_0, .string a0_1] 31 (0, 0)) z7_ hb)
 have n1_ := Aside0.mk (below_step z1_ hb)
 clear BK168
 clear HB
 have BK168 := n0_
 have HB := n1_
 clear n0_ n1_
 (try clear hb)
 (try clear hb2)
 (try clear hk)
 (try clear hi)
 refine hK.out _ _ ⟨(blk_cell BK168.out 0).trans rfl, (blk_cell BK168.out 1).trans rfl⟩ (fun hHeld => ?_)
 clear hK K
 refine norm_ (a' := ?_) ?_ ?_
 rotate_left
 ·show Act.put _ (some 9) _ = _
  simp only [Act.put, List.setIfInBounds_toArray, List.set_cons_zero, List.set_cons_succ, i64_w, i32_w]
  rfl
 refine pure_ (i := 5) (N := some 3) (v := ?_) (a' := ?_) #[true, true, true, true, true, true, false] rfl rfl (by kernel_rfl) (fun _ _ _ h => h) (Or.inl ⟨by rfl, ?_⟩) ?_ ?_
 rotate_left
 ·intro w'
  go_simp
  with_reducible rfl
 rotate_left
 ·simp only [Act.put, List.setIfInBounds_toArray, List.set_cons_zero, List.set_cons_succ, i64_w, i32_w]
  rfl
 refine pure_ (i := 6) (N := some 4) (v := ?_) (a' := ?_) #[true, true, true, true, true, true, true] rfl rfl (by kernel_rfl) (fun _ _ _ h => h) (Or.inl ⟨by rfl, ?_⟩) ?_ ?_
 rotate_left
 ·intro w'
  go_simp
  with_reducible rfl
 rotate_left
 ·simp only [Act.put, List.setIfInBounds_toArray, List.set_cons_zero, List.set_cons_succ, i64_w, i32_w]
  rfl
 refine done_ (by kernel_rfl) ?_
 go_upto_region 2 with (fail)
 go_cut [20] (fun v20 wc => ∃ (kq : Nat) (x20_2 : Bool), v20 = .bool x20_2 ∧ Aside0 (pursuivantref10_Header.j0 kq t169 a0_1 x20_2 = some r) ∧ Aside0 (kq ≤ k) ∧ Aside0 (wc.heap[gb168]? = some (.cells #[.string a0_0, .string a0_1] 31 (0, 0))) ∧ Aside0 (Below w.heap.size w wc))
 case first =>
  have H := HC3.out
  clear HC3
  by_cases c7 : (a0_1.size : Int) > 128
  ·rw [if_pos c7] at H
   have c7b0 : decide (128 < (a0_1.size : Int)) = true := decide_eq_true c7
   have c7b1 : decide (128 < a0_1.size) = true := decide_eq_true (by omega)
   clear c7
   (first | rw [c7b0] | (simp only [i64_w, i32_w]; rw [c7b0]) | skip)
   have H' := Aside0.mk H
   clear H
   go_wp2
   go_meet
   case rel => exact ⟨_, (true), z15_, H', ⟨z21_⟩, ⟨z7_⟩, ⟨z1_⟩⟩
  ·rw [if_neg c7] at H
   have c7b0 : decide (128 < (a0_1.size : Int)) = false := decide_eq_false c7
   have c7b1 : decide (128 < a0_1.size) = false := decide_eq_false (by omega)
   clear c7
   (first | rw [c7b0] | (simp only [i64_w, i32_w]; rw [c7b0]) | skip)
   obtain ⟨y170, hy170⟩ : ∃ y_ : List ByteArray, y_ = (([(⟨#[97, 99, 99, 101, 112, 116]⟩ : ByteArray), (⟨#[97, 99, 99, 101, 112, 116, 45, 108, 97, 110, 103, 117, 97, 103, 101]⟩ : ByteArray), (⟨#[99, 111, 110, 116, 101, 110, 116, 45, 108, 97, 110, 103, 117, 97, 103, 101]⟩ : ByteArray), (⟨#[99, 111, 110, 116, 101, 110, 116, 45, 116, 121, 112, 101]⟩ : ByteArray)] : List ByteArray)) := ⟨_, rfl⟩
   replace H : ((pursuivantref10_among.f k t169 y170).bind fun t173 => (pursuivantref10_Header.j0 k t169 a0_1 (!t173))) = some r := by first | (rw [hy170]; with_reducible exact H) | (have H2_ := (Option.bind_some _ _).symm.trans H; rw [hy170]; with_reducible exact H2_) | (have H2_ := (Option.bind_some _ _).symm.trans H; with_reducible exact H2_) | with_reducible exact H | (rw [hy170]; exact H) | exact H
   have Ny170 := Aside0.mk hy170
   clear hy170
   replace H := Option.bind_eq_some_iff.mp H
   obtain ⟨t173, A80, H⟩ := H
   replace H : (pursuivantref10_Header.j0 k t169 a0_1 (!t173)) = some r := H
   have A8 := Aside0.mk A80
   clear A80
   have H' := Aside0.mk H
   clear H
   go_wp2_with (first | ((with_reducible refine gate_dst (N := 17) rfl ?_); (try (refine gate_guard (by rfl) ?_; dsimp only)); refine Kd.R_lit Kd.string _ 9 ?hg (N := 17) ?hd (xs := ([(⟨#[97, 99, 99, 101, 112, 116]⟩ : ByteArray), (⟨#[97, 99, 99, 101, 112, 116, 45, 108, 97, 110, 103, 117, 97, 103, 101]⟩ : ByteArray), (⟨#[99, 111, 110, 116, 101, 110, 116, 45, 108, 97, 110, 103, 117, 97, 103, 101]⟩ : ByteArray), (⟨#[99, 111, 110, 116, 101, 110, 116, 45, 116, 121, 112, 101]⟩ : ByteArray)] : List ByteArray)) (inner := [.string (⟨#[97, 99, 99, 101, 112, 116]⟩ : ByteArray), .string (⟨#[97, 99, 99, 101, 112, 116, 45, 108, 97, 110, 103, 117, 97, 103, 101]⟩ : ByteArray), .string (⟨#[99, 111, 110, 116, 101, 110, 116, 45, 108, 97, 110, 103, 117, 97, 103, 101]⟩ : ByteArray), .string (⟨#[99, 111, 110, 116, 101, 110, 116, 45, 116, 121, 112, 101]⟩ : ByteArray)]) (ok := fun _ => True) (okp := fun _ => True) ?hr ?hp (fun _ hk => hk) trivial (Below.refl _ _) (Nat.le_refl _) (by simp) ?_; (case hd => rfl); (case hg => rfl); (case hr => first | (go_simp; done) | (go_simp; rfl)); (case hp => exact (Reps.one (show Kd.M Kd.string _ _ _ (⟨#[97, 99, 99, 101, 112, 116]⟩ : ByteArray) [.string (⟨#[97, 99, 99, 101, 112, 116]⟩ : ByteArray)] from rfl) (Reps.one (show Kd.M Kd.string _ _ _ (⟨#[97, 99, 99, 101, 112, 116, 45, 108, 97, 110, 103, 117, 97, 103, 101]⟩ : ByteArray) [.string (⟨#[97, 99, 99, 101, 112, 116, 45, 108, 97, 110, 103, 117, 97, 103, 101]⟩ : ByteArray)] from rfl) (Reps.one (show Kd.M Kd.string _ _ _ (⟨#[99, 111, 110, 116, 101, 110, 116, 45, 108, 97, 110, 103, 117, 97, 103, 101]⟩ : ByteArray) [.string (⟨#[99, 111, 110, 116, 101, 110, 116, 45, 108, 97, 110, 103, 117, 97, 103, 101]⟩ : ByteArray)] from rfl) (Reps.one (show Kd.M Kd.string _ _ _ (⟨#[99, 111, 110, 116, 101, 110, 116, 45, 116, 121, 112, 101]⟩ : ByteArray) [.string (⟨#[99, 111, 110, 116, 101, 110, 116, 45, 116, 121, 112, 101]⟩ : ByteArray)] from rfl) (Reps.none _ _)))))); intro v171 w9 ho10 hb hg_ hnew_; clear hg_ hnew_; (first | rw [← Ny170.out] at ho10 | (simp only [Int.reduceToNat] at ho10; rw [← Ny170.out] at ho10)); have n0_ := Aside0.mk (Kd.R_lower ho10 (below_size z1_)); have n1_ := Aside0.mk (blk_below (g := gb168) (o := .cells #[.string a0_0, .string a0_1] 31 (0, 0)) z7_ hb); have n2_ := Aside0.mk (below_step z1_ hb); clear BK168; clear HB; have HO172 := n0_; have BK168 := n1_; have HB := n2_; clear n0_ n1_ n2_; clear hb ho10; obtain ⟨Ao11, co11, eo11⟩ := Kd.R_slice HO172.out; subst eo11) | (go_at_call 66; (fail_if_success (have z_ := U_18)); have U_18 := trivial; (with_reducible refine (pursuivantref10_among.calls k t169 _ _ y170 t173 _ ?gw65_ ?side1 ?side2 A8.out).mono ?_); (case gw65_ => first | exact hG_ | (refine GW.below hG_ ?_; first | (with_reducible exact HB.out) | (repeat (first | (with_reducible first | exact HB.out | apply below_alloc | apply pw_below_drewN | apply below_drew1 | apply below_drew | exact Below.refl _ _) | exact HB.out))) | (apply GW.drewN; exact hG_) | (apply GW.drew; exact hG_)); (case side1 => repeat (first | exact (Kd.R_reads' HO172.out).2.2 | (with_reducible refine Kd.C_alloc ?_ _) | (with_reducible refine Kd.C_drewN ?_ _) | (with_reducible refine Kd.C_drew ?_))); (case side2 => exact (Kd.R_reads' HO172.out).2.1); rintro e w' ⟨rfl, ⟨nd, rfl⟩⟩))
   go_meet
   case rel => exact ⟨_, (!t173), z15_, H', ⟨z21_⟩, ⟨z7_⟩, ⟨z1_⟩⟩
 case rest =>
  clear HC3
  try clear p2
  try clear c3
  try clear c7
  try clear c7b0
  try clear c7b1
  obtain ⟨kq, x20_2, rfl, HA, HJ2, BK168, HB⟩ := hcut
  cases kq with
  | zero => exact absurd HA.out (by simp [pursuivantref10_Header.j0])
  | succ kj2 =>
   have H := HA.out
   clear HA
   simp only [pursuivantref10_Header.j0] at H
   by_cases c12 : x20_2 = true
   ·subst c12
    have H1 : (some false) = some r := by rw [if_pos rfl] at H; exact H
    clear H
    have H := H1
    clear H1
    obtain rfl := Option.some.inj H
    go_wp2
    go_ret
    exact ⟨z4_, z1_⟩
   ·replace c12 := Bool.eq_false_iff.mpr c12
    subst c12
    have H1 : (pursuivantref10_Header.l0 kj2 t169 a0_1 (a0_1.size : Int) (wrap64 ((a0_1.size : Int) - 1))) = some r := by rw [if_neg (show ¬ (false = true) by decide)] at H; exact H
    clear H
    have H := H1
    clear H1
    have H' := Aside0.mk H
    clear H
    go_wp2
    go_loopg [5, 6] kj2 (fun kq v5 v6 w' => ∃ (x5_2 : Int) (x6_2 : Int), v5 = .int .i64 x5_2 ∧ v6 = .int .i64 x6_2 ∧ Aside0 (pursuivantref10_Header.l0 kq t169 a0_1 x5_2 x6_2 = some r) ∧ Aside0 (kq ≤ kj2) ∧ Aside0 (w'.heap[gb168]? = some (.cells #[.string a0_0, .string a0_1] 31 (0, 0))) ∧ Aside0 (Below w.heap.size w w'))
    case atStart => exact ⟨((a0_1.size : Int)), (wrap64 ((a0_1.size : Int) - 1)), z15_, z15_, H', ⟨Nat.le_refl _⟩, ⟨z7_⟩, ⟨z1_⟩⟩
    case round =>
     clear H'
     try clear c1
     try clear p2
     try clear c3
     try clear p6
     try clear c7
     try clear c7b0
     try clear c7b1
     try clear c12
     try clear p2
     obtain ⟨x5_2, x6_2, rfl, rfl, HA, HK2, BK168, HB⟩ := hrel
     cases gk with
     | zero => exact absurd HA.out (by simp [pursuivantref10_Header.l0])
     | succ k2 =>
      have H := HA.out
      clear HA
      simp only [pursuivantref10_Header.l0] at H
      by_cases c13 : x6_2 ≥ 0
      ·rw [if_pos c13] at H
       have c13b0 : decide (0 ≤ x6_2) = true := decide_eq_true c13
       clear c13
       by_cases c14 : 0 ≤ x6_2
       ·rw [if_pos c14] at H
        have c14b0 : decide (0 ≤ x6_2) = true := decide_eq_true c14
        clear c14
        by_cases c15 : x6_2 < (a0_1.size : Int)
        ·rw [if_pos c15] at H
         have c15b0 : decide (x6_2 < (a0_1.size : Int)) = true := decide_eq_true c15
         clear c15
         have HC17 := Aside0.mk H
         clear H
         have p16 : 0 ≤ (x6_2 : Int) := of_decide_eq_true z19_
         have q16 : x6_2 < (a0_1.size : Int) := of_decide_eq_true z19_
         have hx16 := bt_at a0_1 x6_2
         replace p16 := eq_true p16
         replace q16 := eq_true q16
         go_upto_if 33 with (fail)
         go_cut [5] (fun v5 wc => ∃ (kq : Nat) (x5_16 : Int), v5 = .int .i64 x5_16 ∧ Aside0 (pursuivantref10_Header.j2 kq t169 a0_1 x5_16 x6_2 = some r) ∧ Aside0 (kq ≤ k2) ∧ Aside0 (wc.heap[gb168]? = some (.cells #[.string a0_0, .string a0_1] 31 (0, 0))) ∧ Aside0 (Below w.heap.size w wc))
         case first =>
          have H := HC17.out
          clear HC17
          by_cases c18 : (bt a0_1 x6_2) = 59
          ·rw [if_pos c18] at H
           have c18b0 : ((bt a0_1 x6_2) == 59) = true := beq_iff_eq.mpr c18
           have c18b1 : ((bt a0_1 x6_2) != 59) = false := bne_eq_false_iff_eq.mpr c18
           clear c18
           (first | rw [c18b0] | (simp only [i64_w, i32_w]; rw [c18b0]) | skip)
           have H' := Aside0.mk H
           clear H
           go_wp2
           go_meet
           case rel => exact ⟨_, (x6_2), z15_, H', ⟨by have := HJ2.out; have := HK2.out; first | omega | exact Nat.le_refl _⟩, ⟨z7_⟩, ⟨z1_⟩⟩
          ·rw [if_neg c18] at H
           have c18b0 : ((bt a0_1 x6_2) == 59) = false := beq_eq_false_iff_ne.mpr c18
           have c18b1 : ((bt a0_1 x6_2) != 59) = true := bne_iff_ne.mpr c18
           (first | rw [c18b0] | (simp only [i64_w, i32_w]; rw [c18b0]) | skip)
           have H' := Aside0.mk H
           clear H
           go_wp2
           go_meet
           case rel => exact ⟨_, (x5_2), z15_, H', ⟨by have := HJ2.out; have := HK2.out; first | omega | exact Nat.le_refl _⟩, ⟨z7_⟩, ⟨z1_⟩⟩
         case rest =>
          clear HC17
          try clear c1
          try clear p1
          try clear q1
          try clear hx1
          try clear p2
          try clear c3
          try clear p6
          try clear c7
          try clear c7b0
          try clear c7b1
          try clear c12
          try clear c13
          try clear c13b0
          try clear c14
          try clear c14b0
          try clear c15
          try clear c15b0
          try clear p16
          try clear q16
          try clear hx16
          try clear c18
          try clear c18b0
          try clear c18b1
          try clear p16
          try clear p2
          try clear p6
          try clear q16
          obtain ⟨kq, x5_16, rfl, HA, HJ16, BK168, HB⟩ := hcut
          cases kq with
          | zero => exact absurd HA.out (by simp [pursuivantref10_Header.j2])
          | succ kj16 =>
           have H := HA.out
           clear HA
           simp only [pursuivantref10_Header.j2] at H
           have HC19 := Aside0.mk H
           clear H
           go_upto_region 10 with (fail)
           go_cut [44] (fun v44 wc => ∃ (kq : Nat) (x44_18 : Bool), v44 = .bool x44_18 ∧ Aside0 (pursuivantref10_Header.j3 kq t169 a0_1 x5_16 x6_2 x44_18 = some r) ∧ Aside0 (kq ≤ kj16) ∧ Aside0 (wc.heap[gb168]? = some (.cells #[.string a0_0, .string a0_1] 31 (0, 0))) ∧ Aside0 (Below w.heap.size w wc))
           case first =>
            have H := HC19.out
            clear HC19
            obtain ⟨ji20, hji20⟩ : ∃ j_ : Int, (wrap64 ((t169.size : Int) - 1)) = j_ := ⟨_, rfl⟩
            replace H : (if 0 ≤ (ji20) then (if (ji20) < (t169.size : Int) then (if (bt t169 (ji20)) = 101 then (pursuivantref10_Header.j3 kj16 t169 a0_1 x5_16 x6_2 (t169.toList != ([99, 111, 110, 116, 101, 110, 116, 45, 116, 121, 112, 101] : List UInt8))) else (pursuivantref10_Header.j3 kj16 t169 a0_1 x5_16 x6_2 false)) else (none)) else (none)) = some r := by first | (rw [hji20] at H; exact H) | (simp only [hji20] at H ⊢; exact H)
            have hji20w : (IntKind.i64.wrap ((t169.size : Int) - 1)) = ji20 := (i64_w _).trans hji20
            by_cases c21 : 0 ≤ (ji20)
            ·rw [if_pos c21] at H
             have c21b0 : decide (0 ≤ (ji20)) = true := decide_eq_true c21
             clear c21
             (first | rw [c21b0] | (simp only [i64_w, i32_w]; rw [c21b0]) | skip)
             by_cases c22 : (ji20) < (t169.size : Int)
             ·rw [if_pos c22] at H
              have c22b0 : decide ((ji20) < (t169.size : Int)) = true := decide_eq_true c22
              clear c22
              by_cases c24 : (bt t169 (ji20)) = 101
              ·rw [if_pos c24] at H
               have c24b0 : ((bt t169 (ji20)) == 101) = true := beq_iff_eq.mpr c24
               have c24b1 : ((bt t169 (ji20)) != 101) = false := bne_eq_false_iff_eq.mpr c24
               clear c24
               have H' := Aside0.mk H
               clear H
               have p23 : 0 ≤ ((ji20) : Int) := of_decide_eq_true z19_
               have q23 : (ji20) < (t169.size : Int) := of_decide_eq_true z19_
               have hx23 := bt_at t169 (ji20)
               replace p23 := eq_true p23
               replace q23 := eq_true q23
               go_wp2
               go_meet
               case rel => exact ⟨_, ((t169.toList != ([99, 111, 110, 116, 101, 110, 116, 45, 116, 121, 112, 101] : List UInt8))), z15_, H', ⟨by have := HJ2.out; have := HK2.out; have := HJ16.out; first | omega | exact Nat.le_refl _⟩, ⟨z7_⟩, ⟨z1_⟩⟩
              ·rw [if_neg c24] at H
               have c24b0 : ((bt t169 (ji20)) == 101) = false := beq_eq_false_iff_ne.mpr c24
               have c24b1 : ((bt t169 (ji20)) != 101) = true := bne_iff_ne.mpr c24
               have H' := Aside0.mk H
               clear H
               have p23 : 0 ≤ ((ji20) : Int) := of_decide_eq_true z19_
               have q23 : (ji20) < (t169.size : Int) := of_decide_eq_true z19_
               have hx23 := bt_at t169 (ji20)
               replace p23 := eq_true p23
               replace q23 := eq_true q23
               go_wp2
               go_meet
               case rel => exact ⟨_, (false), z15_, H', ⟨by have := HJ2.out; have := HK2.out; have := HJ16.out; first | omega | exact Nat.le_refl _⟩, ⟨z7_⟩, ⟨z1_⟩⟩
             ·rw [if_neg c22] at H
              exact absurd H (by simp)
            ·rw [if_neg c21] at H
             exact absurd H (by simp)
           case rest =>
            clear HC19
            try clear c1
            try clear p1
            try clear q1
            try clear hx1
            try clear c2
            try clear p2
            try clear q2
            try clear hx2
            try clear c3
            try clear p6
            try clear c7
            try clear c7b0
            try clear c7b1
            try clear c12
            try clear c13
            try clear c13b0
            try clear c14
            try clear c14b0
            try clear c15
            try clear c15b0
            try clear p16
            try clear q16
            try clear hx16
            try clear c18
            try clear c18b0
            try clear c18b1
            try clear c21
            try clear c21b0
            try clear c22
            try clear c22b0
            try clear p23
            try clear q23
            try clear hx23
            try clear c24
            try clear c24b0
            try clear c24b1
            try clear p1
            try clear p16
            try clear p2
            try clear p23
            try clear p6
            try clear q1
            try clear q16
            try clear q23
            obtain ⟨kq, x44_18, rfl, HA, HJ18, BK168, HB⟩ := hcut
            cases kq with
            | zero => exact absurd HA.out (by simp [pursuivantref10_Header.j3])
            | succ kj18 =>
             have H := HA.out
             clear HA
             simp only [pursuivantref10_Header.j3] at H
             by_cases c25 : x44_18 = true
             ·subst c25
              have H1 : (if 0 ≤ x6_2 then (if x6_2 < (a0_1.size : Int) then ((pursuivantref10_language.f (bt a0_1 x6_2)).bind fun t180 => (if t180 = true then (pursuivantref10_Header.l0 kj18 t169 a0_1 x5_16 (wrap64 (x6_2 - 1))) else (some false))) else (none)) else (none)) = some r := by rw [if_pos rfl] at H; exact H
              clear H
              have H := H1
              clear H1
              by_cases c26 : 0 ≤ x6_2
              ·rw [if_pos c26] at H
               have c26b0 : decide (0 ≤ x6_2) = true := decide_eq_true c26
               clear c26
               by_cases c27 : x6_2 < (a0_1.size : Int)
               ·rw [if_pos c27] at H
                have c27b0 : decide (x6_2 < (a0_1.size : Int)) = true := decide_eq_true c27
                clear c27
                replace H := Option.bind_eq_some_iff.mp H
                obtain ⟨t180, A290, H⟩ := H
                replace H : (if t180 = true then (pursuivantref10_Header.l0 kj18 t169 a0_1 x5_16 (wrap64 (x6_2 - 1))) else (some false)) = some r := H
                have A29 := Aside0.mk A290
                clear A290
                by_cases c30 : t180 = true
                ·subst c30
                 have H1 : (pursuivantref10_Header.l0 kj18 t169 a0_1 x5_16 (wrap64 (x6_2 - 1))) = some r := by rw [if_pos rfl] at H; exact H
                 clear H
                 have H := H1
                 clear H1
                 have H' := Aside0.mk H
                 clear H
                 have p28 : 0 ≤ (x6_2 : Int) := of_decide_eq_true z19_
                 have q28 : x6_2 < (a0_1.size : Int) := of_decide_eq_true z19_
                 have hx28 := bt_at a0_1 x6_2
                 replace p28 := eq_true p28
                 replace q28 := eq_true q28
                 go_wp2_with (first | ((with_reducible refine gate_callee (f := 72) rfl ?_); refine goesL_ (some 48) rfl rfl Tryd.func72 (by kernel_rfl) rfl #[.int .u8 (bt a0_1 x6_2)] rfl z2_ ?_; (with_reducible refine (pursuivantref10_language.calls (bt a0_1 x6_2) true _ ?gw66_ A29.out).mono ?_); (case gw66_ => first | exact hG_ | (refine GW.below hG_ ?_; first | (with_reducible exact HB.out) | (repeat (first | (with_reducible first | exact HB.out | apply below_alloc | apply pw_below_drewN | apply below_drew1 | apply below_drew | exact Below.refl _ _) | exact HB.out))) | (apply GW.drewN; exact hG_) | (apply GW.drew; exact hG_)); rintro e w' ⟨rfl, ⟨nd, rfl⟩⟩; refine ⟨_, rfl, ?_⟩))
                 go_roundg kj18
                 case measure => have := HJ2.out; have := HK2.out; have := HJ16.out; have := HJ18.out; omega
                 case rel => exact ⟨(x5_16), (wrap64 (x6_2 - 1)), z15_, z15_, H', ⟨by have := HJ2.out; have := HK2.out; have := HJ16.out; have := HJ18.out; omega⟩, ⟨z7_⟩, ⟨z1_⟩⟩
                ·replace c30 := Bool.eq_false_iff.mpr c30
                 subst c30
                 have H1 : (some false) = some r := by rw [if_neg (show ¬ (false = true) by decide)] at H; exact H
                 clear H
                 have H := H1
                 clear H1
                 obtain rfl := Option.some.inj H
                 have p28 : 0 ≤ (x6_2 : Int) := of_decide_eq_true z19_
                 have q28 : x6_2 < (a0_1.size : Int) := of_decide_eq_true z19_
                 have hx28 := bt_at a0_1 x6_2
                 replace p28 := eq_true p28
                 replace q28 := eq_true q28
                 go_wp2_with (first | ((with_reducible refine gate_callee (f := 72) rfl ?_); refine goesL_ (some 48) rfl rfl Tryd.func72 (by kernel_rfl) rfl #[.int .u8 (bt a0_1 x6_2)] rfl z2_ ?_; (with_reducible refine (pursuivantref10_language.calls (bt a0_1 x6_2) false _ ?gw67_ A29.out).mono ?_); (case gw67_ => first | exact hG_ | (refine GW.below hG_ ?_; first | (with_reducible exact HB.out) | (repeat (first | (with_reducible first | exact HB.out | apply below_alloc | apply pw_below_drewN | apply below_drew1 | apply below_drew | exact Below.refl _ _) | exact HB.out))) | (apply GW.drewN; exact hG_) | (apply GW.drew; exact hG_)); rintro e w' ⟨rfl, ⟨nd, rfl⟩⟩; refine ⟨_, rfl, ?_⟩))
                 go_ret
                 exact ⟨z4_, z1_⟩
               ·rw [if_neg c27] at H
                exact absurd H (by simp)
              ·rw [if_neg c26] at H
               exact absurd H (by simp)
             ·replace c25 := Bool.eq_false_iff.mpr c25
              subst c25
              have H1 : (if 0 ≤ x6_2 then (if x6_2 < (a0_1.size : Int) then ((pursuivantref10_unsafe.f (bt a0_1 x6_2)).bind fun t181 => (if t181 = true then (some false) else (pursuivantref10_Header.l0 kj18 t169 a0_1 x5_16 (wrap64 (x6_2 - 1))))) else (none)) else (none)) = some r := by rw [if_neg (show ¬ (false = true) by decide)] at H; exact H
              clear H
              have H := H1
              clear H1
              by_cases c31 : 0 ≤ x6_2
              ·rw [if_pos c31] at H
               have c31b0 : decide (0 ≤ x6_2) = true := decide_eq_true c31
               clear c31
               by_cases c32 : x6_2 < (a0_1.size : Int)
               ·rw [if_pos c32] at H
                have c32b0 : decide (x6_2 < (a0_1.size : Int)) = true := decide_eq_true c32
                clear c32
                replace H := Option.bind_eq_some_iff.mp H
                obtain ⟨t181, A340, H⟩ := H
                replace H : (if t181 = true then (some false) else (pursuivantref10_Header.l0 kj18 t169 a0_1 x5_16 (wrap64 (x6_2 - 1)))) = some r := H
                have A34 := Aside0.mk A340
                clear A340
                by_cases c35 : t181 = true
                ·subst c35
                 have H1 : (some false) = some r := by rw [if_pos rfl] at H; exact H
                 clear H
                 have H := H1
                 clear H1
                 obtain rfl := Option.some.inj H
                 have p33 : 0 ≤ (x6_2 : Int) := of_decide_eq_true z19_
                 have q33 : x6_2 < (a0_1.size : Int) := of_decide_eq_true z19_
                 have hx33 := bt_at a0_1 x6_2
                 replace p33 := eq_true p33
                 replace q33 := eq_true q33
                 go_wp2_with (first | ((with_reducible refine gate_callee (f := 73) rfl ?_); refine goesL_ (some 53) rfl rfl Tryd.func73 (by kernel_rfl) rfl #[.int .u8 (bt a0_1 x6_2)] rfl z2_ ?_; (with_reducible refine (pursuivantref10_unsafe.calls (bt a0_1 x6_2) true _ ?gw68_ A34.out).mono ?_); (case gw68_ => first | exact hG_ | (refine GW.below hG_ ?_; first | (with_reducible exact HB.out) | (repeat (first | (with_reducible first | exact HB.out | apply below_alloc | apply pw_below_drewN | apply below_drew1 | apply below_drew | exact Below.refl _ _) | exact HB.out))) | (apply GW.drewN; exact hG_) | (apply GW.drew; exact hG_)); rintro e w' ⟨rfl, ⟨nd, rfl⟩⟩; refine ⟨_, rfl, ?_⟩))
                 go_ret
                 exact ⟨z4_, z1_⟩
                ·replace c35 := Bool.eq_false_iff.mpr c35
                 subst c35
                 have H1 : (pursuivantref10_Header.l0 kj18 t169 a0_1 x5_16 (wrap64 (x6_2 - 1))) = some r := by rw [if_neg (show ¬ (false = true) by decide)] at H; exact H
                 clear H
                 have H := H1
                 clear H1
                 have H' := Aside0.mk H
                 clear H
                 have p33 : 0 ≤ (x6_2 : Int) := of_decide_eq_true z19_
                 have q33 : x6_2 < (a0_1.size : Int) := of_decide_eq_true z19_
                 have hx33 := bt_at a0_1 x6_2
                 replace p33 := eq_true p33
                 replace q33 := eq_true q33
                 go_wp2_with (first | ((with_reducible refine gate_callee (f := 73) rfl ?_); refine goesL_ (some 53) rfl rfl Tryd.func73 (by kernel_rfl) rfl #[.int .u8 (bt a0_1 x6_2)] rfl z2_ ?_; (with_reducible refine (pursuivantref10_unsafe.calls (bt a0_1 x6_2) false _ ?gw69_ A34.out).mono ?_); (case gw69_ => first | exact hG_ | (refine GW.below hG_ ?_; first | (with_reducible exact HB.out) | (repeat (first | (with_reducible first | exact HB.out | apply below_alloc | apply pw_below_drewN | apply below_drew1 | apply below_drew | exact Below.refl _ _) | exact HB.out))) | (apply GW.drewN; exact hG_) | (apply GW.drew; exact hG_)); rintro e w' ⟨rfl, ⟨nd, rfl⟩⟩; refine ⟨_, rfl, ?_⟩))
                 go_roundg kj18
                 case measure => have := HJ2.out; have := HK2.out; have := HJ16.out; have := HJ18.out; omega
                 case rel => exact ⟨(x5_16), (wrap64 (x6_2 - 1)), z15_, z15_, H', ⟨by have := HJ2.out; have := HK2.out; have := HJ16.out; have := HJ18.out; omega⟩, ⟨z7_⟩, ⟨z1_⟩⟩
               ·rw [if_neg c32] at H
                exact absurd H (by simp)
              ·rw [if_neg c31] at H
               exact absurd H (by simp)
        ·rw [if_neg c15] at H
         exact absurd H (by simp)
       ·rw [if_neg c14] at H
        exact absurd H (by simp)
      ·rw [if_neg c13] at H
       have c13b0 : decide (0 ≤ x6_2) = false := decide_eq_false c13
       clear c13
       by_cases c36 : t169.toList = ([99, 111, 110, 116, 101, 110, 116, 45, 116, 121, 112, 101] : List UInt8)
       ·rw [if_pos c36] at H
        have c36b0 : (t169.toList == ([99, 111, 110, 116, 101, 110, 116, 45, 116, 121, 112, 101] : List UInt8)) = true := beq_iff_eq.mpr c36
        have c36b1 : (t169.toList != ([99, 111, 110, 116, 101, 110, 116, 45, 116, 121, 112, 101] : List UInt8)) = false := bne_eq_false_iff_eq.mpr c36
        clear c36
        by_cases c37 : 0 ≤ x5_2
        ·rw [if_pos c37] at H
         have c37b0 := eq_true c37
         have c37b1 : decide (0 ≤ x5_2) = true := decide_eq_true c37
         clear c37
         by_cases c38 : x5_2 ≤ (a0_1.size : Int)
         ·rw [if_pos c38] at H
          have c38b0 := eq_true c38
          have c38b1 : decide (x5_2 ≤ (a0_1.size : Int)) = true := decide_eq_true c38
          clear c38
          replace H := Option.bind_eq_some_iff.mp H
          obtain ⟨t174, A390, H⟩ := H
          replace H : ((pursuivantref04_Lower.f k2 t174).bind fun t175 => ((pursuivantref10_among.f k2 t175 (([(⟨#[116, 101, 120, 116, 47, 112, 108, 97, 105, 110]⟩ : ByteArray), (⟨#[109, 117, 108, 116, 105, 112, 97, 114, 116, 47, 102, 111, 114, 109, 45, 100, 97, 116, 97]⟩ : ByteArray), (⟨#[97, 112, 112, 108, 105, 99, 97, 116, 105, 111, 110, 47, 120, 45, 119, 119, 119, 45, 102, 111, 114, 109, 45, 117, 114, 108, 101, 110, 99, 111, 100, 101, 100]⟩ : ByteArray)] : List ByteArray))).bind fun t179 => (some t179))) = some r := H
          have A39 := Aside0.mk A390
          clear A390
          replace H := Option.bind_eq_some_iff.mp H
          obtain ⟨t175, A400, H⟩ := H
          replace H : ((pursuivantref10_among.f k2 t175 (([(⟨#[116, 101, 120, 116, 47, 112, 108, 97, 105, 110]⟩ : ByteArray), (⟨#[109, 117, 108, 116, 105, 112, 97, 114, 116, 47, 102, 111, 114, 109, 45, 100, 97, 116, 97]⟩ : ByteArray), (⟨#[97, 112, 112, 108, 105, 99, 97, 116, 105, 111, 110, 47, 120, 45, 119, 119, 119, 45, 102, 111, 114, 109, 45, 117, 114, 108, 101, 110, 99, 111, 100, 101, 100]⟩ : ByteArray)] : List ByteArray))).bind fun t179 => (some t179)) = some r := H
          have A40 := Aside0.mk A400
          clear A400
          obtain ⟨y176, hy176⟩ : ∃ y_ : List ByteArray, y_ = (([(⟨#[116, 101, 120, 116, 47, 112, 108, 97, 105, 110]⟩ : ByteArray), (⟨#[109, 117, 108, 116, 105, 112, 97, 114, 116, 47, 102, 111, 114, 109, 45, 100, 97, 116, 97]⟩ : ByteArray), (⟨#[97, 112, 112, 108, 105, 99, 97, 116, 105, 111, 110, 47, 120, 45, 119, 119, 119, 45, 102, 111, 114, 109, 45, 117, 114, 108, 101, 110, 99, 111, 100, 101, 100]⟩ : ByteArray)] : List ByteArray)) := ⟨_, rfl⟩
          replace H : ((pursuivantref10_among.f k2 t175 y176).bind fun t179 => (some t179)) = some r := by first | (rw [hy176]; with_reducible exact H) | (have H2_ := (Option.bind_some _ _).symm.trans H; rw [hy176]; with_reducible exact H2_) | (have H2_ := (Option.bind_some _ _).symm.trans H; with_reducible exact H2_) | with_reducible exact H | (rw [hy176]; exact H) | exact H
          have Ny176 := Aside0.mk hy176
          clear hy176
          replace H := Option.bind_eq_some_iff.mp H
          obtain ⟨t179, A410, H⟩ := H
          replace H : (some t179) = some r := H
          have A41 := Aside0.mk A410
          clear A410
          obtain rfl := Option.some.inj H
          go_wp2_with (first | (go_at_call 74; (fail_if_success (have z_ := U_19)); have U_19 := trivial; (with_reducible refine (pursuivantref04_Trim.calls k2 (a0_1.extract 0 (x5_2 : Int).toNat) t174 _ ?gw70_ A39.out).mono ?_); (case gw70_ => first | exact hG_ | (refine GW.below hG_ ?_; first | (with_reducible exact HB.out) | (repeat (first | (with_reducible first | exact HB.out | apply below_alloc | apply pw_below_drewN | apply below_drew1 | apply below_drew | exact Below.refl _ _) | exact HB.out))) | (apply GW.drewN; exact hG_) | (apply GW.drew; exact hG_)); rintro e w' ⟨rfl, ⟨nd, rfl⟩⟩) | (go_at_call 71; (fail_if_success (have z_ := U_20)); have U_20 := trivial; (with_reducible refine (pursuivantref04_Lower.calls k2 t174 t175 _ ?gw71_ A40.out).mono ?_); (case gw71_ => first | exact hG_ | (refine GW.below hG_ ?_; first | (with_reducible exact HB.out) | (repeat (first | (with_reducible first | exact HB.out | apply below_alloc | apply pw_below_drewN | apply below_drew1 | apply below_drew | exact Below.refl _ _) | exact HB.out))) | (apply GW.drewN; exact hG_) | (apply GW.drew; exact hG_)); rintro e w42 ⟨rfl, hb⟩; have n0_ := Aside0.mk (blk_below (g := gb168) (o := .cells #[.string a0_0, .string a0_1] 31 (0, 0)) z7_ hb); have n1_ := Aside0.mk (below_step z1_ hb); clear BK168; clear HB; have BK168 := n0_; have HB := n1_; clear n0_ n1_; (try clear hb); (try clear hb2); (try clear hk); (try clear hi)) | ((with_reducible refine gate_dst (N := 62) rfl ?_); (try (refine gate_guard (by rfl) ?_; dsimp only)); refine Kd.R_lit Kd.string _ 9 ?hg (N := 62) ?hd (xs := ([(⟨#[116, 101, 120, 116, 47, 112, 108, 97, 105, 110]⟩ : ByteArray), (⟨#[109, 117, 108, 116, 105, 112, 97, 114, 116, 47, 102, 111, 114, 109, 45, 100, 97, 116, 97]⟩ : ByteArray), (⟨#[97, 112, 112, 108, 105, 99, 97, 116, 105, 111, 110, 47, 120, 45, 119, 119, 119, 45, 102, 111, 114, 109, 45, 117, 114, 108, 101, 110, 99, 111, 100, 101, 100]⟩ : ByteArray)] : List ByteArray)) (inner := [.string (⟨#[116, 101, 120, 116, 47, 112, 108, 97, 105, 110]⟩ : ByteArray), .string (⟨#[109, 117, 108, 116, 105, 112, 97, 114, 116, 47, 102, 111, 114, 109, 45, 100, 97, 116, 97]⟩ : ByteArray), .string (⟨#[97, 112, 112, 108, 105, 99, 97, 116, 105, 111, 110, 47, 120, 45, 119, 119, 119, 45, 102, 111, 114, 109, 45, 117, 114, 108, 101, 110, 99, 111, 100, 101, 100]⟩ : ByteArray)]) (ok := fun _ => True) (okp := fun _ => True) ?hr ?hp (fun _ hk => hk) trivial (Below.refl _ _) (Nat.le_refl _) (by simp) ?_; (case hd => rfl); (case hg => rfl); (case hr => first | (go_simp; done) | (go_simp; rfl)); (case hp => exact (Reps.one (show Kd.M Kd.string _ _ _ (⟨#[116, 101, 120, 116, 47, 112, 108, 97, 105, 110]⟩ : ByteArray) [.string (⟨#[116, 101, 120, 116, 47, 112, 108, 97, 105, 110]⟩ : ByteArray)] from rfl) (Reps.one (show Kd.M Kd.string _ _ _ (⟨#[109, 117, 108, 116, 105, 112, 97, 114, 116, 47, 102, 111, 114, 109, 45, 100, 97, 116, 97]⟩ : ByteArray) [.string (⟨#[109, 117, 108, 116, 105, 112, 97, 114, 116, 47, 102, 111, 114, 109, 45, 100, 97, 116, 97]⟩ : ByteArray)] from rfl) (Reps.one (show Kd.M Kd.string _ _ _ (⟨#[97, 112, 112, 108, 105, 99, 97, 116, 105, 111, 110, 47, 120, 45, 119, 119, 119, 45, 102, 111, 114, 109, 45, 117, 114, 108, 101, 110, 99, 111, 100, 101, 100]⟩ : ByteArray) [.string (⟨#[97, 112, 112, 108, 105, 99, 97, 116, 105, 111, 110, 47, 120, 45, 119, 119, 119, 45, 102, 111, 114, 109, 45, 117, 114, 108, 101, 110, 99, 111, 100, 101, 100]⟩ : ByteArray)] from rfl) (Reps.none _ _))))); intro v177 w43 ho44 hb hg_ hnew_; clear hg_ hnew_; (first | rw [← Ny176.out] at ho44 | (simp only [Int.reduceToNat] at ho44; rw [← Ny176.out] at ho44)); have n0_ := Aside0.mk (Kd.R_lower ho44 (below_size z1_)); have n1_ := Aside0.mk (blk_below (g := gb168) (o := .cells #[.string a0_0, .string a0_1] 31 (0, 0)) z7_ hb); have n2_ := Aside0.mk (below_step z1_ hb); clear BK168; clear HB; have HO178 := n0_; have BK168 := n1_; have HB := n2_; clear n0_ n1_ n2_; clear hb ho44; obtain ⟨Ao45, co45, eo45⟩ := Kd.R_slice HO178.out; subst eo45) | (go_at_call 66; (fail_if_success (have z_ := U_21)); have U_21 := trivial; (with_reducible refine (pursuivantref10_among.calls k2 t175 _ _ y176 t179 _ ?gw72_ ?side1 ?side2 A41.out).mono ?_); (case gw72_ => first | exact hG_ | (refine GW.below hG_ ?_; first | (with_reducible exact HB.out) | (repeat (first | (with_reducible first | exact HB.out | apply below_alloc | apply pw_below_drewN | apply below_drew1 | apply below_drew | exact Below.refl _ _) | exact HB.out))) | (apply GW.drewN; exact hG_) | (apply GW.drew; exact hG_)); (case side1 => repeat (first | exact (Kd.R_reads' HO178.out).2.2 | (with_reducible refine Kd.C_alloc ?_ _) | (with_reducible refine Kd.C_drewN ?_ _) | (with_reducible refine Kd.C_drew ?_))); (case side2 => exact (Kd.R_reads' HO178.out).2.1); rintro e w' ⟨rfl, ⟨nd, rfl⟩⟩))
          go_ret
          exact ⟨z4_, z1_⟩
         ·rw [if_neg c38] at H
          exact absurd H (by simp)
        ·rw [if_neg c37] at H
         exact absurd H (by simp)
       ·rw [if_neg c36] at H
        have c36b0 : (t169.toList == ([99, 111, 110, 116, 101, 110, 116, 45, 116, 121, 112, 101] : List UInt8)) = false := beq_eq_false_iff_ne.mpr c36
        have c36b1 : (t169.toList != ([99, 111, 110, 116, 101, 110, 116, 45, 116, 121, 112, 101] : List UInt8)) = true := bne_iff_ne.mpr c36
        obtain rfl := Option.some.inj H
        go_wp2
        go_ret
        exact ⟨z4_, z1_⟩

/-! ### pursuivantref10_Forbidden: function 34 -/
/-! ### pursuivantref06_Port: function 46 -/
/-! ### pursuivantref08_Nobody: function 88 -/
end Go.Proofs.YtindkgcbglonhaaDoor.Hand
