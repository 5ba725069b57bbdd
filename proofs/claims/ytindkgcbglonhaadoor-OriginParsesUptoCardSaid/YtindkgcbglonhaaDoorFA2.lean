/- What each Go function here computes, and that its call computes it, over contracts proved by hand (written by this project's xprint.py, which drives the kit's print). -/
import Derived.Test.YtindkgcbglonhaaDoorZ
import Derived.Test.YtindkgcbglonhaaDoorK
import Derived.Test.YtindkgcbglonhaaDoorLib
import Derived.Test.YtindkgcbglonhaaDoorLow
import Derived.Test.YtindkgcbglonhaaDoorFA1
namespace Go.Proofs.YtindkgcbglonhaaDoor.Hand
open Go.RowKit Go.Proofs.YtindkgcbglonhaaDoorW.PrintWords Go.Proofs.YtindkgcbglonhaaDoorW.PrintLast Go.Proofs.YtindkgcbglonhaaDoorW.PrintMore
attribute [local go_sem] max2_int min2_int max_two min_two max_three min_three max_four min_four   -- for this text's walks alone
set_option linter.unusedVariables false
set_option linter.unusedSimpArgs false

def pursuivantref04_Lower.l0 : Nat → ByteArray → List Int → Int → Option (ByteArray)
 | 0, _, _, _ => none
 | k + 1, x0, x3, x4 => if x4 < (x0.size : Int) then (if 0 ≤ x4 then (if (bt x0 x4) ≥ 65 then (if (bt x0 x4) ≤ 90 then (if x3.length < 140737488355328 then (pursuivantref04_Lower.l0 k x0 (x3 ++ [((bt x0 x4) + 32) % 256]) (wrap64 (x4 + 1))) else (none)) else (if x3.length < 140737488355328 then (pursuivantref04_Lower.l0 k x0 (x3 ++ [bt x0 x4]) (wrap64 (x4 + 1))) else (none))) else (if x3.length < 140737488355328 then (pursuivantref04_Lower.l0 k x0 (x3 ++ [bt x0 x4]) (wrap64 (x4 + 1))) else (none))) else (none)) else (some (strOfNums x3))
def pursuivantref04_Lower.f (k : Nat) (a0 : ByteArray) : Option (ByteArray) := pursuivantref04_Lower.l0 k a0 (([] : List Int)) 0
set_option maxHeartbeats 8000000 in
set_option maxRecDepth 100000 in
theorem pursuivantref04_Lower.calls (k : Nat) (a0 r : ByteArray) (w : World) (hG_ : GW w) (h : pursuivantref04_Lower.f k a0 = some r) :
  Calls Tryd.prog 71 #[.string a0] w fun e w' => e = .returned (.string r) ∧ Below w.heap.size w w' := by
 have HB := Aside0.mk (Below.refl w.heap.size w)
 have H : (pursuivantref04_Lower.l0 k a0 (([] : List Int)) 0) = some r := h
 clear h
 obtain ⟨y156, hy156⟩ : ∃ y_ : List Int, y_ = (([] : List Int)) := ⟨_, rfl⟩
 replace H : (pursuivantref04_Lower.l0 k a0 y156 0) = some r := by first | (rw [hy156]; with_reducible exact H) | (have H2_ := (Option.bind_some _ _).symm.trans H; rw [hy156]; with_reducible exact H2_) | (have H2_ := (Option.bind_some _ _).symm.trans H; with_reducible exact H2_) | with_reducible exact H | (rw [hy156]; exact H) | exact H
 have Ny156 := Aside0.mk hy156; clear hy156
 have H' := Aside0.mk H
 clear H
 go_enter Tryd.func71, Tryd.ntmps71
 go_wp2_with (first | ((with_reducible refine gate_dst (N := 6) rfl ?_); refine Kd.R_lit (Kd.int .u8) _ 5 ?hg (N := 6) ?hd (xs := ([] : List Int)) (inner := []) (ok := fun _ => True) (okp := fun _ => True) ?hr ?hp (fun _ hk => hk) trivial (Below.refl _ _) (Nat.le_refl _) (by simp) ?_; (case hd => rfl); (case hg => rfl); (case hr => first | (go_simp; done) | (go_simp; rfl)); (case hp => exact (Reps.none _ _)); intro v157 w2 ho3 hb hg_ hnew_; clear hg_ hnew_; (first | rw [← Ny156.out] at ho3 | (simp only [Int.reduceToNat] at ho3; rw [← Ny156.out] at ho3)); have n0_ := Aside0.mk (Kd.R_lower ho3 (below_size z39_)); have n1_ := Aside0.mk (below_step z39_ hb); clear HB; have HO158 := n0_; have HB := n1_; clear n0_ n1_; clear hb ho3))
 go_loopg [3, 4] k (fun kq v3 v4 w' => ∃ (x3_1 : List Int) (x4_1 : Int), v4 = .int .i64 x4_1 ∧ Aside0 (pursuivantref04_Lower.l0 kq a0 x3_1 x4_1 = some r) ∧ Aside0 (kq ≤ k) ∧ Aside0 (Kd.R (Kd.int .u8) 5 w' w.heap.size (fun _ => True) v3 x3_1) ∧ Aside0 (Below w.heap.size w w'))
 case atStart => exact ⟨(y156), (0), z62_, H', ⟨Nat.le_refl _⟩, ⟨by (with_reducible repeat (first | apply Kd.R_alloc | apply Kd.R_drewN | apply Kd.R_drew)); exact HO158.out⟩, ⟨z39_⟩⟩
 case round =>
  clear H'; (try clear p2)
  obtain ⟨x3_1, x4_1, rfl, HA, HK1, HO_3, HB⟩ := hrel
  cases gk with
  | zero => exact absurd HA.out (by simp [pursuivantref04_Lower.l0])
  | succ k1 =>
   have H := HA.out
   clear HA
   simp only [pursuivantref04_Lower.l0] at H
   by_cases c4 : x4_1 < (a0.size : Int)
   ·rw [if_pos c4] at H
    have c4b0 : decide (x4_1 < (a0.size : Int)) = true := decide_eq_true c4; clear c4
    by_cases c5 : 0 ≤ x4_1
    ·rw [if_pos c5] at H
     have c5b0 : decide (0 ≤ x4_1) = true := decide_eq_true c5; clear c5
     by_cases c7 : (bt a0 x4_1) ≥ 65
     ·rw [if_pos c7] at H
      have c7b0 : decide (65 ≤ (bt a0 x4_1)) = true := decide_eq_true c7; clear c7
      by_cases c8 : (bt a0 x4_1) ≤ 90
      ·rw [if_pos c8] at H
       have c8b0 : decide ((bt a0 x4_1) ≤ 90) = true := decide_eq_true c8; clear c8
       by_cases c9 : x3_1.length < 140737488355328
       ·rw [if_pos c9] at H
        have LMc9 := Aside0.mk c9; clear c9
        obtain ⟨y159, hy159⟩ : ∃ y_ : List Int, y_ = (x3_1 ++ [((bt a0 x4_1) + 32) % 256]) := ⟨_, rfl⟩
        replace H : (pursuivantref04_Lower.l0 k1 a0 y159 (wrap64 (x4_1 + 1))) = some r := by first | (rw [hy159]; with_reducible exact H) | (have H2_ := (Option.bind_some _ _).symm.trans H; rw [hy159]; with_reducible exact H2_) | (have H2_ := (Option.bind_some _ _).symm.trans H; with_reducible exact H2_) | with_reducible exact H | (rw [hy159]; exact H) | exact H
        have Ny159 := Aside0.mk hy159; clear hy159
        have H' := Aside0.mk H
        clear H
        have p6 : 0 ≤ (x4_1 : Int) := of_decide_eq_true z66_
        have q6 : x4_1 < (a0.size : Int) := of_decide_eq_true z66_
        have hx6 := bt_at a0 x4_1
        replace p6 := eq_true p6
        replace q6 := eq_true q6
        go_wp2_with (first | ((with_reducible refine gate_builtin (b := .append) (xs := #[.tmp 24, .tmp 26]) rfl ?_); at_builtin; refine Kd.R_append (Kd.int .u8) (w0 := w) w.heap.size rfl (.tmp 24) (.tmp 26) 84 5 (.int .u8 0) 1 rfl Tryd.underlying84 info5 rfl (by decide) (by omega) u3 x3_1 (((bt a0 x4_1) + 32) % 256) [.int .u8 (((bt a0 x4_1) + 32) % 256)] (fun _ => True) (fun _ => False) rfl rfl ?aP (fun _ hk => hk.elim) ?aF ?aO ?aB ?aS ?aL ?_; (case aP => exact rfl); (case aB => exact z39_); (case aF => exact (fun _ _ => trivial)); (case aO => exact z60_); (case aS => exact (below_size z39_)); (case aL => have := LMc9.out; omega); intro v160 w10 ho hb hg hat; rw [← Ny159.out] at ho; have n0_ := Aside0.mk (hb); have n1_ := Aside0.mk (ho); clear HB; clear HO_3; have HB := n0_; have HO161 := n1_; clear n0_ n1_; clear ho hb hg hat))
        go_roundg k1
        case measure => have := HK1.out; omega
        case rel => exact ⟨(y159), (wrap64 (x4_1 + 1)), z62_, H', ⟨z69_⟩, ⟨by (with_reducible repeat (first | apply Kd.R_alloc | apply Kd.R_drewN | apply Kd.R_drew)); exact HO161.out⟩, ⟨z39_⟩⟩
       ·rw [if_neg c9] at H
        exact absurd H (by simp)
      ·rw [if_neg c8] at H
       have c8b0 : decide ((bt a0 x4_1) ≤ 90) = false := decide_eq_false c8; clear c8
       by_cases c11 : x3_1.length < 140737488355328
       ·rw [if_pos c11] at H
        have LMc11 := Aside0.mk c11; clear c11
        obtain ⟨y162, hy162⟩ : ∃ y_ : List Int, y_ = (x3_1 ++ [bt a0 x4_1]) := ⟨_, rfl⟩
        replace H : (pursuivantref04_Lower.l0 k1 a0 y162 (wrap64 (x4_1 + 1))) = some r := by first | (rw [hy162]; with_reducible exact H) | (have H2_ := (Option.bind_some _ _).symm.trans H; rw [hy162]; with_reducible exact H2_) | (have H2_ := (Option.bind_some _ _).symm.trans H; with_reducible exact H2_) | with_reducible exact H | (rw [hy162]; exact H) | exact H
        have Ny162 := Aside0.mk hy162; clear hy162
        have H' := Aside0.mk H
        clear H
        have p6 : 0 ≤ (x4_1 : Int) := of_decide_eq_true z66_
        have q6 : x4_1 < (a0.size : Int) := of_decide_eq_true z66_
        have hx6 := bt_at a0 x4_1
        replace p6 := eq_true p6
        replace q6 := eq_true q6
        go_wp2_with (first | ((with_reducible refine gate_builtin (b := .append) (xs := #[.tmp 24, .tmp 26]) rfl ?_); at_builtin; refine Kd.R_append (Kd.int .u8) (w0 := w) w.heap.size rfl (.tmp 24) (.tmp 26) 84 5 (.int .u8 0) 1 rfl Tryd.underlying84 info5 rfl (by decide) (by omega) u3 x3_1 (bt a0 x4_1) [.int .u8 (bt a0 x4_1)] (fun _ => True) (fun _ => False) rfl rfl ?aP (fun _ hk => hk.elim) ?aF ?aO ?aB ?aS ?aL ?_; (case aP => exact rfl); (case aB => exact z39_); (case aF => exact (fun _ _ => trivial)); (case aO => exact z60_); (case aS => exact (below_size z39_)); (case aL => have := LMc11.out; omega); intro v163 w12 ho hb hg hat; rw [← Ny162.out] at ho; have n0_ := Aside0.mk (hb); have n1_ := Aside0.mk (ho); clear HB; clear HO_3; have HB := n0_; have HO164 := n1_; clear n0_ n1_; clear ho hb hg hat))
        go_roundg k1
        case measure => have := HK1.out; omega
        case rel => exact ⟨(y162), (wrap64 (x4_1 + 1)), z62_, H', ⟨z69_⟩, ⟨by (with_reducible repeat (first | apply Kd.R_alloc | apply Kd.R_drewN | apply Kd.R_drew)); exact HO164.out⟩, ⟨z39_⟩⟩
       ·rw [if_neg c11] at H
        exact absurd H (by simp)
     ·rw [if_neg c7] at H
      have c7b0 : decide (65 ≤ (bt a0 x4_1)) = false := decide_eq_false c7; clear c7
      by_cases c13 : x3_1.length < 140737488355328
      ·rw [if_pos c13] at H
       have LMc13 := Aside0.mk c13; clear c13
       obtain ⟨y165, hy165⟩ : ∃ y_ : List Int, y_ = (x3_1 ++ [bt a0 x4_1]) := ⟨_, rfl⟩
       replace H : (pursuivantref04_Lower.l0 k1 a0 y165 (wrap64 (x4_1 + 1))) = some r := by first | (rw [hy165]; with_reducible exact H) | (have H2_ := (Option.bind_some _ _).symm.trans H; rw [hy165]; with_reducible exact H2_) | (have H2_ := (Option.bind_some _ _).symm.trans H; with_reducible exact H2_) | with_reducible exact H | (rw [hy165]; exact H) | exact H
       have Ny165 := Aside0.mk hy165; clear hy165
       have H' := Aside0.mk H
       clear H
       have p6 : 0 ≤ (x4_1 : Int) := of_decide_eq_true z66_
       have q6 : x4_1 < (a0.size : Int) := of_decide_eq_true z66_
       have hx6 := bt_at a0 x4_1
       replace p6 := eq_true p6
       replace q6 := eq_true q6
       go_wp2_with (first | ((with_reducible refine gate_builtin (b := .append) (xs := #[.tmp 24, .tmp 26]) rfl ?_); at_builtin; refine Kd.R_append (Kd.int .u8) (w0 := w) w.heap.size rfl (.tmp 24) (.tmp 26) 84 5 (.int .u8 0) 1 rfl Tryd.underlying84 info5 rfl (by decide) (by omega) u3 x3_1 (bt a0 x4_1) [.int .u8 (bt a0 x4_1)] (fun _ => True) (fun _ => False) rfl rfl ?aP (fun _ hk => hk.elim) ?aF ?aO ?aB ?aS ?aL ?_; (case aP => exact rfl); (case aB => exact z39_); (case aF => exact (fun _ _ => trivial)); (case aO => exact z60_); (case aS => exact (below_size z39_)); (case aL => have := LMc13.out; omega); intro v166 w14 ho hb hg hat; rw [← Ny165.out] at ho; have n0_ := Aside0.mk (hb); have n1_ := Aside0.mk (ho); clear HB; clear HO_3; have HB := n0_; have HO167 := n1_; clear n0_ n1_; clear ho hb hg hat))
       go_roundg k1
       case measure => have := HK1.out; omega
       case rel => exact ⟨(y165), (wrap64 (x4_1 + 1)), z62_, H', ⟨z69_⟩, ⟨by (with_reducible repeat (first | apply Kd.R_alloc | apply Kd.R_drewN | apply Kd.R_drew)); exact HO167.out⟩, ⟨z39_⟩⟩
      ·rw [if_neg c13] at H
       exact absurd H (by simp)
    ·rw [if_neg c5] at H
     exact absurd H (by simp)
   ·rw [if_neg c4] at H
    have c4b0 : decide (x4_1 < (a0.size : Int)) = false := decide_eq_false c4; clear c4
    obtain rfl := Option.some.inj H
    have hcv15 := own_string (P := Tryd.prog) Tryd.underlying84 Tryd.underlying5 Tryd.underlying9 (Kd.own_of_R HO_3.out)
    go_wp2
    go_ret
    exact ⟨z40_, z39_⟩

def pursuivantref06_Port.f (a0_0 a0_1 a0_2 : ByteArray) (a0_3 : Int) (a0_4 : ByteArray) (a0_5 : Bool) (a0_6 : ByteArray) (a0_7 : Bool) (a0_8 : ByteArray) : Option (Int) := if a0_3 = 0 then ((pursuivantref05_Default.f a0_0).bind fun t200 => (some t200)) else (some a0_3)
set_option maxHeartbeats 8000000 in
set_option maxRecDepth 100000 in
theorem pursuivantref06_Port.calls (a0_0 a0_1 a0_2 : ByteArray) (a0_3 : Int) (a0_4 : ByteArray) (a0_5 : Bool) (a0_6 : ByteArray) (a0_7 : Bool) (a0_8 : ByteArray) (r : Int) (w : World) (hG_ : GW w) (h : pursuivantref06_Port.f a0_0 a0_1 a0_2 a0_3 a0_4 a0_5 a0_6 a0_7 a0_8 = some r) :
  Calls Tryd.prog 46 #[.agg #[.string a0_0, .string a0_1, .string a0_2, .int .i64 a0_3, .string a0_4, .bool a0_5, .string a0_6, .bool a0_7, .string a0_8]] w fun e w' => e = .returned (.int .i64 r) ∧ Below w.heap.size w w' := by
 have hu39 := Tryd.underlying39
 have HB := Aside0.mk (Below.refl w.heap.size w)
 have H : (if a0_3 = 0 then ((pursuivantref05_Default.f a0_0).bind fun t200 => (some t200)) else (some a0_3)) = some r := h
 clear h
 by_cases c2 : a0_3 = 0
 ·rw [if_pos c2] at H
  have c2b0 : (a0_3 == 0) = true := beq_iff_eq.mpr c2
  have c2b1 : (a0_3 != 0) = false := bne_eq_false_iff_eq.mpr c2
  clear c2
  replace H := Option.bind_eq_some_iff.mp H
  obtain ⟨t200, A30, H⟩ := H
  replace H : (some t200) = some r := H
  have A3 := Aside0.mk A30; clear A30
  obtain rfl := Option.some.inj H
  go_enter Tryd.func46, Tryd.ntmps46
  go_wp2_with (first | ((with_reducible refine gate_dst (N := 1) rfl ?_); refine box_event ?hg (N := 1) ?hd (cs := #[.string a0_0, .string a0_1, .string a0_2, .int .i64 a0_3, .string a0_4, .bool a0_5, .string a0_6, .bool a0_7, .string a0_8]) (t := 39) ?hr ?_; (case hd => rfl); (case hg => rfl); (case hr => first | (go_simp; done) | (go_simp; rfl)); intro gb199 hg w4 hbox hb; have n0_ := Aside0.mk (below_step z39_ hb); have n1_ := Aside0.mk (hbox); have n2_ := Aside0.mk ((by rw [hg]; exact (below_size z39_) : w.heap.size ≤ gb199)); have n3_ := Aside0.mk ((by rw [hg]; exact (below_size z39_) : w.heap.size ≤ gb199)); clear HB; have HB := n0_; have BK199 := n1_; have GW199 := n2_; have GE199 := n3_; clear n0_ n1_ n2_ n3_; clear hb hbox hg; have hcz5_0 : w4.cell? ⟨gb199, 0, none⟩ = some (.string a0_0) := (blk_cell BK199.out 0).trans rfl; have hcz5_1 : w4.cell? ⟨gb199, 1, none⟩ = some (.string a0_1) := (blk_cell BK199.out 1).trans rfl; have hcz5_2 : w4.cell? ⟨gb199, 2, none⟩ = some (.string a0_2) := (blk_cell BK199.out 2).trans rfl; have hcz5_3 : w4.cell? ⟨gb199, 3, none⟩ = some (.int .i64 a0_3) := (blk_cell BK199.out 3).trans rfl; have hcz5_4 : w4.cell? ⟨gb199, 4, none⟩ = some (.string a0_4) := (blk_cell BK199.out 4).trans rfl; have hcz5_5 : w4.cell? ⟨gb199, 5, none⟩ = some (.bool a0_5) := (blk_cell BK199.out 5).trans rfl; have hcz5_6 : w4.cell? ⟨gb199, 6, none⟩ = some (.string a0_6) := (blk_cell BK199.out 6).trans rfl; have hcz5_7 : w4.cell? ⟨gb199, 7, none⟩ = some (.bool a0_7) := (blk_cell BK199.out 7).trans rfl; have hcz5_8 : w4.cell? ⟨gb199, 8, none⟩ = some (.string a0_8) := (blk_cell BK199.out 8).trans rfl; have hfz5_0 := blk_frozen BK199.out 0; have hfz5_1 := blk_frozen BK199.out 1; have hfz5_2 := blk_frozen BK199.out 2; have hfz5_3 := blk_frozen BK199.out 3; have hfz5_4 := blk_frozen BK199.out 4; have hfz5_5 := blk_frozen BK199.out 5; have hfz5_6 := blk_frozen BK199.out 6; have hfz5_7 := blk_frozen BK199.out 7; have hfz5_8 := blk_frozen BK199.out 8) | ((with_reducible refine gate_callee (f := 23) rfl ?_); refine goesL_ (some 8) rfl rfl Tryd.func23 (by kernel_rfl) rfl #[.string a0_0] rfl z38_ ?_; (with_reducible refine (pursuivantref05_Default.calls a0_0 t200 _ ?gw84_ A3.out).mono ?_); (case gw84_ => first | exact hG_ | (refine GW.below hG_ ?_; first | (with_reducible exact HB.out) | (repeat (first | (with_reducible first | exact HB.out | apply below_alloc | apply pw_below_drewN | apply below_drew1 | apply below_drew | exact Below.refl _ _) | exact HB.out))) | (apply GW.drewN; exact hG_) | (apply GW.drew; exact hG_)); rintro e w' ⟨rfl, ⟨nd, rfl⟩⟩; refine ⟨_, rfl, ?_⟩))
  go_ret
  exact ⟨z40_, by repeat (first | (with_reducible first | exact HB.out | apply below_alloc | apply pw_below_drewN | apply below_drew1 | refine below_set ?_ GE199.out) | exact HB.out)⟩
 ·rw [if_neg c2] at H
  have c2b0 : (a0_3 == 0) = false := beq_eq_false_iff_ne.mpr c2
  have c2b1 : (a0_3 != 0) = true := bne_iff_ne.mpr c2
  obtain rfl := Option.some.inj H
  go_enter Tryd.func46, Tryd.ntmps46
  go_wp2_with (first | ((with_reducible refine gate_dst (N := 1) rfl ?_); refine box_event ?hg (N := 1) ?hd (cs := #[.string a0_0, .string a0_1, .string a0_2, .int .i64 a0_3, .string a0_4, .bool a0_5, .string a0_6, .bool a0_7, .string a0_8]) (t := 39) ?hr ?_; (case hd => rfl); (case hg => rfl); (case hr => first | (go_simp; done) | (go_simp; rfl)); intro gb199 hg w6 hbox hb; have n0_ := Aside0.mk (below_step z39_ hb); have n1_ := Aside0.mk (hbox); have n2_ := Aside0.mk ((by rw [hg]; exact (below_size z39_) : w.heap.size ≤ gb199)); have n3_ := Aside0.mk ((by rw [hg]; exact (below_size z39_) : w.heap.size ≤ gb199)); clear HB; have HB := n0_; have BK199 := n1_; have GW199 := n2_; have GE199 := n3_; clear n0_ n1_ n2_ n3_; clear hb hbox hg; have hcz7_0 : w6.cell? ⟨gb199, 0, none⟩ = some (.string a0_0) := (blk_cell BK199.out 0).trans rfl; have hcz7_1 : w6.cell? ⟨gb199, 1, none⟩ = some (.string a0_1) := (blk_cell BK199.out 1).trans rfl; have hcz7_2 : w6.cell? ⟨gb199, 2, none⟩ = some (.string a0_2) := (blk_cell BK199.out 2).trans rfl; have hcz7_3 : w6.cell? ⟨gb199, 3, none⟩ = some (.int .i64 a0_3) := (blk_cell BK199.out 3).trans rfl; have hcz7_4 : w6.cell? ⟨gb199, 4, none⟩ = some (.string a0_4) := (blk_cell BK199.out 4).trans rfl; have hcz7_5 : w6.cell? ⟨gb199, 5, none⟩ = some (.bool a0_5) := (blk_cell BK199.out 5).trans rfl; have hcz7_6 : w6.cell? ⟨gb199, 6, none⟩ = some (.string a0_6) := (blk_cell BK199.out 6).trans rfl; have hcz7_7 : w6.cell? ⟨gb199, 7, none⟩ = some (.bool a0_7) := (blk_cell BK199.out 7).trans rfl; have hcz7_8 : w6.cell? ⟨gb199, 8, none⟩ = some (.string a0_8) := (blk_cell BK199.out 8).trans rfl; have hfz7_0 := blk_frozen BK199.out 0; have hfz7_1 := blk_frozen BK199.out 1; have hfz7_2 := blk_frozen BK199.out 2; have hfz7_3 := blk_frozen BK199.out 3; have hfz7_4 := blk_frozen BK199.out 4; have hfz7_5 := blk_frozen BK199.out 5; have hfz7_6 := blk_frozen BK199.out 6; have hfz7_7 := blk_frozen BK199.out 7; have hfz7_8 := blk_frozen BK199.out 8))
  go_ret
  exact ⟨z40_, by repeat (first | (with_reducible first | exact HB.out | apply below_alloc | apply pw_below_drewN | apply below_drew1 | refine below_set ?_ GE199.out) | exact HB.out)⟩

def pursuivantref08_Nobody.f (a0_0 a0_1 : ByteArray) (a0_2 : Int) : Option (Bool) := if a0_0.toList = ([] : List UInt8) then (if a0_1.toList = ([] : List UInt8) then (some (a0_2 == 0)) else (some false)) else (some false)
set_option maxHeartbeats 8000000 in
set_option maxRecDepth 100000 in
theorem pursuivantref08_Nobody.calls (a0_0 a0_1 : ByteArray) (a0_2 : Int) (r : Bool) (w : World) (hG_ : GW w) (h : pursuivantref08_Nobody.f a0_0 a0_1 a0_2 = some r) :
  Calls Tryd.prog 88 #[.agg #[.string a0_0, .string a0_1, .int .i64 a0_2]] w fun e w' => e = .returned (.bool r) ∧ Below w.heap.size w w' := by
 have hu50 := Tryd.underlying50
 have HB := Aside0.mk (Below.refl w.heap.size w)
 have H : (if a0_0.toList = ([] : List UInt8) then (if a0_1.toList = ([] : List UInt8) then (some (a0_2 == 0)) else (some false)) else (some false)) = some r := h
 clear h
 by_cases c2 : a0_0.toList = ([] : List UInt8)
 ·rw [if_pos c2] at H
  have c2b0 : (a0_0.toList == ([] : List UInt8)) = true := beq_iff_eq.mpr c2
  try have c2e0 : a0_0.toList.isEmpty = true := by rw [← nil_beq]; exact c2b0
  have c2b1 : (a0_0.toList != ([] : List UInt8)) = false := bne_eq_false_iff_eq.mpr c2
  clear c2
  by_cases c3 : a0_1.toList = ([] : List UInt8)
  ·rw [if_pos c3] at H
   have c3b0 : (a0_1.toList == ([] : List UInt8)) = true := beq_iff_eq.mpr c3
   try have c3e0 : a0_1.toList.isEmpty = true := by rw [← nil_beq]; exact c3b0
   have c3b1 : (a0_1.toList != ([] : List UInt8)) = false := bne_eq_false_iff_eq.mpr c3
   clear c3
   obtain rfl := Option.some.inj H
   go_enter Tryd.func88, Tryd.ntmps88
   go_wp2_with (first | ((with_reducible refine gate_dst (N := 1) rfl ?_); refine box_event ?hg (N := 1) ?hd (cs := #[.string a0_0, .string a0_1, .int .i64 a0_2]) (t := 50) ?hr ?_; (case hd => rfl); (case hg => rfl); (case hr => first | (go_simp; done) | (go_simp; rfl)); intro gb201 hg w4 hbox hb; have n0_ := Aside0.mk (below_step z39_ hb); have n1_ := Aside0.mk (hbox); have n2_ := Aside0.mk ((by rw [hg]; exact (below_size z39_) : w.heap.size ≤ gb201)); have n3_ := Aside0.mk ((by rw [hg]; exact (below_size z39_) : w.heap.size ≤ gb201)); clear HB; have HB := n0_; have BK201 := n1_; have GW201 := n2_; have GE201 := n3_; clear n0_ n1_ n2_ n3_; clear hb hbox hg; have hcz5_0 : w4.cell? ⟨gb201, 0, none⟩ = some (.string a0_0) := (blk_cell BK201.out 0).trans rfl; have hcz5_1 : w4.cell? ⟨gb201, 1, none⟩ = some (.string a0_1) := (blk_cell BK201.out 1).trans rfl; have hcz5_2 : w4.cell? ⟨gb201, 2, none⟩ = some (.int .i64 a0_2) := (blk_cell BK201.out 2).trans rfl; have hfz5_0 := blk_frozen BK201.out 0; have hfz5_1 := blk_frozen BK201.out 1; have hfz5_2 := blk_frozen BK201.out 2))
   go_ret
   exact ⟨z40_, z23_⟩
  ·rw [if_neg c3] at H
   have c3b0 : (a0_1.toList == ([] : List UInt8)) = false := beq_eq_false_iff_ne.mpr c3
   try have c3e0 : a0_1.toList.isEmpty = false := by rw [← nil_beq]; exact c3b0
   have c3b1 : (a0_1.toList != ([] : List UInt8)) = true := bne_iff_ne.mpr c3
   obtain rfl := Option.some.inj H
   go_enter Tryd.func88, Tryd.ntmps88
   go_wp2_with (first | ((with_reducible refine gate_dst (N := 1) rfl ?_); refine box_event ?hg (N := 1) ?hd (cs := #[.string a0_0, .string a0_1, .int .i64 a0_2]) (t := 50) ?hr ?_; (case hd => rfl); (case hg => rfl); (case hr => first | (go_simp; done) | (go_simp; rfl)); intro gb201 hg w6 hbox hb; have n0_ := Aside0.mk (below_step z39_ hb); have n1_ := Aside0.mk (hbox); have n2_ := Aside0.mk ((by rw [hg]; exact (below_size z39_) : w.heap.size ≤ gb201)); have n3_ := Aside0.mk ((by rw [hg]; exact (below_size z39_) : w.heap.size ≤ gb201)); clear HB; have HB := n0_; have BK201 := n1_; have GW201 := n2_; have GE201 := n3_; clear n0_ n1_ n2_ n3_; clear hb hbox hg; have hcz7_0 : w6.cell? ⟨gb201, 0, none⟩ = some (.string a0_0) := (blk_cell BK201.out 0).trans rfl; have hcz7_1 : w6.cell? ⟨gb201, 1, none⟩ = some (.string a0_1) := (blk_cell BK201.out 1).trans rfl; have hcz7_2 : w6.cell? ⟨gb201, 2, none⟩ = some (.int .i64 a0_2) := (blk_cell BK201.out 2).trans rfl; have hfz7_0 := blk_frozen BK201.out 0; have hfz7_1 := blk_frozen BK201.out 1; have hfz7_2 := blk_frozen BK201.out 2))
   go_ret
   exact ⟨z40_, z23_⟩
 ·rw [if_neg c2] at H
  have c2b0 : (a0_0.toList == ([] : List UInt8)) = false := beq_eq_false_iff_ne.mpr c2
  try have c2e0 : a0_0.toList.isEmpty = false := by rw [← nil_beq]; exact c2b0
  have c2b1 : (a0_0.toList != ([] : List UInt8)) = true := bne_iff_ne.mpr c2
  obtain rfl := Option.some.inj H
  go_enter Tryd.func88, Tryd.ntmps88
  go_wp2_with (first | ((with_reducible refine gate_dst (N := 1) rfl ?_); refine box_event ?hg (N := 1) ?hd (cs := #[.string a0_0, .string a0_1, .int .i64 a0_2]) (t := 50) ?hr ?_; (case hd => rfl); (case hg => rfl); (case hr => first | (go_simp; done) | (go_simp; rfl)); intro gb201 hg w8 hbox hb; have n0_ := Aside0.mk (below_step z39_ hb); have n1_ := Aside0.mk (hbox); have n2_ := Aside0.mk ((by rw [hg]; exact (below_size z39_) : w.heap.size ≤ gb201)); have n3_ := Aside0.mk ((by rw [hg]; exact (below_size z39_) : w.heap.size ≤ gb201)); clear HB; have HB := n0_; have BK201 := n1_; have GW201 := n2_; have GE201 := n3_; clear n0_ n1_ n2_ n3_; clear hb hbox hg; have hcz9_0 : w8.cell? ⟨gb201, 0, none⟩ = some (.string a0_0) := (blk_cell BK201.out 0).trans rfl; have hcz9_1 : w8.cell? ⟨gb201, 1, none⟩ = some (.string a0_1) := (blk_cell BK201.out 1).trans rfl; have hcz9_2 : w8.cell? ⟨gb201, 2, none⟩ = some (.int .i64 a0_2) := (blk_cell BK201.out 2).trans rfl; have hfz9_0 := blk_frozen BK201.out 0; have hfz9_1 := blk_frozen BK201.out 1; have hfz9_2 := blk_frozen BK201.out 2))
  go_ret
  exact ⟨z40_, z23_⟩

end Go.Proofs.YtindkgcbglonhaaDoor.Hand
