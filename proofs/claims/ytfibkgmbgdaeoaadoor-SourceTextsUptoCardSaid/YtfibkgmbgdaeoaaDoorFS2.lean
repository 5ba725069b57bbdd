/- What each Go function here computes, and that its call computes it, over contracts proved by hand (written by this project's xprint.py, which drives the kit's print). -/
import Derived.Test.YtfibkgmbgdaeoaaDoorZ
import Derived.Test.YtfibkgmbgdaeoaaDoorK
import Derived.Test.YtfibkgmbgdaeoaaDoorRefG
import Derived.Test.YtfibkgmbgdaeoaaDoorFA1
import Derived.Test.YtfibkgmbgdaeoaaDoorFA2
import Derived.Test.YtfibkgmbgdaeoaaDoorFA3
import Derived.Test.YtfibkgmbgdaeoaaDoorFU1
namespace Go.Proofs.YtfibkgmbgdaeoaaDoor.Hand
open Go.RowKit Go.Proofs.YtfibkgmbgdaeoaaDoorW.PrintWords Go.Proofs.YtfibkgmbgdaeoaaDoorW.PrintLast Go.Proofs.YtfibkgmbgdaeoaaDoorW.PrintMore
attribute [local go_sem] Instr.field asAgg max2_int min2_int max_two min_two max_three min_three max_four min_four   -- for this text's walks alone
set_option linter.unusedVariables false
set_option linter.unusedSimpArgs false

attribute [local go_sem high] eqA23
def source_port.j0 : Nat → Int → Int → Bool → ByteArray → ByteArray → ByteArray → Int → ByteArray → Bool → ByteArray → Bool → ByteArray → Option (Bool)
 | 0, _, _, _, _, _, _, _, _, _, _, _, _ => none
 | k + 1, x5, x9, x10, x103000, x103001, x103002, x103003, x103004, x103005, x103006, x103007, x103008 => if x10 = true then (some true) else (if x9 = 0 then ((host_Default.f x103000).bind fun t104 => (some (x5 == t104))) else (if x9 = 80 then (if x5 = 443 then (some (x103000.toList == ([104, 116, 116, 112, 115] : List UInt8))) else (some false)) else (some false)))
def source_port.f (k : Nat) (a0_0 : Int) (a0_1 : ByteArray) (a0_2 : Bool) (a0_3 : ByteArray) (a0_4 : Int) (a0_5 a0_6 a1_0 a1_1 a1_2 : ByteArray) (a1_3 : Int) (a1_4 : ByteArray) (a1_5 : Bool) (a1_6 : ByteArray) (a1_7 : Bool) (a1_8 : ByteArray) : Option (Bool) := (url_Port.f a1_0 a1_1 a1_2 a1_3 a1_4 a1_5 a1_6 a1_7 a1_8).bind fun t103 => (if a0_4 = (-1) then (source_port.j0 k t103 a0_4 (a0_4 == (-1)) a1_0 a1_1 a1_2 a1_3 a1_4 a1_5 a1_6 a1_7 a1_8) else (source_port.j0 k t103 a0_4 (a0_4 == t103) a1_0 a1_1 a1_2 a1_3 a1_4 a1_5 a1_6 a1_7 a1_8))
set_option maxHeartbeats 8000000 in
set_option maxRecDepth 100000 in
theorem source_port.calls (k : Nat) (a0_0 : Int) (a0_1 : ByteArray) (a0_2 : Bool) (a0_3 : ByteArray) (a0_4 : Int) (a0_5 a0_6 a1_0 a1_1 a1_2 : ByteArray) (a1_3 : Int) (a1_4 : ByteArray) (a1_5 : Bool) (a1_6 : ByteArray) (a1_7 : Bool) (a1_8 : ByteArray) (r : Bool) (w : World) (hG_ : GW w) (h : source_port.f k a0_0 a0_1 a0_2 a0_3 a0_4 a0_5 a0_6 a1_0 a1_1 a1_2 a1_3 a1_4 a1_5 a1_6 a1_7 a1_8 = some r) :
  Calls Tryd.prog 31 #[.agg #[.int .i64 a0_0, .string a0_1, .bool a0_2, .string a0_3, .int .i64 a0_4, .string a0_5, .string a0_6], .agg #[.string a1_0, .string a1_1, .string a1_2, .int .i64 a1_3, .string a1_4, .bool a1_5, .string a1_6, .bool a1_7, .string a1_8]] w fun e w' => e = .returned (.bool r) ∧ Below w.heap.size w w' := by
 have hu23 := Tryd.underlying23
 have hu31 := Tryd.underlying31
 have HB := Aside0.mk (Below.refl w.heap.size w)
 have H : ((url_Port.f a1_0 a1_1 a1_2 a1_3 a1_4 a1_5 a1_6 a1_7 a1_8).bind fun t103 => (if a0_4 = (-1) then (source_port.j0 k t103 a0_4 (a0_4 == (-1)) a1_0 a1_1 a1_2 a1_3 a1_4 a1_5 a1_6 a1_7 a1_8) else (source_port.j0 k t103 a0_4 (a0_4 == t103) a1_0 a1_1 a1_2 a1_3 a1_4 a1_5 a1_6 a1_7 a1_8))) = some r := h
 clear h
 replace H := Option.bind_eq_some_iff.mp H
 obtain ⟨t103, A30, H⟩ := H
 replace H : (if a0_4 = (-1) then (source_port.j0 k t103 a0_4 (a0_4 == (-1)) a1_0 a1_1 a1_2 a1_3 a1_4 a1_5 a1_6 a1_7 a1_8) else (source_port.j0 k t103 a0_4 (a0_4 == t103) a1_0 a1_1 a1_2 a1_3 a1_4 a1_5 a1_6 a1_7 a1_8)) = some r := H
 have A3 := Aside0.mk A30; clear A30; have HC4 := Aside0.mk H; clear H
 go_enter Tryd.func31, Tryd.ntmps31
 go_upto_if 10 with (first | ((with_reducible refine gate_dst (N := 2) rfl ?_); refine box_event ?hg (N := 2) ?hd (cs := #[.int .i64 a0_0, .string a0_1, .bool a0_2, .string a0_3, .int .i64 a0_4, .string a0_5, .string a0_6]) (t := 23) ?hr ?_; (case hd => rfl); (case hg => rfl); (case hr => first | (go_simp; done) | (go_simp; rfl)); intro gb101 hg w5 hbox hb; have n0_ := Aside0.mk (below_step z40_ hb); have n1_ := Aside0.mk (hbox); have n2_ := Aside0.mk ((by rw [hg]; exact (below_size z40_) : w.heap.size ≤ gb101)); have n3_ := Aside0.mk ((by rw [hg]; exact (below_size z40_) : w.heap.size ≤ gb101)); clear HB; have HB := n0_; have BK101 := n1_; have GW101 := n2_; have GE101 := n3_; clear n0_ n1_ n2_ n3_; clear hb hbox hg) | ((with_reducible refine gate_dst (N := 3) rfl ?_); refine box_event ?hg (N := 3) ?hd (cs := #[.string a1_0, .string a1_1, .string a1_2, .int .i64 a1_3, .string a1_4, .bool a1_5, .string a1_6, .bool a1_7, .string a1_8]) (t := 31) ?hr ?_; (case hd => rfl); (case hg => rfl); (case hr => first | (go_simp; done) | (go_simp; rfl)); intro gb102 hg w6 hbox hb; have n0_ := Aside0.mk (blk_below (g := gb101) (o := .cells #[.int .i64 a0_0, .string a0_1, .bool a0_2, .string a0_3, .int .i64 a0_4, .string a0_5, .string a0_6] 23 (0, 0)) z45_ hb); have n1_ := Aside0.mk (below_step z28_ hb); have n2_ := Aside0.mk (hbox); have n3_ := Aside0.mk ((by rw [hg]; exact (below_size z28_) : w.heap.size ≤ gb102)); have n4_ := Aside0.mk ((by rw [hg]; exact (below_size z28_) : w.heap.size ≤ gb102)); have n5_ := Aside0.mk ((by rw [hg]; exact Nat.ne_of_lt (blk_lt (g := gb101) (o := .cells #[.int .i64 a0_0, .string a0_1, .bool a0_2, .string a0_3, .int .i64 a0_4, .string a0_5, .string a0_6] 23 (0, 0)) z45_) : gb101 ≠ gb102)); have n6_ := Aside0.mk ((by rw [hg]; exact Nat.ne_of_gt (blk_lt (g := gb101) (o := .cells #[.int .i64 a0_0, .string a0_1, .bool a0_2, .string a0_3, .int .i64 a0_4, .string a0_5, .string a0_6] 23 (0, 0)) z45_) : gb102 ≠ gb101)); clear BK101; clear HB; have BK101 := n0_; have HB := n1_; have BK102 := n2_; have GW102 := n3_; have GE102 := n4_; have NB101_102 := n5_; have NB102_101 := n6_; clear n0_ n1_ n2_ n3_ n4_ n5_ n6_; clear hb hbox hg; have hnb7 := NB102_101.out; have hnc7 := NB101_102.out; have hcz8_0 : w6.cell? ⟨gb102, 0, none⟩ = some (.string a1_0) := (blk_cell BK102.out 0).trans rfl; have hcz8_1 : w6.cell? ⟨gb102, 1, none⟩ = some (.string a1_1) := (blk_cell BK102.out 1).trans rfl; have hcz8_2 : w6.cell? ⟨gb102, 2, none⟩ = some (.string a1_2) := (blk_cell BK102.out 2).trans rfl; have hcz8_3 : w6.cell? ⟨gb102, 3, none⟩ = some (.int .i64 a1_3) := (blk_cell BK102.out 3).trans rfl; have hcz8_4 : w6.cell? ⟨gb102, 4, none⟩ = some (.string a1_4) := (blk_cell BK102.out 4).trans rfl; have hcz8_5 : w6.cell? ⟨gb102, 5, none⟩ = some (.bool a1_5) := (blk_cell BK102.out 5).trans rfl; have hcz8_6 : w6.cell? ⟨gb102, 6, none⟩ = some (.string a1_6) := (blk_cell BK102.out 6).trans rfl; have hcz8_7 : w6.cell? ⟨gb102, 7, none⟩ = some (.bool a1_7) := (blk_cell BK102.out 7).trans rfl; have hcz8_8 : w6.cell? ⟨gb102, 8, none⟩ = some (.string a1_8) := (blk_cell BK102.out 8).trans rfl; have hfz8_0 := blk_frozen BK102.out 0; have hfz8_1 := blk_frozen BK102.out 1; have hfz8_2 := blk_frozen BK102.out 2; have hfz8_3 := blk_frozen BK102.out 3; have hfz8_4 := blk_frozen BK102.out 4; have hfz8_5 := blk_frozen BK102.out 5; have hfz8_6 := blk_frozen BK102.out 6; have hfz8_7 := blk_frozen BK102.out 7; have hfz8_8 := blk_frozen BK102.out 8) | ((with_reducible refine gate_callee (f := 50) rfl ?_); refine goesL_ (some 7) rfl rfl Tryd.func50 (by kernel_rfl) rfl #[.agg #[.string a1_0, .string a1_1, .string a1_2, .int .i64 a1_3, .string a1_4, .bool a1_5, .string a1_6, .bool a1_7, .string a1_8]] rfl z39_ ?_; (with_reducible refine (url_Port.calls a1_0 a1_1 a1_2 a1_3 a1_4 a1_5 a1_6 a1_7 a1_8 t103 _ ?gw1_ A3.out).mono ?_); (case gw1_ => first | (with_reducible exact hG_) | ((with_reducible refine GW.below hG_ ?_); (repeat (first | (with_reducible exact HB.out) | (with_reducible apply below_alloc) | (with_reducible apply pw_below_drewN) | (with_reducible apply below_drew1) | (with_reducible apply below_drew) | (with_reducible exact Below.refl _ _) | (with_reducible refine below_set ?_ GE101.out) | (with_reducible refine below_set ?_ GE102.out))); done) | exact hG_ | (refine GW.below hG_ ?_; first | (with_reducible exact HB.out) | (repeat (first | (with_reducible first | exact HB.out | apply below_alloc | apply pw_below_drewN | apply below_drew1 | apply below_drew | exact Below.refl _ _) | exact HB.out))) | (apply GW.drewN; exact hG_) | (apply GW.drew; exact hG_)); rintro e w9 ⟨rfl, hb⟩; refine ⟨_, rfl, ?_⟩; have n0_ := Aside0.mk (blk_below (g := gb101) (o := .cells #[.int .i64 a0_0, .string a0_1, .bool a0_2, .string a0_3, .int .i64 a0_4, .string a0_5, .string a0_6] 23 (0, 0)) z45_ hb); have n1_ := Aside0.mk (blk_below (g := gb102) (o := .cells #[.string a1_0, .string a1_1, .string a1_2, .int .i64 a1_3, .string a1_4, .bool a1_5, .string a1_6, .bool a1_7, .string a1_8] 31 (0, 0)) z48_ hb); have n2_ := Aside0.mk (below_step z20_ hb); clear BK101; clear BK102; clear HB; have BK101 := n0_; have BK102 := n1_; have HB := n2_; clear n0_ n1_ n2_; (try clear hb); (try clear hb2); (try clear hk); (try clear hi); have hcz10_0 : w9.cell? ⟨gb101, 0, none⟩ = some (.int .i64 a0_0) := (blk_cell BK101.out 0).trans rfl; have hcz10_1 : w9.cell? ⟨gb101, 1, none⟩ = some (.string a0_1) := (blk_cell BK101.out 1).trans rfl; have hcz10_2 : w9.cell? ⟨gb101, 2, none⟩ = some (.bool a0_2) := (blk_cell BK101.out 2).trans rfl; have hcz10_3 : w9.cell? ⟨gb101, 3, none⟩ = some (.string a0_3) := (blk_cell BK101.out 3).trans rfl; have hcz10_4 : w9.cell? ⟨gb101, 4, none⟩ = some (.int .i64 a0_4) := (blk_cell BK101.out 4).trans rfl; have hcz10_5 : w9.cell? ⟨gb101, 5, none⟩ = some (.string a0_5) := (blk_cell BK101.out 5).trans rfl; have hcz10_6 : w9.cell? ⟨gb101, 6, none⟩ = some (.string a0_6) := (blk_cell BK101.out 6).trans rfl; have hfz10_0 := blk_frozen BK101.out 0; have hfz10_1 := blk_frozen BK101.out 1; have hfz10_2 := blk_frozen BK101.out 2; have hfz10_3 := blk_frozen BK101.out 3; have hfz10_4 := blk_frozen BK101.out 4; have hfz10_5 := blk_frozen BK101.out 5; have hfz10_6 := blk_frozen BK101.out 6))
 (try simp only [Act.put, List.setIfInBounds_toArray, List.set_cons_zero, List.set_cons_succ])
 go_cut [10] (fun v10 wc => ∃ (kq : Nat) (x10_3 : Bool), v10 = .bool x10_3 ∧ Aside0 (source_port.j0 kq t103 a0_4 x10_3 a1_0 a1_1 a1_2 a1_3 a1_4 a1_5 a1_6 a1_7 a1_8 = some r) ∧ Aside0 (kq ≤ k) ∧ Aside0 (wc.heap[gb101]? = some (.cells #[.int .i64 a0_0, .string a0_1, .bool a0_2, .string a0_3, .int .i64 a0_4, .string a0_5, .string a0_6] 23 (0, 0))) ∧ Aside0 (wc.heap[gb102]? = some (.cells #[.string a1_0, .string a1_1, .string a1_2, .int .i64 a1_3, .string a1_4, .bool a1_5, .string a1_6, .bool a1_7, .string a1_8] 31 (0, 0))) ∧ Aside0 (Below w.heap.size w wc))
 case first =>
  have H := HC4.out
  clear HC4
  by_cases c11 : a0_4 = (-1)
  ·rw [if_pos c11] at H
   have c11b0 : (a0_4 == (-1)) = true := beq_iff_eq.mpr c11
   have c11b1 : (a0_4 != (-1)) = false := bne_eq_false_iff_eq.mpr c11
   clear c11
   (first | rw [c11b0] | (simp only [i64_w, i32_w]; rw [c11b0]) | skip)
   have H' := Aside0.mk H
   clear H; go_wp2; go_meet
   case rel => exact ⟨_, ((a0_4 == (-1))), z59_, H', ⟨z65_⟩, ⟨z45_⟩, ⟨z48_⟩, ⟨z20_⟩⟩
  ·rw [if_neg c11] at H
   have c11b0 : (a0_4 == (-1)) = false := beq_eq_false_iff_ne.mpr c11
   have c11b1 : (a0_4 != (-1)) = true := bne_iff_ne.mpr c11
   (first | rw [c11b0] | (simp only [i64_w, i32_w]; rw [c11b0]) | skip)
   have H' := Aside0.mk H
   clear H; go_wp2; go_meet
   case rel => exact ⟨_, ((a0_4 == t103)), z59_, H', ⟨z65_⟩, ⟨z45_⟩, ⟨z48_⟩, ⟨z20_⟩⟩
 case rest =>
  clear HC4; (try clear hcz10_0 hcz10_1 hcz10_2 hcz10_3 hcz10_4 hcz10_5 hcz10_6); (try clear hcz8_0 hcz8_1 hcz8_2 hcz8_3 hcz8_4 hcz8_5 hcz8_6 hcz8_7 hcz8_8); (try clear hfz10_0 hfz10_1 hfz10_2 hfz10_3 hfz10_4 hfz10_5 hfz10_6); (try clear hfz8_0 hfz8_1 hfz8_2 hfz8_3 hfz8_4 hfz8_5 hfz8_6 hfz8_7 hfz8_8)
  obtain ⟨kq, x10_3, rfl, HA, HJ3, BK101, BK102, HB⟩ := hcut
  cases kq with
  | zero => exact absurd HA.out (by simp [source_port.j0])
  | succ kj3 =>
   have H := HA.out
   clear HA
   simp only [source_port.j0] at H
   by_cases c12 : x10_3 = true
   ·subst c12
    have H1 : (some true) = some r := by rw [if_pos rfl] at H; exact H
    clear H
    have H := H1
    clear H1
    obtain rfl := Option.some.inj H
    go_wp2
    go_ret
    exact ⟨z41_, z20_⟩
   ·replace c12 := Bool.eq_false_iff.mpr c12
    subst c12
    have H1 : (if a0_4 = 0 then ((host_Default.f a1_0).bind fun t104 => (some (t103 == t104))) else (if a0_4 = 80 then (if t103 = 443 then (some (a1_0.toList == ([104, 116, 116, 112, 115] : List UInt8))) else (some false)) else (some false))) = some r := by rw [if_neg (show ¬ (false = true) by decide)] at H; exact H
    clear H
    have H := H1
    clear H1
    by_cases c13 : a0_4 = 0
    ·rw [if_pos c13] at H
     have c13b0 : (a0_4 == 0) = true := beq_iff_eq.mpr c13
     have c13b1 : (a0_4 != 0) = false := bne_eq_false_iff_eq.mpr c13
     clear c13
     replace H := Option.bind_eq_some_iff.mp H
     obtain ⟨t104, A140, H⟩ := H
     replace H : (some (t103 == t104)) = some r := H
     have A14 := Aside0.mk A140; clear A140
     obtain rfl := Option.some.inj H
     have hnb15 := NB102_101.out; have hnc15 := NB101_102.out; obtain ⟨hcz16_0, hcz16_1, hcz16_2, hcz16_3, hcz16_4, hcz16_5, hcz16_6, hcz16_7, hcz16_8⟩ := blkc9_ BK102.out; obtain ⟨hfz16_0, hfz16_1, hfz16_2, hfz16_3, hfz16_4, hfz16_5, hfz16_6, hfz16_7, hfz16_8⟩ := blkf9_ BK102.out
     go_wp2_with (first | ((with_reducible refine gate_callee (f := 13) rfl ?_); refine goesL_ (some 19) rfl rfl Tryd.func13 (by kernel_rfl) rfl #[.string a1_0] rfl z39_ ?_; (with_reducible refine (host_Default.calls a1_0 t104 _ ?gw2_ A14.out).mono ?_); (case gw2_ => first | (with_reducible exact hG_) | ((with_reducible refine GW.below hG_ ?_); (repeat (first | (with_reducible exact HB.out) | (with_reducible apply below_alloc) | (with_reducible apply pw_below_drewN) | (with_reducible apply below_drew1) | (with_reducible apply below_drew) | (with_reducible exact Below.refl _ _) | (with_reducible refine below_set ?_ GE101.out) | (with_reducible refine below_set ?_ GE102.out))); done) | exact hG_ | (refine GW.below hG_ ?_; first | (with_reducible exact HB.out) | (repeat (first | (with_reducible first | exact HB.out | apply below_alloc | apply pw_below_drewN | apply below_drew1 | apply below_drew | exact Below.refl _ _) | exact HB.out))) | (apply GW.drewN; exact hG_) | (apply GW.drew; exact hG_)); rintro e w' ⟨rfl, ⟨nd, rfl⟩⟩; refine ⟨_, rfl, ?_⟩))
     go_ret
     exact ⟨z41_, z20_⟩
    ·rw [if_neg c13] at H
     have c13b0 : (a0_4 == 0) = false := beq_eq_false_iff_ne.mpr c13
     have c13b1 : (a0_4 != 0) = true := bne_iff_ne.mpr c13
     by_cases c17 : a0_4 = 80
     ·rw [if_pos c17] at H
      have c17b0 : (a0_4 == 80) = true := beq_iff_eq.mpr c17
      have c17b1 : (a0_4 != 80) = false := bne_eq_false_iff_eq.mpr c17
      clear c17
      by_cases c18 : t103 = 443
      ·rw [if_pos c18] at H
       have c18b0 : (t103 == 443) = true := beq_iff_eq.mpr c18
       have c18b1 : (t103 != 443) = false := bne_eq_false_iff_eq.mpr c18
       clear c18
       obtain rfl := Option.some.inj H
       have hnb19 := NB102_101.out; have hnc19 := NB101_102.out; obtain ⟨hcz20_0, hcz20_1, hcz20_2, hcz20_3, hcz20_4, hcz20_5, hcz20_6, hcz20_7, hcz20_8⟩ := blkc9_ BK102.out; obtain ⟨hfz20_0, hfz20_1, hfz20_2, hfz20_3, hfz20_4, hfz20_5, hfz20_6, hfz20_7, hfz20_8⟩ := blkf9_ BK102.out; go_wp2
       go_ret
       exact ⟨z41_, z20_⟩
      ·rw [if_neg c18] at H
       have c18b0 : (t103 == 443) = false := beq_eq_false_iff_ne.mpr c18
       have c18b1 : (t103 != 443) = true := bne_iff_ne.mpr c18
       obtain rfl := Option.some.inj H
       go_wp2
       go_ret
       exact ⟨z41_, z20_⟩
     ·rw [if_neg c17] at H
      have c17b0 : (a0_4 == 80) = false := beq_eq_false_iff_ne.mpr c17
      have c17b1 : (a0_4 != 80) = true := bne_iff_ne.mpr c17
      obtain rfl := Option.some.inj H
      go_wp2
      go_ret
      exact ⟨z41_, z20_⟩

def source_long.l0 : Nat → ByteArray → Option (Bool)
 | 0, _ => none
 | k + 1, x0 => if (x0.size : Int) > 1 then (if 1 ≤ (mn (x0.size : Int) 500) then (if (mn (x0.size : Int) 500) ≤ (x0.size : Int) then (if 1 + (x0.extract 1 ((mn (x0.size : Int) 500) : Int).toNat).size ≤ 9223372036854775807 then ((url_Good.f k (⟨#[104, 116, 116, 112]⟩ : ByteArray) (⟨#[]⟩ : ByteArray) (⟨#[97]⟩ : ByteArray) 0 ((⟨#[47]⟩ : ByteArray) ++ (x0.extract 1 ((mn (x0.size : Int) 500) : Int).toNat)) false (⟨#[]⟩ : ByteArray) false (⟨#[]⟩ : ByteArray)).bind fun t105 => (if t105 = true then (if 0 < (x0.size : Int) then (if (bt x0 0) = 47 then (if 0 ≤ (mn (x0.size : Int) 500) then (if 1 + (x0.extract ((mn (x0.size : Int) 500) : Int).toNat x0.size).size ≤ 9223372036854775807 then (source_long.l0 k ((⟨#[47]⟩ : ByteArray) ++ (x0.extract ((mn (x0.size : Int) 500) : Int).toNat x0.size))) else (none)) else (none)) else (some false)) else (none)) else (some false))) else (none)) else (none)) else (none)) else (some (x0.toList == ([47] : List UInt8)))
def source_long.f (k : Nat) (a0 : ByteArray) : Option (Bool) := source_long.l0 k a0
set_option maxHeartbeats 8000000 in
set_option maxRecDepth 100000 in
theorem source_long.calls (k : Nat) (a0 : ByteArray) (r : Bool) (w : World) (hG_ : GW w) (h : source_long.f k a0 = some r) :
  Calls Tryd.prog 36 #[.string a0] w fun e w' => e = .returned (.bool r) ∧ Below w.heap.size w w' := by
 have hu31 := Tryd.underlying31
 have HB := Aside0.mk (Below.refl w.heap.size w)
 have H : (source_long.l0 k a0) = some r := h
 clear h
 have H' := Aside0.mk H
 clear H
 go_enter Tryd.func36, Tryd.ntmps36
 go_wp2
 go_loopg [0] k (fun kq v0 w' => ∃ (x0_1 : ByteArray), v0 = .string x0_1 ∧ Aside0 (source_long.l0 kq x0_1 = some r) ∧ Aside0 (kq ≤ k) ∧ Aside0 (Below w.heap.size w w'))
 case atStart => exact ⟨(a0), z59_, H', ⟨Nat.le_refl _⟩, ⟨z40_⟩⟩
 case round =>
  clear H'
  obtain ⟨x0_1, rfl, HA, HK1, HB⟩ := hrel
  cases gk with
  | zero => exact absurd HA.out (by simp [source_long.l0])
  | succ k1 =>
   have H := HA.out
   clear HA
   simp only [source_long.l0] at H
   by_cases c2 : (x0_1.size : Int) > 1
   ·rw [if_pos c2] at H
    have c2b0 : decide (1 < (x0_1.size : Int)) = true := decide_eq_true c2
    have c2b1 : decide (1 < x0_1.size) = true := decide_eq_true (by omega)
    clear c2
    obtain ⟨ji3, hji3⟩ : ∃ j_ : Int, (mn (x0_1.size : Int) 500) = j_ := ⟨_, rfl⟩
    replace H : (if 1 ≤ (ji3) then (if (ji3) ≤ (x0_1.size : Int) then (if 1 + (x0_1.extract 1 ((ji3) : Int).toNat).size ≤ 9223372036854775807 then ((url_Good.f k1 (⟨#[104, 116, 116, 112]⟩ : ByteArray) (⟨#[]⟩ : ByteArray) (⟨#[97]⟩ : ByteArray) 0 ((⟨#[47]⟩ : ByteArray) ++ (x0_1.extract 1 ((ji3) : Int).toNat)) false (⟨#[]⟩ : ByteArray) false (⟨#[]⟩ : ByteArray)).bind fun t105 => (if t105 = true then (if 0 < (x0_1.size : Int) then (if (bt x0_1 0) = 47 then (if 0 ≤ (ji3) then (if 1 + (x0_1.extract ((ji3) : Int).toNat x0_1.size).size ≤ 9223372036854775807 then (source_long.l0 k1 ((⟨#[47]⟩ : ByteArray) ++ (x0_1.extract ((ji3) : Int).toNat x0_1.size))) else (none)) else (none)) else (some false)) else (none)) else (some false))) else (none)) else (none)) else (none)) = some r := by first | (rw [hji3] at H; exact H) | (simp only [hji3] at H ⊢; exact H)
    have hji3_ : (if 500 < (x0_1.size : Int) then 500 else (x0_1.size : Int)) = ji3 := hji3
    by_cases c4 : 1 ≤ (ji3)
    ·rw [if_pos c4] at H
     have c4b0 := eq_true c4; have c4b1 : decide (1 ≤ (ji3)) = true := decide_eq_true c4; clear c4
     by_cases c5 : (ji3) ≤ (x0_1.size : Int)
     ·rw [if_pos c5] at H
      have c5b0 := eq_true c5; have c5b1 : decide ((ji3) ≤ (x0_1.size : Int)) = true := decide_eq_true c5; clear c5
      by_cases c6 : 1 + (x0_1.extract 1 ((ji3) : Int).toNat).size ≤ 9223372036854775807
      ·rw [if_pos c6] at H
       have c6b0 := eq_true c6; have c6b1 : decide (1 + (x0_1.extract 1 ((ji3) : Int).toNat).size ≤ 9223372036854775807) = true := decide_eq_true c6
       try have c6b2 : (9223372036854775807 < 1 + (x0_1.extract 1 ((ji3) : Int).toNat).size) = False := eq_false (Nat.not_lt.2 c6)
       try have c6c0 : (9223372036854775807 ≤ (x0_1.extract 1 ((ji3) : Int).toNat).size) = False := eq_false (by omega)
       try have c6c1 : ((x0_1.extract 1 ((ji3) : Int).toNat).size < 9223372036854775807) = True := eq_true (by omega)
       try (have c6s0 := c6b2; simp only [ByteArray.size_extract, Nat.min_self] at c6s0)
       try (have c6s1 := c6c0; simp only [ByteArray.size_extract, Nat.min_self] at c6s1)
       try (have c6s2 := c6c1; simp only [ByteArray.size_extract, Nat.min_self] at c6s2)
       try (have c6t0 := c6b2; simp only [ByteArray.size_extract, Nat.min_eq_left (show ((ji3) : Int).toNat ≤ x0_1.size by omega)] at c6t0)
       try (have c6t1 := c6c0; simp only [ByteArray.size_extract, Nat.min_eq_left (show ((ji3) : Int).toNat ≤ x0_1.size by omega)] at c6t1)
       try (have c6t2 := c6c1; simp only [ByteArray.size_extract, Nat.min_eq_left (show ((ji3) : Int).toNat ≤ x0_1.size by omega)] at c6t2)
       replace H := Option.bind_eq_some_iff.mp H
       obtain ⟨t105, A70, H⟩ := H
       replace H : (if t105 = true then (if 0 < (x0_1.size : Int) then (if (bt x0_1 0) = 47 then (if 0 ≤ (ji3) then (if 1 + (x0_1.extract ((ji3) : Int).toNat x0_1.size).size ≤ 9223372036854775807 then (source_long.l0 k1 ((⟨#[47]⟩ : ByteArray) ++ (x0_1.extract ((ji3) : Int).toNat x0_1.size))) else (none)) else (none)) else (some false)) else (none)) else (some false)) = some r := H
       have A7 := Aside0.mk A70; clear A70
       by_cases c8 : t105 = true
       ·subst c8
        have H1 : (if 0 < (x0_1.size : Int) then (if (bt x0_1 0) = 47 then (if 0 ≤ (ji3) then (if 1 + (x0_1.extract ((ji3) : Int).toNat x0_1.size).size ≤ 9223372036854775807 then (source_long.l0 k1 ((⟨#[47]⟩ : ByteArray) ++ (x0_1.extract ((ji3) : Int).toNat x0_1.size))) else (none)) else (none)) else (some false)) else (none)) = some r := by rw [if_pos rfl] at H; exact H
        clear H
        have H := H1
        clear H1
        by_cases c9 : 0 < (x0_1.size : Int)
        ·rw [if_pos c9] at H
         have c9b0 : decide (0 < (x0_1.size : Int)) = true := decide_eq_true c9
         have c9b1 : decide (0 < x0_1.size) = true := decide_eq_true (by omega)
         clear c9
         by_cases c11 : (bt x0_1 0) = 47
         ·rw [if_pos c11] at H
          have c11b0 : ((bt x0_1 0) == 47) = true := beq_iff_eq.mpr c11
          have c11b1 : ((bt x0_1 0) != 47) = false := bne_eq_false_iff_eq.mpr c11
          clear c11
          by_cases c12 : 0 ≤ (ji3)
          ·rw [if_pos c12] at H
           have c12b0 := eq_true c12; have c12b1 : decide (0 ≤ (ji3)) = true := decide_eq_true c12; clear c12
           have c13b0 := eq_true (of_decide_eq_true z63_ : (ji3) ≤ (x0_1.size : Int))
           by_cases c14 : 1 + (x0_1.extract ((ji3) : Int).toNat x0_1.size).size ≤ 9223372036854775807
           ·rw [if_pos c14] at H
            have c14b0 := eq_true c14; have c14b1 : decide (1 + (x0_1.extract ((ji3) : Int).toNat x0_1.size).size ≤ 9223372036854775807) = true := decide_eq_true c14
            try have c14b2 : (9223372036854775807 < 1 + (x0_1.extract ((ji3) : Int).toNat x0_1.size).size) = False := eq_false (Nat.not_lt.2 c14)
            try have c14c0 : (9223372036854775807 ≤ (x0_1.extract ((ji3) : Int).toNat x0_1.size).size) = False := eq_false (by omega)
            try have c14c1 : ((x0_1.extract ((ji3) : Int).toNat x0_1.size).size < 9223372036854775807) = True := eq_true (by omega)
            try (have c14s0 := c14b2; simp only [ByteArray.size_extract, Nat.min_self] at c14s0)
            try (have c14s1 := c14c0; simp only [ByteArray.size_extract, Nat.min_self] at c14s1)
            try (have c14s2 := c14c1; simp only [ByteArray.size_extract, Nat.min_self] at c14s2)
            have H' := Aside0.mk H
            clear H
            go_wp2_with (first | ((with_reducible refine gate_callee (f := 35) rfl ?_); refine goesL_ (some 15) rfl rfl Tryd.func35 (by kernel_rfl) rfl #[.agg #[.string (⟨#[104, 116, 116, 112]⟩ : ByteArray), .string (⟨#[]⟩ : ByteArray), .string (⟨#[97]⟩ : ByteArray), .int .i64 0, .string ((⟨#[47]⟩ : ByteArray) ++ (x0_1.extract 1 ((ji3) : Int).toNat)), .bool false, .string (⟨#[]⟩ : ByteArray), .bool false, .string (⟨#[]⟩ : ByteArray)]] rfl z23_ ?_; (with_reducible refine (url_Good.calls k1 (⟨#[104, 116, 116, 112]⟩ : ByteArray) (⟨#[]⟩ : ByteArray) (⟨#[97]⟩ : ByteArray) 0 ((⟨#[47]⟩ : ByteArray) ++ (x0_1.extract 1 ((ji3) : Int).toNat)) false (⟨#[]⟩ : ByteArray) false (⟨#[]⟩ : ByteArray) true _ ?gw3_ A7.out).mono ?_); (case gw3_ => exact z14_); rintro e w15 ⟨rfl, hb⟩; refine ⟨_, rfl, ?_⟩; have n0_ := Aside0.mk (below_step z40_ hb); clear HB; have HB := n0_; clear n0_; (try clear hb); (try clear hb2); (try clear hk); (try clear hi); have p10 : 0 ≤ (0 : Int) := (by omega); have q10 : 0 < x0_1.size := (by have : (0 : Int) < (x0_1.size : Int) := of_decide_eq_true z63_; omega); have hx10 : ∀ h : 0 < x0_1.size, ((x0_1[0]'h).toNat : Int) = bt x0_1 0 := bt_at x0_1 0; clear p10; have qi10 : (0 < (x0_1.size : Int)) = True := eq_true (of_decide_eq_true z63_); replace q10 := eq_true q10))
            go_roundg k1
            case measure => have := HK1.out; omega
            case rel => exact ⟨((⟨#[47]⟩ : ByteArray) ++ (x0_1.extract ((ji3) : Int).toNat x0_1.size)), (by first | rfl | (simp [nil_bne, nil_beq]; done) | (simp; done) | (simp only [← hji3] <;> (first | rfl | simp)) | (simp [*]; done)), H', ⟨z66_⟩, ⟨z40_⟩⟩
           ·rw [if_neg c14] at H
            exact absurd H (by simp)
          ·rw [if_neg c12] at H
           exact absurd H (by simp)
         ·rw [if_neg c11] at H
          have c11b0 : ((bt x0_1 0) == 47) = false := beq_eq_false_iff_ne.mpr c11
          have c11b1 : ((bt x0_1 0) != 47) = true := bne_iff_ne.mpr c11
          obtain rfl := Option.some.inj H
          go_wp2_with (first | ((with_reducible refine gate_callee (f := 35) rfl ?_); refine goesL_ (some 15) rfl rfl Tryd.func35 (by kernel_rfl) rfl #[.agg #[.string (⟨#[104, 116, 116, 112]⟩ : ByteArray), .string (⟨#[]⟩ : ByteArray), .string (⟨#[97]⟩ : ByteArray), .int .i64 0, .string ((⟨#[47]⟩ : ByteArray) ++ (x0_1.extract 1 ((ji3) : Int).toNat)), .bool false, .string (⟨#[]⟩ : ByteArray), .bool false, .string (⟨#[]⟩ : ByteArray)]] rfl z23_ ?_; (with_reducible refine (url_Good.calls k1 (⟨#[104, 116, 116, 112]⟩ : ByteArray) (⟨#[]⟩ : ByteArray) (⟨#[97]⟩ : ByteArray) 0 ((⟨#[47]⟩ : ByteArray) ++ (x0_1.extract 1 ((ji3) : Int).toNat)) false (⟨#[]⟩ : ByteArray) false (⟨#[]⟩ : ByteArray) true _ ?gw4_ A7.out).mono ?_); (case gw4_ => exact z14_); rintro e w16 ⟨rfl, hb⟩; refine ⟨_, rfl, ?_⟩; have n0_ := Aside0.mk (below_step z40_ hb); clear HB; have HB := n0_; clear n0_; (try clear hb); (try clear hb2); (try clear hk); (try clear hi); have p10 : 0 ≤ (0 : Int) := (by omega); have q10 : 0 < x0_1.size := (by have : (0 : Int) < (x0_1.size : Int) := of_decide_eq_true z63_; omega); have hx10 : ∀ h : 0 < x0_1.size, ((x0_1[0]'h).toNat : Int) = bt x0_1 0 := bt_at x0_1 0; clear p10; have qi10 : (0 < (x0_1.size : Int)) = True := eq_true (of_decide_eq_true z63_); replace q10 := eq_true q10))
          go_ret
          exact ⟨by first | rfl | (simp [nil_bne, nil_beq]; done) | (simp [errW_none, errW_some] <;> rfl) | (simp only [← hji3]; first | rfl | (simp [errW_none, errW_some] <;> rfl)) | (simp [*, errW_none, errW_some] <;> rfl), z40_⟩
        ·rw [if_neg c9] at H
         exact absurd H (by simp)
       ·replace c8 := Bool.eq_false_iff.mpr c8
        subst c8
        have H1 : (some false) = some r := by rw [if_neg (show ¬ (false = true) by decide)] at H; exact H
        clear H
        have H := H1
        clear H1
        obtain rfl := Option.some.inj H
        go_wp2_with (first | ((with_reducible refine gate_callee (f := 35) rfl ?_); refine goesL_ (some 15) rfl rfl Tryd.func35 (by kernel_rfl) rfl #[.agg #[.string (⟨#[104, 116, 116, 112]⟩ : ByteArray), .string (⟨#[]⟩ : ByteArray), .string (⟨#[97]⟩ : ByteArray), .int .i64 0, .string ((⟨#[47]⟩ : ByteArray) ++ (x0_1.extract 1 ((ji3) : Int).toNat)), .bool false, .string (⟨#[]⟩ : ByteArray), .bool false, .string (⟨#[]⟩ : ByteArray)]] rfl z23_ ?_; (with_reducible refine (url_Good.calls k1 (⟨#[104, 116, 116, 112]⟩ : ByteArray) (⟨#[]⟩ : ByteArray) (⟨#[97]⟩ : ByteArray) 0 ((⟨#[47]⟩ : ByteArray) ++ (x0_1.extract 1 ((ji3) : Int).toNat)) false (⟨#[]⟩ : ByteArray) false (⟨#[]⟩ : ByteArray) false _ ?gw5_ A7.out).mono ?_); (case gw5_ => exact z14_); rintro e w17 ⟨rfl, hb⟩; refine ⟨_, rfl, ?_⟩; have n0_ := Aside0.mk (below_step z40_ hb); clear HB; have HB := n0_; clear n0_; (try clear hb); (try clear hb2); (try clear hk); (try clear hi)))
        go_ret
        exact ⟨by first | rfl | (simp [nil_bne, nil_beq]; done) | (simp [errW_none, errW_some] <;> rfl) | (simp only [← hji3]; first | rfl | (simp [errW_none, errW_some] <;> rfl)) | (simp [*, errW_none, errW_some] <;> rfl), z40_⟩
      ·rw [if_neg c6] at H
       exact absurd H (by simp)
     ·rw [if_neg c5] at H
      exact absurd H (by simp)
    ·rw [if_neg c4] at H
     exact absurd H (by simp)
   ·rw [if_neg c2] at H
    have c2b0 : decide (1 < (x0_1.size : Int)) = false := decide_eq_false c2
    have c2b1 : decide (1 < x0_1.size) = false := decide_eq_false (by omega)
    clear c2
    obtain rfl := Option.some.inj H
    go_wp2
    go_ret
    exact ⟨z41_, z40_⟩

def source_place.j0 : Nat → Bool → Int → ByteArray → Bool → ByteArray → Int → ByteArray → ByteArray → Option (Bool)
 | 0, _, _, _, _, _, _, _, _ => none
 | k + 1, x32, x107000, x107001, x107002, x107003, x107004, x107005, x107006 => if x32 = true then (some false) else (if x107005.toList = ([] : List UInt8) then (some true) else ((url_Good.f k (⟨#[104, 116, 116, 112]⟩ : ByteArray) (⟨#[]⟩ : ByteArray) (⟨#[97]⟩ : ByteArray) 0 x107005 false (⟨#[]⟩ : ByteArray) false (⟨#[]⟩ : ByteArray)).bind fun t110 => (if t110 = true then (some true) else ((source_long.f k x107005).bind fun t111 => (some t111)))))
def source_place.f (k : Nat) (a0_0 : Int) (a0_1 : ByteArray) (a0_2 : Bool) (a0_3 : ByteArray) (a0_4 : Int) (a0_5 a0_6 : ByteArray) : Option (Bool) := if a0_1.toList = ([] : List UInt8) then (if a0_4 < (-1) then (source_place.j0 k true a0_0 a0_1 a0_2 a0_3 a0_4 a0_5 a0_6) else (if a0_4 > 65535 then (source_place.j0 k true a0_0 a0_1 a0_2 a0_3 a0_4 a0_5 a0_6) else (if a0_6.toList = ([] : List UInt8) then ((host_Good.f k a0_3).bind fun t107 => (source_place.j0 k (!t107) a0_0 a0_1 a0_2 a0_3 a0_4 a0_5 a0_6)) else (source_place.j0 k true a0_0 a0_1 a0_2 a0_3 a0_4 a0_5 a0_6)))) else ((host_Default.f a0_1).bind fun t108 => (if t108 = 0 then (source_place.j0 k true a0_0 a0_1 a0_2 a0_3 a0_4 a0_5 a0_6) else (if a0_4 < (-1) then (source_place.j0 k true a0_0 a0_1 a0_2 a0_3 a0_4 a0_5 a0_6) else (if a0_4 > 65535 then (source_place.j0 k true a0_0 a0_1 a0_2 a0_3 a0_4 a0_5 a0_6) else (if a0_6.toList = ([] : List UInt8) then ((host_Good.f k a0_3).bind fun t109 => (source_place.j0 k (!t109) a0_0 a0_1 a0_2 a0_3 a0_4 a0_5 a0_6)) else (source_place.j0 k true a0_0 a0_1 a0_2 a0_3 a0_4 a0_5 a0_6))))))
set_option maxHeartbeats 8000000 in
set_option maxRecDepth 100000 in
theorem source_place.calls (k : Nat) (a0_0 : Int) (a0_1 : ByteArray) (a0_2 : Bool) (a0_3 : ByteArray) (a0_4 : Int) (a0_5 a0_6 : ByteArray) (r : Bool) (w : World) (hG_ : GW w) (h : source_place.f k a0_0 a0_1 a0_2 a0_3 a0_4 a0_5 a0_6 = some r) :
  Calls Tryd.prog 15 #[.agg #[.int .i64 a0_0, .string a0_1, .bool a0_2, .string a0_3, .int .i64 a0_4, .string a0_5, .string a0_6]] w fun e w' => e = .returned (.bool r) ∧ Below w.heap.size w w' := by
 have hu23 := Tryd.underlying23
 have hu31 := Tryd.underlying31
 have HB := Aside0.mk (Below.refl w.heap.size w)
 have H : (if a0_1.toList = ([] : List UInt8) then (if a0_4 < (-1) then (source_place.j0 k true a0_0 a0_1 a0_2 a0_3 a0_4 a0_5 a0_6) else (if a0_4 > 65535 then (source_place.j0 k true a0_0 a0_1 a0_2 a0_3 a0_4 a0_5 a0_6) else (if a0_6.toList = ([] : List UInt8) then ((host_Good.f k a0_3).bind fun t107 => (source_place.j0 k (!t107) a0_0 a0_1 a0_2 a0_3 a0_4 a0_5 a0_6)) else (source_place.j0 k true a0_0 a0_1 a0_2 a0_3 a0_4 a0_5 a0_6)))) else ((host_Default.f a0_1).bind fun t108 => (if t108 = 0 then (source_place.j0 k true a0_0 a0_1 a0_2 a0_3 a0_4 a0_5 a0_6) else (if a0_4 < (-1) then (source_place.j0 k true a0_0 a0_1 a0_2 a0_3 a0_4 a0_5 a0_6) else (if a0_4 > 65535 then (source_place.j0 k true a0_0 a0_1 a0_2 a0_3 a0_4 a0_5 a0_6) else (if a0_6.toList = ([] : List UInt8) then ((host_Good.f k a0_3).bind fun t109 => (source_place.j0 k (!t109) a0_0 a0_1 a0_2 a0_3 a0_4 a0_5 a0_6)) else (source_place.j0 k true a0_0 a0_1 a0_2 a0_3 a0_4 a0_5 a0_6))))))) = some r := h
 clear h; have HC2 := Aside0.mk H; clear H
 go_enter Tryd.func15, Tryd.ntmps15
 go_upto_region 1 with (first | ((with_reducible refine gate_dst (N := 1) rfl ?_); refine box_event ?hg (N := 1) ?hd (cs := #[.int .i64 a0_0, .string a0_1, .bool a0_2, .string a0_3, .int .i64 a0_4, .string a0_5, .string a0_6]) (t := 23) ?hr ?_; (case hd => rfl); (case hg => rfl); (case hr => first | (go_simp; done) | (go_simp; rfl)); intro gb106 hg w3 hbox hb; have n0_ := Aside0.mk (below_step z40_ hb); have n1_ := Aside0.mk (hbox); have n2_ := Aside0.mk ((by rw [hg]; exact (below_size z40_) : w.heap.size ≤ gb106)); have n3_ := Aside0.mk ((by rw [hg]; exact (below_size z40_) : w.heap.size ≤ gb106)); clear HB; have HB := n0_; have BK106 := n1_; have GW106 := n2_; have GE106 := n3_; clear n0_ n1_ n2_ n3_; clear hb hbox hg))
 (try simp only [Act.put, List.setIfInBounds_toArray, List.set_cons_zero, List.set_cons_succ])
 go_cut [32] (fun v32 wc => ∃ (kq : Nat) (x32_1 : Bool), v32 = .bool x32_1 ∧ Aside0 (source_place.j0 kq x32_1 a0_0 a0_1 a0_2 a0_3 a0_4 a0_5 a0_6 = some r) ∧ Aside0 (kq ≤ k) ∧ Aside0 (wc.heap[gb106]? = some (.cells #[.int .i64 a0_0, .string a0_1, .bool a0_2, .string a0_3, .int .i64 a0_4, .string a0_5, .string a0_6] 23 (0, 0))) ∧ Aside0 (Below w.heap.size w wc))
 case first =>
  have H := HC2.out
  clear HC2
  by_cases c4 : a0_1.toList = ([] : List UInt8)
  ·rw [if_pos c4] at H
   have c4b0 : (a0_1.toList == ([] : List UInt8)) = true := beq_iff_eq.mpr c4
   try have c4e0 : a0_1.toList.isEmpty = true := by rw [← nil_beq]; exact c4b0
   have c4b1 : (a0_1.toList != ([] : List UInt8)) = false := bne_eq_false_iff_eq.mpr c4
   clear c4
   (first | rw [c4b0] | (simp only [i64_w, i32_w]; rw [c4b0]) | rw [c4e0] | skip)
   by_cases c5 : a0_4 < (-1)
   ·rw [if_pos c5] at H
    have c5b0 : decide (a0_4 < (-1)) = true := decide_eq_true c5; clear c5
    have H' := Aside0.mk H
    clear H; obtain ⟨hcz6_0, hcz6_1, hcz6_2, hcz6_3, hcz6_4, hcz6_5, hcz6_6⟩ := blkc7_ BK106.out; obtain ⟨hfz6_0, hfz6_1, hfz6_2, hfz6_3, hfz6_4, hfz6_5, hfz6_6⟩ := blkf7_ BK106.out; go_wp2; go_meet
    case rel => exact ⟨_, (true), z59_, H', ⟨z65_⟩, ⟨z49_⟩, ⟨z30_⟩⟩
   ·rw [if_neg c5] at H
    have c5b0 : decide (a0_4 < (-1)) = false := decide_eq_false c5; clear c5
    by_cases c7 : a0_4 > 65535
    ·rw [if_pos c7] at H
     have c7b0 : decide (65535 < a0_4) = true := decide_eq_true c7; clear c7
     have H' := Aside0.mk H
     clear H; obtain ⟨hcz8_0, hcz8_1, hcz8_2, hcz8_3, hcz8_4, hcz8_5, hcz8_6⟩ := blkc7_ BK106.out; obtain ⟨hfz8_0, hfz8_1, hfz8_2, hfz8_3, hfz8_4, hfz8_5, hfz8_6⟩ := blkf7_ BK106.out; go_wp2; go_meet
     case rel => exact ⟨_, (true), z59_, H', ⟨z65_⟩, ⟨z49_⟩, ⟨z30_⟩⟩
    ·rw [if_neg c7] at H
     have c7b0 : decide (65535 < a0_4) = false := decide_eq_false c7; clear c7
     by_cases c9 : a0_6.toList = ([] : List UInt8)
     ·rw [if_pos c9] at H
      have c9b0 : (a0_6.toList == ([] : List UInt8)) = true := beq_iff_eq.mpr c9
      try have c9e0 : a0_6.toList.isEmpty = true := by rw [← nil_beq]; exact c9b0
      have c9b1 : (a0_6.toList != ([] : List UInt8)) = false := bne_eq_false_iff_eq.mpr c9
      clear c9
      replace H := Option.bind_eq_some_iff.mp H
      obtain ⟨t107, A100, H⟩ := H
      replace H : (source_place.j0 k (!t107) a0_0 a0_1 a0_2 a0_3 a0_4 a0_5 a0_6) = some r := H
      have A10 := Aside0.mk A100; clear A100
      have H' := Aside0.mk H
      clear H; obtain ⟨hcz11_0, hcz11_1, hcz11_2, hcz11_3, hcz11_4, hcz11_5, hcz11_6⟩ := blkc7_ BK106.out; obtain ⟨hfz11_0, hfz11_1, hfz11_2, hfz11_3, hfz11_4, hfz11_5, hfz11_6⟩ := blkf7_ BK106.out
      go_wp2_with (first | (go_at_call 34; (fail_if_success (have z_ := U_1)); have U_1 := trivial; (with_reducible refine (host_Good.calls k a0_3 t107 _ ?gw6_ A10.out).mono ?_); (case gw6_ => exact z8_); rintro e w12 ⟨rfl, hb⟩; have n0_ := Aside0.mk (blk_below (g := gb106) (o := .cells #[.int .i64 a0_0, .string a0_1, .bool a0_2, .string a0_3, .int .i64 a0_4, .string a0_5, .string a0_6] 23 (0, 0)) z49_ hb); have n1_ := Aside0.mk (below_step z30_ hb); clear BK106; clear HB; have BK106 := n0_; have HB := n1_; clear n0_ n1_; (try clear hb); (try clear hb2); (try clear hk); (try clear hi)))
      go_meet
      case rel => exact ⟨_, (!t107), z59_, H', ⟨z65_⟩, ⟨z49_⟩, ⟨z30_⟩⟩
     ·rw [if_neg c9] at H
      have c9b0 : (a0_6.toList == ([] : List UInt8)) = false := beq_eq_false_iff_ne.mpr c9
      try have c9e0 : a0_6.toList.isEmpty = false := by rw [← nil_beq]; exact c9b0
      have c9b1 : (a0_6.toList != ([] : List UInt8)) = true := bne_iff_ne.mpr c9
      have H' := Aside0.mk H
      clear H; obtain ⟨hcz13_0, hcz13_1, hcz13_2, hcz13_3, hcz13_4, hcz13_5, hcz13_6⟩ := blkc7_ BK106.out; obtain ⟨hfz13_0, hfz13_1, hfz13_2, hfz13_3, hfz13_4, hfz13_5, hfz13_6⟩ := blkf7_ BK106.out; go_wp2; go_meet
      case rel => exact ⟨_, (true), z59_, H', ⟨z65_⟩, ⟨z49_⟩, ⟨z30_⟩⟩
  ·rw [if_neg c4] at H
   have c4b0 : (a0_1.toList == ([] : List UInt8)) = false := beq_eq_false_iff_ne.mpr c4
   try have c4e0 : a0_1.toList.isEmpty = false := by rw [← nil_beq]; exact c4b0
   have c4b1 : (a0_1.toList != ([] : List UInt8)) = true := bne_iff_ne.mpr c4
   (first | rw [c4b0] | (simp only [i64_w, i32_w]; rw [c4b0]) | rw [c4e0] | skip)
   replace H := Option.bind_eq_some_iff.mp H
   obtain ⟨t108, A140, H⟩ := H
   replace H : (if t108 = 0 then (source_place.j0 k true a0_0 a0_1 a0_2 a0_3 a0_4 a0_5 a0_6) else (if a0_4 < (-1) then (source_place.j0 k true a0_0 a0_1 a0_2 a0_3 a0_4 a0_5 a0_6) else (if a0_4 > 65535 then (source_place.j0 k true a0_0 a0_1 a0_2 a0_3 a0_4 a0_5 a0_6) else (if a0_6.toList = ([] : List UInt8) then ((host_Good.f k a0_3).bind fun t109 => (source_place.j0 k (!t109) a0_0 a0_1 a0_2 a0_3 a0_4 a0_5 a0_6)) else (source_place.j0 k true a0_0 a0_1 a0_2 a0_3 a0_4 a0_5 a0_6))))) = some r := H
   have A14 := Aside0.mk A140; clear A140
   by_cases c15 : t108 = 0
   ·rw [if_pos c15] at H
    have c15b0 : (t108 == 0) = true := beq_iff_eq.mpr c15
    have c15b1 : (t108 != 0) = false := bne_eq_false_iff_eq.mpr c15
    clear c15
    have H' := Aside0.mk H
    clear H; obtain ⟨hcz16_0, hcz16_1, hcz16_2, hcz16_3, hcz16_4, hcz16_5, hcz16_6⟩ := blkc7_ BK106.out; obtain ⟨hfz16_0, hfz16_1, hfz16_2, hfz16_3, hfz16_4, hfz16_5, hfz16_6⟩ := blkf7_ BK106.out
    go_wp2_with (first | (go_at_call 13; (fail_if_success (have z_ := U_2)); have U_2 := trivial; (with_reducible refine (host_Default.calls a0_1 t108 _ ?gw7_ A14.out).mono ?_); (case gw7_ => exact z8_); rintro e w' ⟨rfl, ⟨nd, rfl⟩⟩))
    go_meet
    case rel => exact ⟨_, (true), z59_, H', ⟨z65_⟩, ⟨z49_⟩, ⟨z30_⟩⟩
   ·rw [if_neg c15] at H
    have c15b0 : (t108 == 0) = false := beq_eq_false_iff_ne.mpr c15
    have c15b1 : (t108 != 0) = true := bne_iff_ne.mpr c15
    by_cases c17 : a0_4 < (-1)
    ·rw [if_pos c17] at H
     have c17b0 : decide (a0_4 < (-1)) = true := decide_eq_true c17; clear c17
     have H' := Aside0.mk H
     clear H; obtain ⟨hcz18_0, hcz18_1, hcz18_2, hcz18_3, hcz18_4, hcz18_5, hcz18_6⟩ := blkc7_ BK106.out; obtain ⟨hfz18_0, hfz18_1, hfz18_2, hfz18_3, hfz18_4, hfz18_5, hfz18_6⟩ := blkf7_ BK106.out
     go_wp2_with (first | (go_at_call 13; (fail_if_success (have z_ := U_3)); have U_3 := trivial; (with_reducible refine (host_Default.calls a0_1 t108 _ ?gw8_ A14.out).mono ?_); (case gw8_ => exact z8_); rintro e w' ⟨rfl, ⟨nd, rfl⟩⟩))
     go_meet
     case rel => exact ⟨_, (true), z59_, H', ⟨z65_⟩, ⟨z49_⟩, ⟨z30_⟩⟩
    ·rw [if_neg c17] at H
     have c17b0 : decide (a0_4 < (-1)) = false := decide_eq_false c17; clear c17
     by_cases c19 : a0_4 > 65535
     ·rw [if_pos c19] at H
      have c19b0 : decide (65535 < a0_4) = true := decide_eq_true c19; clear c19
      have H' := Aside0.mk H
      clear H; obtain ⟨hcz20_0, hcz20_1, hcz20_2, hcz20_3, hcz20_4, hcz20_5, hcz20_6⟩ := blkc7_ BK106.out; obtain ⟨hfz20_0, hfz20_1, hfz20_2, hfz20_3, hfz20_4, hfz20_5, hfz20_6⟩ := blkf7_ BK106.out
      go_wp2_with (first | (go_at_call 13; (fail_if_success (have z_ := U_4)); have U_4 := trivial; (with_reducible refine (host_Default.calls a0_1 t108 _ ?gw9_ A14.out).mono ?_); (case gw9_ => exact z8_); rintro e w' ⟨rfl, ⟨nd, rfl⟩⟩))
      go_meet
      case rel => exact ⟨_, (true), z59_, H', ⟨z65_⟩, ⟨z49_⟩, ⟨z30_⟩⟩
     ·rw [if_neg c19] at H
      have c19b0 : decide (65535 < a0_4) = false := decide_eq_false c19; clear c19
      by_cases c21 : a0_6.toList = ([] : List UInt8)
      ·rw [if_pos c21] at H
       have c21b0 : (a0_6.toList == ([] : List UInt8)) = true := beq_iff_eq.mpr c21
       try have c21e0 : a0_6.toList.isEmpty = true := by rw [← nil_beq]; exact c21b0
       have c21b1 : (a0_6.toList != ([] : List UInt8)) = false := bne_eq_false_iff_eq.mpr c21
       clear c21
       replace H := Option.bind_eq_some_iff.mp H
       obtain ⟨t109, A220, H⟩ := H
       replace H : (source_place.j0 k (!t109) a0_0 a0_1 a0_2 a0_3 a0_4 a0_5 a0_6) = some r := H
       have A22 := Aside0.mk A220; clear A220
       have H' := Aside0.mk H
       clear H; obtain ⟨hcz23_0, hcz23_1, hcz23_2, hcz23_3, hcz23_4, hcz23_5, hcz23_6⟩ := blkc7_ BK106.out; obtain ⟨hfz23_0, hfz23_1, hfz23_2, hfz23_3, hfz23_4, hfz23_5, hfz23_6⟩ := blkf7_ BK106.out
       go_wp2_with (first | (go_at_call 13; (fail_if_success (have z_ := U_5)); have U_5 := trivial; (with_reducible refine (host_Default.calls a0_1 t108 _ ?gw10_ A14.out).mono ?_); (case gw10_ => exact z8_); rintro e w' ⟨rfl, ⟨nd, rfl⟩⟩) | (go_at_call 34; (fail_if_success (have z_ := U_6)); have U_6 := trivial; (with_reducible refine (host_Good.calls k a0_3 t109 _ ?gw11_ A22.out).mono ?_); (case gw11_ => exact z8_); rintro e w24 ⟨rfl, hb⟩; have n0_ := Aside0.mk (blk_below (g := gb106) (o := .cells #[.int .i64 a0_0, .string a0_1, .bool a0_2, .string a0_3, .int .i64 a0_4, .string a0_5, .string a0_6] 23 (0, 0)) z49_ hb); have n1_ := Aside0.mk (below_step z30_ hb); clear BK106; clear HB; have BK106 := n0_; have HB := n1_; clear n0_ n1_; (try clear hb); (try clear hb2); (try clear hk); (try clear hi)))
       go_meet
       case rel => exact ⟨_, (!t109), z59_, H', ⟨z65_⟩, ⟨z49_⟩, ⟨z30_⟩⟩
      ·rw [if_neg c21] at H
       have c21b0 : (a0_6.toList == ([] : List UInt8)) = false := beq_eq_false_iff_ne.mpr c21
       try have c21e0 : a0_6.toList.isEmpty = false := by rw [← nil_beq]; exact c21b0
       have c21b1 : (a0_6.toList != ([] : List UInt8)) = true := bne_iff_ne.mpr c21
       have H' := Aside0.mk H
       clear H; obtain ⟨hcz25_0, hcz25_1, hcz25_2, hcz25_3, hcz25_4, hcz25_5, hcz25_6⟩ := blkc7_ BK106.out; obtain ⟨hfz25_0, hfz25_1, hfz25_2, hfz25_3, hfz25_4, hfz25_5, hfz25_6⟩ := blkf7_ BK106.out
       go_wp2_with (first | (go_at_call 13; (fail_if_success (have z_ := U_7)); have U_7 := trivial; (with_reducible refine (host_Default.calls a0_1 t108 _ ?gw12_ A14.out).mono ?_); (case gw12_ => exact z8_); rintro e w' ⟨rfl, ⟨nd, rfl⟩⟩))
       go_meet
       case rel => exact ⟨_, (true), z59_, H', ⟨z65_⟩, ⟨z49_⟩, ⟨z30_⟩⟩
 case rest =>
  clear HC2
  obtain ⟨kq, x32_1, rfl, HA, HJ1, BK106, HB⟩ := hcut
  cases kq with
  | zero => exact absurd HA.out (by simp [source_place.j0])
  | succ kj1 =>
   have H := HA.out
   clear HA
   simp only [source_place.j0] at H
   by_cases c26 : x32_1 = true
   ·subst c26
    have H1 : (some false) = some r := by rw [if_pos rfl] at H; exact H
    clear H
    have H := H1
    clear H1
    obtain rfl := Option.some.inj H
    go_wp2
    go_ret
    exact ⟨z41_, z30_⟩
   ·replace c26 := Bool.eq_false_iff.mpr c26
    subst c26
    have H1 : (if a0_5.toList = ([] : List UInt8) then (some true) else ((url_Good.f kj1 (⟨#[104, 116, 116, 112]⟩ : ByteArray) (⟨#[]⟩ : ByteArray) (⟨#[97]⟩ : ByteArray) 0 a0_5 false (⟨#[]⟩ : ByteArray) false (⟨#[]⟩ : ByteArray)).bind fun t110 => (if t110 = true then (some true) else ((source_long.f kj1 a0_5).bind fun t111 => (some t111))))) = some r := by rw [if_neg (show ¬ (false = true) by decide)] at H; exact H
    clear H
    have H := H1
    clear H1
    by_cases c27 : a0_5.toList = ([] : List UInt8)
    ·rw [if_pos c27] at H
     have c27b0 : (a0_5.toList == ([] : List UInt8)) = true := beq_iff_eq.mpr c27
     try have c27e0 : a0_5.toList.isEmpty = true := by rw [← nil_beq]; exact c27b0
     have c27b1 : (a0_5.toList != ([] : List UInt8)) = false := bne_eq_false_iff_eq.mpr c27
     clear c27
     obtain rfl := Option.some.inj H
     obtain ⟨hcz28_0, hcz28_1, hcz28_2, hcz28_3, hcz28_4, hcz28_5, hcz28_6⟩ := blkc7_ BK106.out; obtain ⟨hfz28_0, hfz28_1, hfz28_2, hfz28_3, hfz28_4, hfz28_5, hfz28_6⟩ := blkf7_ BK106.out; go_wp2
     go_ret
     exact ⟨z41_, z30_⟩
    ·rw [if_neg c27] at H
     have c27b0 : (a0_5.toList == ([] : List UInt8)) = false := beq_eq_false_iff_ne.mpr c27
     try have c27e0 : a0_5.toList.isEmpty = false := by rw [← nil_beq]; exact c27b0
     have c27b1 : (a0_5.toList != ([] : List UInt8)) = true := bne_iff_ne.mpr c27
     replace H := Option.bind_eq_some_iff.mp H
     obtain ⟨t110, A290, H⟩ := H
     replace H : (if t110 = true then (some true) else ((source_long.f kj1 a0_5).bind fun t111 => (some t111))) = some r := H
     have A29 := Aside0.mk A290; clear A290
     by_cases c30 : t110 = true
     ·subst c30
      have H1 : (some true) = some r := by rw [if_pos rfl] at H; exact H
      clear H
      have H := H1
      clear H1
      obtain rfl := Option.some.inj H
      obtain ⟨hcz31_0, hcz31_1, hcz31_2, hcz31_3, hcz31_4, hcz31_5, hcz31_6⟩ := blkc7_ BK106.out; obtain ⟨hfz31_0, hfz31_1, hfz31_2, hfz31_3, hfz31_4, hfz31_5, hfz31_6⟩ := blkf7_ BK106.out
      go_wp2_with (first | (go_at_call 35; (fail_if_success (have z_ := U_8)); have U_8 := trivial; (with_reducible refine (url_Good.calls kj1 (⟨#[104, 116, 116, 112]⟩ : ByteArray) (⟨#[]⟩ : ByteArray) (⟨#[97]⟩ : ByteArray) 0 a0_5 false (⟨#[]⟩ : ByteArray) false (⟨#[]⟩ : ByteArray) true _ ?gw13_ A29.out).mono ?_); (case gw13_ => exact z8_); rintro e w32 ⟨rfl, hb⟩; have n0_ := Aside0.mk (blk_below (g := gb106) (o := .cells #[.int .i64 a0_0, .string a0_1, .bool a0_2, .string a0_3, .int .i64 a0_4, .string a0_5, .string a0_6] 23 (0, 0)) z49_ hb); have n1_ := Aside0.mk (below_step z30_ hb); clear BK106; clear HB; have BK106 := n0_; have HB := n1_; clear n0_ n1_; (try clear hb); (try clear hb2); (try clear hk); (try clear hi)))
      go_ret
      exact ⟨z41_, z30_⟩
     ·replace c30 := Bool.eq_false_iff.mpr c30
      subst c30
      have H1 : ((source_long.f kj1 a0_5).bind fun t111 => (some t111)) = some r := by rw [if_neg (show ¬ (false = true) by decide)] at H; exact H
      clear H
      have H := H1
      clear H1
      replace H := Option.bind_eq_some_iff.mp H
      obtain ⟨t111, A330, H⟩ := H
      replace H : (some t111) = some r := H
      have A33 := Aside0.mk A330; clear A330
      obtain rfl := Option.some.inj H
      obtain ⟨hcz34_0, hcz34_1, hcz34_2, hcz34_3, hcz34_4, hcz34_5, hcz34_6⟩ := blkc7_ BK106.out; obtain ⟨hfz34_0, hfz34_1, hfz34_2, hfz34_3, hfz34_4, hfz34_5, hfz34_6⟩ := blkf7_ BK106.out
      go_wp2_with (first | (go_at_call 35; (fail_if_success (have z_ := U_9)); have U_9 := trivial; (with_reducible refine (url_Good.calls kj1 (⟨#[104, 116, 116, 112]⟩ : ByteArray) (⟨#[]⟩ : ByteArray) (⟨#[97]⟩ : ByteArray) 0 a0_5 false (⟨#[]⟩ : ByteArray) false (⟨#[]⟩ : ByteArray) false _ ?gw14_ A29.out).mono ?_); (case gw14_ => exact z8_); rintro e w35 ⟨rfl, hb⟩; have n0_ := Aside0.mk (blk_below (g := gb106) (o := .cells #[.int .i64 a0_0, .string a0_1, .bool a0_2, .string a0_3, .int .i64 a0_4, .string a0_5, .string a0_6] 23 (0, 0)) z49_ hb); have n1_ := Aside0.mk (below_step z30_ hb); clear BK106; clear HB; have BK106 := n0_; have HB := n1_; clear n0_ n1_; (try clear hb); (try clear hb2); (try clear hk); (try clear hi); have hcz36_0 : w35.cell? ⟨gb106, 0, none⟩ = some (.int .i64 a0_0) := (blk_cell BK106.out 0).trans rfl; have hcz36_1 : w35.cell? ⟨gb106, 1, none⟩ = some (.string a0_1) := (blk_cell BK106.out 1).trans rfl; have hcz36_2 : w35.cell? ⟨gb106, 2, none⟩ = some (.bool a0_2) := (blk_cell BK106.out 2).trans rfl; have hcz36_3 : w35.cell? ⟨gb106, 3, none⟩ = some (.string a0_3) := (blk_cell BK106.out 3).trans rfl; have hcz36_4 : w35.cell? ⟨gb106, 4, none⟩ = some (.int .i64 a0_4) := (blk_cell BK106.out 4).trans rfl; have hcz36_5 : w35.cell? ⟨gb106, 5, none⟩ = some (.string a0_5) := (blk_cell BK106.out 5).trans rfl; have hcz36_6 : w35.cell? ⟨gb106, 6, none⟩ = some (.string a0_6) := (blk_cell BK106.out 6).trans rfl; have hfz36_0 := blk_frozen BK106.out 0; have hfz36_1 := blk_frozen BK106.out 1; have hfz36_2 := blk_frozen BK106.out 2; have hfz36_3 := blk_frozen BK106.out 3; have hfz36_4 := blk_frozen BK106.out 4; have hfz36_5 := blk_frozen BK106.out 5; have hfz36_6 := blk_frozen BK106.out 6) | (go_at_call 36; (fail_if_success (have z_ := U_10)); have U_10 := trivial; (with_reducible refine (source_long.calls kj1 a0_5 t111 _ ?gw15_ A33.out).mono ?_); (case gw15_ => exact z8_); rintro e w37 ⟨rfl, hb⟩; have n0_ := Aside0.mk (blk_below (g := gb106) (o := .cells #[.int .i64 a0_0, .string a0_1, .bool a0_2, .string a0_3, .int .i64 a0_4, .string a0_5, .string a0_6] 23 (0, 0)) z49_ hb); have n1_ := Aside0.mk (below_step z30_ hb); clear BK106; clear HB; have BK106 := n0_; have HB := n1_; clear n0_ n1_; (try clear hb); (try clear hb2); (try clear hk); (try clear hi)))
      go_ret
      exact ⟨z41_, z30_⟩

def source_Good.j0 : Nat → Int → Bool → Int → ByteArray → Bool → ByteArray → Int → ByteArray → ByteArray → Option (Bool)
 | 0, _, _, _, _, _, _, _, _, _ => none
 | k + 1, x4, x5, x113000, x113001, x113002, x113003, x113004, x113005, x113006 => if x5 = true then ((source_plain.f x113000 x113001 x113002 x113003 x113004 x113005 x113006).bind fun t113 => (some t113)) else (if x4 = 3 then (if (!x113002 && (x113003.toList == ([] : List UInt8) && (x113004 == 0 && (x113005.toList == ([] : List UInt8) && (x113006.toList == ([] : List UInt8)))))) = true then ((host_Default.f x113001).bind fun t114 => (some (decide (t114 > 0)))) else (some false)) else (if x4 = 5 then (if (x113001.toList == ([] : List UInt8) && (!x113002 && (x113003.toList == ([] : List UInt8) && (x113004 == 0 && (x113005.toList == ([] : List UInt8)))))) = true then ((source_random.f k x113006).bind fun t115 => (some t115)) else (some false)) else (if x4 = 4 then ((source_place.f k x113000 x113001 x113002 x113003 x113004 x113005 x113006).bind fun t116 => (some t116)) else (some false))))
def source_Good.f (k : Nat) (a0_0 : Int) (a0_1 : ByteArray) (a0_2 : Bool) (a0_3 : ByteArray) (a0_4 : Int) (a0_5 a0_6 : ByteArray) : Option (Bool) := if a0_0 = 1 then (source_Good.j0 k a0_0 (a0_0 == 1) a0_0 a0_1 a0_2 a0_3 a0_4 a0_5 a0_6) else (source_Good.j0 k a0_0 (a0_0 == 2) a0_0 a0_1 a0_2 a0_3 a0_4 a0_5 a0_6)
set_option maxHeartbeats 8000000 in
set_option maxRecDepth 100000 in
theorem source_Good.calls (k : Nat) (a0_0 : Int) (a0_1 : ByteArray) (a0_2 : Bool) (a0_3 : ByteArray) (a0_4 : Int) (a0_5 a0_6 : ByteArray) (r : Bool) (w : World) (hG_ : GW w) (h : source_Good.f k a0_0 a0_1 a0_2 a0_3 a0_4 a0_5 a0_6 = some r) :
  Calls Tryd.prog 5 #[.agg #[.int .i64 a0_0, .string a0_1, .bool a0_2, .string a0_3, .int .i64 a0_4, .string a0_5, .string a0_6]] w fun e w' => e = .returned (.bool r) ∧ Below w.heap.size w w' := by
 have hu23 := Tryd.underlying23
 have HB := Aside0.mk (Below.refl w.heap.size w)
 have H : (if a0_0 = 1 then (source_Good.j0 k a0_0 (a0_0 == 1) a0_0 a0_1 a0_2 a0_3 a0_4 a0_5 a0_6) else (source_Good.j0 k a0_0 (a0_0 == 2) a0_0 a0_1 a0_2 a0_3 a0_4 a0_5 a0_6)) = some r := h
 clear h; have HC2 := Aside0.mk H; clear H
 go_enter Tryd.func5, Tryd.ntmps5
 go_upto_if 5 with (first | ((with_reducible refine gate_dst (N := 1) rfl ?_); refine box_event ?hg (N := 1) ?hd (cs := #[.int .i64 a0_0, .string a0_1, .bool a0_2, .string a0_3, .int .i64 a0_4, .string a0_5, .string a0_6]) (t := 23) ?hr ?_; (case hd => rfl); (case hg => rfl); (case hr => first | (go_simp; done) | (go_simp; rfl)); intro gb112 hg w3 hbox hb; have n0_ := Aside0.mk (below_step z40_ hb); have n1_ := Aside0.mk (hbox); have n2_ := Aside0.mk ((by rw [hg]; exact (below_size z40_) : w.heap.size ≤ gb112)); have n3_ := Aside0.mk ((by rw [hg]; exact (below_size z40_) : w.heap.size ≤ gb112)); clear HB; have HB := n0_; have BK112 := n1_; have GW112 := n2_; have GE112 := n3_; clear n0_ n1_ n2_ n3_; clear hb hbox hg; have hcz4_0 : w3.cell? ⟨gb112, 0, none⟩ = some (.int .i64 a0_0) := (blk_cell BK112.out 0).trans rfl; have hcz4_1 : w3.cell? ⟨gb112, 1, none⟩ = some (.string a0_1) := (blk_cell BK112.out 1).trans rfl; have hcz4_2 : w3.cell? ⟨gb112, 2, none⟩ = some (.bool a0_2) := (blk_cell BK112.out 2).trans rfl; have hcz4_3 : w3.cell? ⟨gb112, 3, none⟩ = some (.string a0_3) := (blk_cell BK112.out 3).trans rfl; have hcz4_4 : w3.cell? ⟨gb112, 4, none⟩ = some (.int .i64 a0_4) := (blk_cell BK112.out 4).trans rfl; have hcz4_5 : w3.cell? ⟨gb112, 5, none⟩ = some (.string a0_5) := (blk_cell BK112.out 5).trans rfl; have hcz4_6 : w3.cell? ⟨gb112, 6, none⟩ = some (.string a0_6) := (blk_cell BK112.out 6).trans rfl; have hfz4_0 := blk_frozen BK112.out 0; have hfz4_1 := blk_frozen BK112.out 1; have hfz4_2 := blk_frozen BK112.out 2; have hfz4_3 := blk_frozen BK112.out 3; have hfz4_4 := blk_frozen BK112.out 4; have hfz4_5 := blk_frozen BK112.out 5; have hfz4_6 := blk_frozen BK112.out 6))
 (try simp only [Act.put, List.setIfInBounds_toArray, List.set_cons_zero, List.set_cons_succ])
 go_cut [5] (fun v5 wc => ∃ (kq : Nat) (x5_1 : Bool), v5 = .bool x5_1 ∧ Aside0 (source_Good.j0 kq a0_0 x5_1 a0_0 a0_1 a0_2 a0_3 a0_4 a0_5 a0_6 = some r) ∧ Aside0 (kq ≤ k) ∧ Aside0 (wc.heap[gb112]? = some (.cells #[.int .i64 a0_0, .string a0_1, .bool a0_2, .string a0_3, .int .i64 a0_4, .string a0_5, .string a0_6] 23 (0, 0))) ∧ Aside0 (Below w.heap.size w wc))
 case first =>
  have H := HC2.out
  clear HC2
  by_cases c5 : a0_0 = 1
  ·rw [if_pos c5] at H
   have c5b0 : (a0_0 == 1) = true := beq_iff_eq.mpr c5
   have c5b1 : (a0_0 != 1) = false := bne_eq_false_iff_eq.mpr c5
   clear c5
   (first | rw [c5b0] | (simp only [i64_w, i32_w]; rw [c5b0]) | skip)
   have H' := Aside0.mk H
   clear H; go_wp2; go_meet
   case rel => exact ⟨_, ((a0_0 == 1)), z59_, H', ⟨z65_⟩, ⟨z50_⟩, ⟨z31_⟩⟩
  ·rw [if_neg c5] at H
   have c5b0 : (a0_0 == 1) = false := beq_eq_false_iff_ne.mpr c5
   have c5b1 : (a0_0 != 1) = true := bne_iff_ne.mpr c5
   (first | rw [c5b0] | (simp only [i64_w, i32_w]; rw [c5b0]) | skip)
   have H' := Aside0.mk H
   clear H; go_wp2; go_meet
   case rel => exact ⟨_, ((a0_0 == 2)), z59_, H', ⟨z65_⟩, ⟨z50_⟩, ⟨z31_⟩⟩
 case rest =>
  clear HC2; (try clear hcz4_0 hcz4_1 hcz4_2 hcz4_3 hcz4_4 hcz4_5 hcz4_6); (try clear hfz4_0 hfz4_1 hfz4_2 hfz4_3 hfz4_4 hfz4_5 hfz4_6)
  obtain ⟨kq, x5_1, rfl, HA, HJ1, BK112, HB⟩ := hcut
  cases kq with
  | zero => exact absurd HA.out (by simp [source_Good.j0])
  | succ kj1 =>
   have H := HA.out
   clear HA
   simp only [source_Good.j0] at H
   by_cases c6 : x5_1 = true
   ·subst c6
    have H1 : ((source_plain.f a0_0 a0_1 a0_2 a0_3 a0_4 a0_5 a0_6).bind fun t113 => (some t113)) = some r := by rw [if_pos rfl] at H; exact H
    clear H
    have H := H1
    clear H1
    replace H := Option.bind_eq_some_iff.mp H
    obtain ⟨t113, A70, H⟩ := H
    replace H : (some t113) = some r := H
    have A7 := Aside0.mk A70; clear A70
    obtain rfl := Option.some.inj H
    obtain ⟨hcz8_0, hcz8_1, hcz8_2, hcz8_3, hcz8_4, hcz8_5, hcz8_6⟩ := blkc7_ BK112.out; obtain ⟨hfz8_0, hfz8_1, hfz8_2, hfz8_3, hfz8_4, hfz8_5, hfz8_6⟩ := blkf7_ BK112.out
    go_wp2_with (first | ((with_reducible refine gate_callee (f := 12) rfl ?_); refine goesL_ (some 9) rfl rfl Tryd.func12 (by kernel_rfl) rfl #[.agg #[.int .i64 a0_0, .string a0_1, .bool a0_2, .string a0_3, .int .i64 a0_4, .string a0_5, .string a0_6]] rfl z39_ ?_; (with_reducible refine (source_plain.calls a0_0 a0_1 a0_2 a0_3 a0_4 a0_5 a0_6 t113 _ ?gw16_ A7.out).mono ?_); (case gw16_ => exact z9_); rintro e w9 ⟨rfl, hb⟩; refine ⟨_, rfl, ?_⟩; have n0_ := Aside0.mk (blk_below (g := gb112) (o := .cells #[.int .i64 a0_0, .string a0_1, .bool a0_2, .string a0_3, .int .i64 a0_4, .string a0_5, .string a0_6] 23 (0, 0)) z50_ hb); have n1_ := Aside0.mk (below_step z31_ hb); clear BK112; clear HB; have BK112 := n0_; have HB := n1_; clear n0_ n1_; (try clear hb); (try clear hb2); (try clear hk); (try clear hi)))
    go_ret
    exact ⟨z41_, z31_⟩
   ·replace c6 := Bool.eq_false_iff.mpr c6
    subst c6
    have H1 : (if a0_0 = 3 then (if (!a0_2 && (a0_3.toList == ([] : List UInt8) && (a0_4 == 0 && (a0_5.toList == ([] : List UInt8) && (a0_6.toList == ([] : List UInt8)))))) = true then ((host_Default.f a0_1).bind fun t114 => (some (decide (t114 > 0)))) else (some false)) else (if a0_0 = 5 then (if (a0_1.toList == ([] : List UInt8) && (!a0_2 && (a0_3.toList == ([] : List UInt8) && (a0_4 == 0 && (a0_5.toList == ([] : List UInt8)))))) = true then ((source_random.f kj1 a0_6).bind fun t115 => (some t115)) else (some false)) else (if a0_0 = 4 then ((source_place.f kj1 a0_0 a0_1 a0_2 a0_3 a0_4 a0_5 a0_6).bind fun t116 => (some t116)) else (some false)))) = some r := by rw [if_neg (show ¬ (false = true) by decide)] at H; exact H
    clear H
    have H := H1
    clear H1
    by_cases c10 : a0_0 = 3
    ·rw [if_pos c10] at H
     have c10b0 : (a0_0 == 3) = true := beq_iff_eq.mpr c10
     have c10b1 : (a0_0 != 3) = false := bne_eq_false_iff_eq.mpr c10
     clear c10
     by_cases c11 : (!a0_2 && (a0_3.toList == ([] : List UInt8) && (a0_4 == 0 && (a0_5.toList == ([] : List UInt8) && (a0_6.toList == ([] : List UInt8)))))) = true
     ·rw [if_pos c11] at H
      have c11b0 : (!a0_2 && (a0_3.toList == ([] : List UInt8) && (a0_4 == 0 && (a0_5.toList == ([] : List UInt8) && (a0_6.toList == ([] : List UInt8)))))) = true := c11
      try have c11j0 : (!a0_2 && (a0_3.toList.isEmpty && (a0_4 == 0 && (a0_5.toList.isEmpty && (a0_6.toList.isEmpty))))) = true := by have h_ := c11b0; simp only [nil_beq] at h_; exact h_
      clear c11
      replace H := Option.bind_eq_some_iff.mp H
      obtain ⟨t114, A120, H⟩ := H
      replace H : (some (decide (t114 > 0))) = some r := H
      have A12 := Aside0.mk A120; clear A120
      obtain rfl := Option.some.inj H
      obtain ⟨hcz13_0, hcz13_1, hcz13_2, hcz13_3, hcz13_4, hcz13_5, hcz13_6⟩ := blkc7_ BK112.out; obtain ⟨hfz13_0, hfz13_1, hfz13_2, hfz13_3, hfz13_4, hfz13_5, hfz13_6⟩ := blkf7_ BK112.out
      go_wp2_with (first | (go_at_call 13; (fail_if_success (have z_ := U_11)); have U_11 := trivial; (with_reducible refine (host_Default.calls a0_1 t114 _ ?gw17_ A12.out).mono ?_); (case gw17_ => exact z9_); rintro e w' ⟨rfl, ⟨nd, rfl⟩⟩))
      go_ret
      exact ⟨z41_, z31_⟩
     ·rw [if_neg c11] at H
      have c11b0 : (!a0_2 && (a0_3.toList == ([] : List UInt8) && (a0_4 == 0 && (a0_5.toList == ([] : List UInt8) && (a0_6.toList == ([] : List UInt8)))))) = false := by simpa using c11
      try have c11j0 : (!a0_2 && (a0_3.toList.isEmpty && (a0_4 == 0 && (a0_5.toList.isEmpty && (a0_6.toList.isEmpty))))) = false := by have h_ := c11b0; simp only [nil_beq] at h_; exact h_
      clear c11
      obtain rfl := Option.some.inj H
      obtain ⟨hcz14_0, hcz14_1, hcz14_2, hcz14_3, hcz14_4, hcz14_5, hcz14_6⟩ := blkc7_ BK112.out; obtain ⟨hfz14_0, hfz14_1, hfz14_2, hfz14_3, hfz14_4, hfz14_5, hfz14_6⟩ := blkf7_ BK112.out; go_wp2
      go_ret
      exact ⟨z41_, z31_⟩
    ·rw [if_neg c10] at H
     have c10b0 : (a0_0 == 3) = false := beq_eq_false_iff_ne.mpr c10
     have c10b1 : (a0_0 != 3) = true := bne_iff_ne.mpr c10
     by_cases c15 : a0_0 = 5
     ·rw [if_pos c15] at H
      have c15b0 : (a0_0 == 5) = true := beq_iff_eq.mpr c15
      have c15b1 : (a0_0 != 5) = false := bne_eq_false_iff_eq.mpr c15
      clear c15
      by_cases c16 : (a0_1.toList == ([] : List UInt8) && (!a0_2 && (a0_3.toList == ([] : List UInt8) && (a0_4 == 0 && (a0_5.toList == ([] : List UInt8)))))) = true
      ·rw [if_pos c16] at H
       have c16b0 : (a0_1.toList == ([] : List UInt8) && (!a0_2 && (a0_3.toList == ([] : List UInt8) && (a0_4 == 0 && (a0_5.toList == ([] : List UInt8)))))) = true := c16
       try have c16j0 : (a0_1.toList.isEmpty && (!a0_2 && (a0_3.toList.isEmpty && (a0_4 == 0 && (a0_5.toList.isEmpty))))) = true := by have h_ := c16b0; simp only [nil_beq] at h_; exact h_
       (try (have c16b1 : decide (a0_1.toList = ([] : List UInt8) && (!a0_2 && (a0_3.toList == ([] : List UInt8) && (a0_4 == 0 && (a0_5.toList == ([] : List UInt8)))))) = true := by simpa using c16))
       (try (have c16b2 : (a0_1.toList == ([] : List UInt8) && (!a0_2 && (a0_3.toList == ([] : List UInt8) && (a0_4 == 0 && (a0_5.toList == ([] : List UInt8)))))) = true := by simpa using c16))
       clear c16
       replace H := Option.bind_eq_some_iff.mp H
       obtain ⟨t115, A170, H⟩ := H
       replace H : (some t115) = some r := H
       have A17 := Aside0.mk A170; clear A170
       obtain rfl := Option.some.inj H
       obtain ⟨hcz18_0, hcz18_1, hcz18_2, hcz18_3, hcz18_4, hcz18_5, hcz18_6⟩ := blkc7_ BK112.out; obtain ⟨hfz18_0, hfz18_1, hfz18_2, hfz18_3, hfz18_4, hfz18_5, hfz18_6⟩ := blkf7_ BK112.out
       go_wp2_with (first | (go_at_call 14; (fail_if_success (have z_ := U_12)); have U_12 := trivial; (with_reducible refine (source_random.calls kj1 a0_6 t115 _ ?gw18_ A17.out).mono ?_); (case gw18_ => exact z9_); rintro e w' ⟨rfl, ⟨nd, rfl⟩⟩))
       go_ret
       exact ⟨z41_, z31_⟩
      ·rw [if_neg c16] at H
       have c16b0 : (a0_1.toList == ([] : List UInt8) && (!a0_2 && (a0_3.toList == ([] : List UInt8) && (a0_4 == 0 && (a0_5.toList == ([] : List UInt8)))))) = false := by simpa using c16
       try have c16j0 : (a0_1.toList.isEmpty && (!a0_2 && (a0_3.toList.isEmpty && (a0_4 == 0 && (a0_5.toList.isEmpty))))) = false := by have h_ := c16b0; simp only [nil_beq] at h_; exact h_
       (try (have c16b1 : decide (a0_1.toList = ([] : List UInt8) && (!a0_2 && (a0_3.toList == ([] : List UInt8) && (a0_4 == 0 && (a0_5.toList == ([] : List UInt8)))))) = false := by simpa using c16))
       (try (have c16b2 : (a0_1.toList == ([] : List UInt8) && (!a0_2 && (a0_3.toList == ([] : List UInt8) && (a0_4 == 0 && (a0_5.toList == ([] : List UInt8)))))) = false := by simpa using c16))
       (try (have c16b3 : ¬ (a0_1.toList = ([] : List UInt8) && (!a0_2 && (a0_3.toList == ([] : List UInt8) && (a0_4 == 0 && (a0_5.toList == ([] : List UInt8)))))) := by simpa using c16))
       clear c16
       obtain rfl := Option.some.inj H
       obtain ⟨hcz19_0, hcz19_1, hcz19_2, hcz19_3, hcz19_4, hcz19_5, hcz19_6⟩ := blkc7_ BK112.out; obtain ⟨hfz19_0, hfz19_1, hfz19_2, hfz19_3, hfz19_4, hfz19_5, hfz19_6⟩ := blkf7_ BK112.out; go_wp2
       go_ret
       exact ⟨z41_, z31_⟩
     ·rw [if_neg c15] at H
      have c15b0 : (a0_0 == 5) = false := beq_eq_false_iff_ne.mpr c15
      have c15b1 : (a0_0 != 5) = true := bne_iff_ne.mpr c15
      by_cases c20 : a0_0 = 4
      ·rw [if_pos c20] at H
       have c20b0 : (a0_0 == 4) = true := beq_iff_eq.mpr c20
       have c20b1 : (a0_0 != 4) = false := bne_eq_false_iff_eq.mpr c20
       clear c20
       replace H := Option.bind_eq_some_iff.mp H
       obtain ⟨t116, A210, H⟩ := H
       replace H : (some t116) = some r := H
       have A21 := Aside0.mk A210; clear A210
       obtain rfl := Option.some.inj H
       obtain ⟨hcz22_0, hcz22_1, hcz22_2, hcz22_3, hcz22_4, hcz22_5, hcz22_6⟩ := blkc7_ BK112.out; obtain ⟨hfz22_0, hfz22_1, hfz22_2, hfz22_3, hfz22_4, hfz22_5, hfz22_6⟩ := blkf7_ BK112.out
       go_wp2_with (first | ((with_reducible refine gate_callee (f := 15) rfl ?_); refine goesL_ (some 42) rfl rfl Tryd.func15 (by kernel_rfl) rfl #[.agg #[.int .i64 a0_0, .string a0_1, .bool a0_2, .string a0_3, .int .i64 a0_4, .string a0_5, .string a0_6]] rfl z39_ ?_; (with_reducible refine (source_place.calls kj1 a0_0 a0_1 a0_2 a0_3 a0_4 a0_5 a0_6 t116 _ ?gw19_ A21.out).mono ?_); (case gw19_ => exact z9_); rintro e w23 ⟨rfl, hb⟩; refine ⟨_, rfl, ?_⟩; have n0_ := Aside0.mk (blk_below (g := gb112) (o := .cells #[.int .i64 a0_0, .string a0_1, .bool a0_2, .string a0_3, .int .i64 a0_4, .string a0_5, .string a0_6] 23 (0, 0)) z50_ hb); have n1_ := Aside0.mk (below_step z31_ hb); clear BK112; clear HB; have BK112 := n0_; have HB := n1_; clear n0_ n1_; (try clear hb); (try clear hb2); (try clear hk); (try clear hi)))
       go_ret
       exact ⟨z41_, z31_⟩
      ·rw [if_neg c20] at H
       have c20b0 : (a0_0 == 4) = false := beq_eq_false_iff_ne.mpr c20
       have c20b1 : (a0_0 != 4) = true := bne_iff_ne.mpr c20
       obtain rfl := Option.some.inj H
       go_wp2
       go_ret
       exact ⟨z41_, z31_⟩

mutual
def source_Text.j0 : Nat → ByteArray → Int → ByteArray → Bool → ByteArray → Int → ByteArray → ByteArray → Option (ByteArray)
 | 0, _, _, _, _, _, _, _, _ => none
 | k + 1, x3, x118000, x118001, x118002, x118003, x118004, x118005, x118006 => if x118002 = true then (if x3.size + 2 ≤ 9223372036854775807 then (source_Text.j1 k (x3 ++ (⟨#[42, 46]⟩ : ByteArray)) x118000 x118001 x118002 x118003 x118004 x118005 x118006) else (none)) else (source_Text.j1 k x3 x118000 x118001 x118002 x118003 x118004 x118005 x118006)
def source_Text.j1 : Nat → ByteArray → Int → ByteArray → Bool → ByteArray → Int → ByteArray → ByteArray → Option (ByteArray)
 | 0, _, _, _, _, _, _, _, _ => none
 | k + 1, x3, x118000, x118001, x118002, x118003, x118004, x118005, x118006 => if x3.size + x118003.size ≤ 9223372036854775807 then (if x118004 = (-1) then (if (x3 ++ x118003).size + 2 ≤ 9223372036854775807 then (if ((x3 ++ x118003) ++ (⟨#[58, 42]⟩ : ByteArray)).size + x118005.size ≤ 9223372036854775807 then (some (((x3 ++ x118003) ++ (⟨#[58, 42]⟩ : ByteArray)) ++ x118005)) else (none)) else (none)) else (if x118004 > 0 then ((strconv_Itoa.f x118004).bind fun t119 => (if 1 + t119.size ≤ 9223372036854775807 then (if (x3 ++ x118003).size + ((⟨#[58]⟩ : ByteArray) ++ t119).size ≤ 9223372036854775807 then (if ((x3 ++ x118003) ++ ((⟨#[58]⟩ : ByteArray) ++ t119)).size + x118005.size ≤ 9223372036854775807 then (some (((x3 ++ x118003) ++ ((⟨#[58]⟩ : ByteArray) ++ t119)) ++ x118005)) else (none)) else (none)) else (none))) else (if (x3 ++ x118003).size + x118005.size ≤ 9223372036854775807 then (some ((x3 ++ x118003) ++ x118005)) else (none)))) else (none)
end
def source_Text.f (k : Nat) (a0_0 : Int) (a0_1 : ByteArray) (a0_2 : Bool) (a0_3 : ByteArray) (a0_4 : Int) (a0_5 a0_6 : ByteArray) : Option (ByteArray) := (source_Good.f k a0_0 a0_1 a0_2 a0_3 a0_4 a0_5 a0_6).bind fun t118 => (if t118 = true then (if a0_0 = 1 then (some (⟨#[39, 115, 101, 108, 102, 39]⟩ : ByteArray)) else (if a0_0 = 2 then (some (⟨#[42]⟩ : ByteArray)) else (if a0_0 = 3 then (if a0_1.size + 1 ≤ 9223372036854775807 then (some (a0_1 ++ (⟨#[58]⟩ : ByteArray))) else (none)) else (if a0_0 = 5 then (if 7 + a0_6.size ≤ 9223372036854775807 then (if ((⟨#[39, 110, 111, 110, 99, 101, 45]⟩ : ByteArray) ++ a0_6).size + 1 ≤ 9223372036854775807 then (some (((⟨#[39, 110, 111, 110, 99, 101, 45]⟩ : ByteArray) ++ a0_6) ++ (⟨#[39]⟩ : ByteArray))) else (none)) else (none)) else (if a0_1.toList = ([] : List UInt8) then (source_Text.j0 k (⟨#[]⟩ : ByteArray) a0_0 a0_1 a0_2 a0_3 a0_4 a0_5 a0_6) else (if a0_1.size + 3 ≤ 9223372036854775807 then (source_Text.j0 k (a0_1 ++ (⟨#[58, 47, 47]⟩ : ByteArray)) a0_0 a0_1 a0_2 a0_3 a0_4 a0_5 a0_6) else (none))))))) else (some (⟨#[]⟩ : ByteArray)))
set_option maxHeartbeats 8000000 in
set_option maxRecDepth 100000 in
theorem source_Text.calls (k : Nat) (a0_0 : Int) (a0_1 : ByteArray) (a0_2 : Bool) (a0_3 : ByteArray) (a0_4 : Int) (a0_5 a0_6 r : ByteArray) (w : World) (hG_ : GW w) (h : source_Text.f k a0_0 a0_1 a0_2 a0_3 a0_4 a0_5 a0_6 = some r) :
  Calls Tryd.prog 8 #[.agg #[.int .i64 a0_0, .string a0_1, .bool a0_2, .string a0_3, .int .i64 a0_4, .string a0_5, .string a0_6]] w fun e w' => e = .returned (.string r) ∧ Below w.heap.size w w' := by
 have hu23 := Tryd.underlying23
 have HB := Aside0.mk (Below.refl w.heap.size w)
 have H : ((source_Good.f k a0_0 a0_1 a0_2 a0_3 a0_4 a0_5 a0_6).bind fun t118 => (if t118 = true then (if a0_0 = 1 then (some (⟨#[39, 115, 101, 108, 102, 39]⟩ : ByteArray)) else (if a0_0 = 2 then (some (⟨#[42]⟩ : ByteArray)) else (if a0_0 = 3 then (if a0_1.size + 1 ≤ 9223372036854775807 then (some (a0_1 ++ (⟨#[58]⟩ : ByteArray))) else (none)) else (if a0_0 = 5 then (if 7 + a0_6.size ≤ 9223372036854775807 then (if ((⟨#[39, 110, 111, 110, 99, 101, 45]⟩ : ByteArray) ++ a0_6).size + 1 ≤ 9223372036854775807 then (some (((⟨#[39, 110, 111, 110, 99, 101, 45]⟩ : ByteArray) ++ a0_6) ++ (⟨#[39]⟩ : ByteArray))) else (none)) else (none)) else (if a0_1.toList = ([] : List UInt8) then (source_Text.j0 k (⟨#[]⟩ : ByteArray) a0_0 a0_1 a0_2 a0_3 a0_4 a0_5 a0_6) else (if a0_1.size + 3 ≤ 9223372036854775807 then (source_Text.j0 k (a0_1 ++ (⟨#[58, 47, 47]⟩ : ByteArray)) a0_0 a0_1 a0_2 a0_3 a0_4 a0_5 a0_6) else (none))))))) else (some (⟨#[]⟩ : ByteArray)))) = some r := h
 clear h
 replace H := Option.bind_eq_some_iff.mp H
 obtain ⟨t118, A20, H⟩ := H
 replace H : (if t118 = true then (if a0_0 = 1 then (some (⟨#[39, 115, 101, 108, 102, 39]⟩ : ByteArray)) else (if a0_0 = 2 then (some (⟨#[42]⟩ : ByteArray)) else (if a0_0 = 3 then (if a0_1.size + 1 ≤ 9223372036854775807 then (some (a0_1 ++ (⟨#[58]⟩ : ByteArray))) else (none)) else (if a0_0 = 5 then (if 7 + a0_6.size ≤ 9223372036854775807 then (if ((⟨#[39, 110, 111, 110, 99, 101, 45]⟩ : ByteArray) ++ a0_6).size + 1 ≤ 9223372036854775807 then (some (((⟨#[39, 110, 111, 110, 99, 101, 45]⟩ : ByteArray) ++ a0_6) ++ (⟨#[39]⟩ : ByteArray))) else (none)) else (none)) else (if a0_1.toList = ([] : List UInt8) then (source_Text.j0 k (⟨#[]⟩ : ByteArray) a0_0 a0_1 a0_2 a0_3 a0_4 a0_5 a0_6) else (if a0_1.size + 3 ≤ 9223372036854775807 then (source_Text.j0 k (a0_1 ++ (⟨#[58, 47, 47]⟩ : ByteArray)) a0_0 a0_1 a0_2 a0_3 a0_4 a0_5 a0_6) else (none))))))) else (some (⟨#[]⟩ : ByteArray))) = some r := H
 have A2 := Aside0.mk A20; clear A20
 by_cases c3 : t118 = true
 ·subst c3
  have H1 : (if a0_0 = 1 then (some (⟨#[39, 115, 101, 108, 102, 39]⟩ : ByteArray)) else (if a0_0 = 2 then (some (⟨#[42]⟩ : ByteArray)) else (if a0_0 = 3 then (if a0_1.size + 1 ≤ 9223372036854775807 then (some (a0_1 ++ (⟨#[58]⟩ : ByteArray))) else (none)) else (if a0_0 = 5 then (if 7 + a0_6.size ≤ 9223372036854775807 then (if ((⟨#[39, 110, 111, 110, 99, 101, 45]⟩ : ByteArray) ++ a0_6).size + 1 ≤ 9223372036854775807 then (some (((⟨#[39, 110, 111, 110, 99, 101, 45]⟩ : ByteArray) ++ a0_6) ++ (⟨#[39]⟩ : ByteArray))) else (none)) else (none)) else (if a0_1.toList = ([] : List UInt8) then (source_Text.j0 k (⟨#[]⟩ : ByteArray) a0_0 a0_1 a0_2 a0_3 a0_4 a0_5 a0_6) else (if a0_1.size + 3 ≤ 9223372036854775807 then (source_Text.j0 k (a0_1 ++ (⟨#[58, 47, 47]⟩ : ByteArray)) a0_0 a0_1 a0_2 a0_3 a0_4 a0_5 a0_6) else (none))))))) = some r := by rw [if_pos rfl] at H; exact H
  clear H
  have H := H1
  clear H1
  by_cases c4 : a0_0 = 1
  ·rw [if_pos c4] at H
   have c4b0 : (a0_0 == 1) = true := beq_iff_eq.mpr c4
   have c4b1 : (a0_0 != 1) = false := bne_eq_false_iff_eq.mpr c4
   clear c4
   obtain rfl := Option.some.inj H
   go_enter Tryd.func8, Tryd.ntmps8
   go_wp2_with (first | ((with_reducible refine gate_dst (N := 1) rfl ?_); refine box_event ?hg (N := 1) ?hd (cs := #[.int .i64 a0_0, .string a0_1, .bool a0_2, .string a0_3, .int .i64 a0_4, .string a0_5, .string a0_6]) (t := 23) ?hr ?_; (case hd => rfl); (case hg => rfl); (case hr => first | (go_simp; done) | (go_simp; rfl)); intro gb117 hg w5 hbox hb; have n0_ := Aside0.mk (below_step z40_ hb); have n1_ := Aside0.mk (hbox); have n2_ := Aside0.mk ((by rw [hg]; exact (below_size z40_) : w.heap.size ≤ gb117)); have n3_ := Aside0.mk ((by rw [hg]; exact (below_size z40_) : w.heap.size ≤ gb117)); clear HB; have HB := n0_; have BK117 := n1_; have GW117 := n2_; have GE117 := n3_; clear n0_ n1_ n2_ n3_; clear hb hbox hg; have hcz6_0 : w5.cell? ⟨gb117, 0, none⟩ = some (.int .i64 a0_0) := (blk_cell BK117.out 0).trans rfl; have hcz6_1 : w5.cell? ⟨gb117, 1, none⟩ = some (.string a0_1) := (blk_cell BK117.out 1).trans rfl; have hcz6_2 : w5.cell? ⟨gb117, 2, none⟩ = some (.bool a0_2) := (blk_cell BK117.out 2).trans rfl; have hcz6_3 : w5.cell? ⟨gb117, 3, none⟩ = some (.string a0_3) := (blk_cell BK117.out 3).trans rfl; have hcz6_4 : w5.cell? ⟨gb117, 4, none⟩ = some (.int .i64 a0_4) := (blk_cell BK117.out 4).trans rfl; have hcz6_5 : w5.cell? ⟨gb117, 5, none⟩ = some (.string a0_5) := (blk_cell BK117.out 5).trans rfl; have hcz6_6 : w5.cell? ⟨gb117, 6, none⟩ = some (.string a0_6) := (blk_cell BK117.out 6).trans rfl; have hfz6_0 := blk_frozen BK117.out 0; have hfz6_1 := blk_frozen BK117.out 1; have hfz6_2 := blk_frozen BK117.out 2; have hfz6_3 := blk_frozen BK117.out 3; have hfz6_4 := blk_frozen BK117.out 4; have hfz6_5 := blk_frozen BK117.out 5; have hfz6_6 := blk_frozen BK117.out 6) | ((with_reducible refine gate_callee (f := 5) rfl ?_); refine goesL_ (some 5) rfl rfl Tryd.func5 (by kernel_rfl) rfl #[.agg #[.int .i64 a0_0, .string a0_1, .bool a0_2, .string a0_3, .int .i64 a0_4, .string a0_5, .string a0_6]] rfl z39_ ?_; (with_reducible refine (source_Good.calls k a0_0 a0_1 a0_2 a0_3 a0_4 a0_5 a0_6 true _ ?gw20_ A2.out).mono ?_); (case gw20_ => exact z10_); rintro e w7 ⟨rfl, hb⟩; refine ⟨_, rfl, ?_⟩; have n0_ := Aside0.mk (blk_below (g := gb117) (o := .cells #[.int .i64 a0_0, .string a0_1, .bool a0_2, .string a0_3, .int .i64 a0_4, .string a0_5, .string a0_6] 23 (0, 0)) z51_ hb); have n1_ := Aside0.mk (below_step z32_ hb); clear BK117; clear HB; have BK117 := n0_; have HB := n1_; clear n0_ n1_; (try clear hb); (try clear hb2); (try clear hk); (try clear hi); have hcz8_0 : w7.cell? ⟨gb117, 0, none⟩ = some (.int .i64 a0_0) := (blk_cell BK117.out 0).trans rfl; have hcz8_1 : w7.cell? ⟨gb117, 1, none⟩ = some (.string a0_1) := (blk_cell BK117.out 1).trans rfl; have hcz8_2 : w7.cell? ⟨gb117, 2, none⟩ = some (.bool a0_2) := (blk_cell BK117.out 2).trans rfl; have hcz8_3 : w7.cell? ⟨gb117, 3, none⟩ = some (.string a0_3) := (blk_cell BK117.out 3).trans rfl; have hcz8_4 : w7.cell? ⟨gb117, 4, none⟩ = some (.int .i64 a0_4) := (blk_cell BK117.out 4).trans rfl; have hcz8_5 : w7.cell? ⟨gb117, 5, none⟩ = some (.string a0_5) := (blk_cell BK117.out 5).trans rfl; have hcz8_6 : w7.cell? ⟨gb117, 6, none⟩ = some (.string a0_6) := (blk_cell BK117.out 6).trans rfl; have hfz8_0 := blk_frozen BK117.out 0; have hfz8_1 := blk_frozen BK117.out 1; have hfz8_2 := blk_frozen BK117.out 2; have hfz8_3 := blk_frozen BK117.out 3; have hfz8_4 := blk_frozen BK117.out 4; have hfz8_5 := blk_frozen BK117.out 5; have hfz8_6 := blk_frozen BK117.out 6))
   go_ret
   exact ⟨z41_, z32_⟩
  ·rw [if_neg c4] at H
   have c4b0 : (a0_0 == 1) = false := beq_eq_false_iff_ne.mpr c4
   have c4b1 : (a0_0 != 1) = true := bne_iff_ne.mpr c4
   by_cases c9 : a0_0 = 2
   ·rw [if_pos c9] at H
    have c9b0 : (a0_0 == 2) = true := beq_iff_eq.mpr c9
    have c9b1 : (a0_0 != 2) = false := bne_eq_false_iff_eq.mpr c9
    clear c9
    obtain rfl := Option.some.inj H
    go_enter Tryd.func8, Tryd.ntmps8
    go_wp2_with (first | ((with_reducible refine gate_dst (N := 1) rfl ?_); refine box_event ?hg (N := 1) ?hd (cs := #[.int .i64 a0_0, .string a0_1, .bool a0_2, .string a0_3, .int .i64 a0_4, .string a0_5, .string a0_6]) (t := 23) ?hr ?_; (case hd => rfl); (case hg => rfl); (case hr => first | (go_simp; done) | (go_simp; rfl)); intro gb117 hg w10 hbox hb; have n0_ := Aside0.mk (below_step z40_ hb); have n1_ := Aside0.mk (hbox); have n2_ := Aside0.mk ((by rw [hg]; exact (below_size z40_) : w.heap.size ≤ gb117)); have n3_ := Aside0.mk ((by rw [hg]; exact (below_size z40_) : w.heap.size ≤ gb117)); clear HB; have HB := n0_; have BK117 := n1_; have GW117 := n2_; have GE117 := n3_; clear n0_ n1_ n2_ n3_; clear hb hbox hg; have hcz11_0 : w10.cell? ⟨gb117, 0, none⟩ = some (.int .i64 a0_0) := (blk_cell BK117.out 0).trans rfl; have hcz11_1 : w10.cell? ⟨gb117, 1, none⟩ = some (.string a0_1) := (blk_cell BK117.out 1).trans rfl; have hcz11_2 : w10.cell? ⟨gb117, 2, none⟩ = some (.bool a0_2) := (blk_cell BK117.out 2).trans rfl; have hcz11_3 : w10.cell? ⟨gb117, 3, none⟩ = some (.string a0_3) := (blk_cell BK117.out 3).trans rfl; have hcz11_4 : w10.cell? ⟨gb117, 4, none⟩ = some (.int .i64 a0_4) := (blk_cell BK117.out 4).trans rfl; have hcz11_5 : w10.cell? ⟨gb117, 5, none⟩ = some (.string a0_5) := (blk_cell BK117.out 5).trans rfl; have hcz11_6 : w10.cell? ⟨gb117, 6, none⟩ = some (.string a0_6) := (blk_cell BK117.out 6).trans rfl; have hfz11_0 := blk_frozen BK117.out 0; have hfz11_1 := blk_frozen BK117.out 1; have hfz11_2 := blk_frozen BK117.out 2; have hfz11_3 := blk_frozen BK117.out 3; have hfz11_4 := blk_frozen BK117.out 4; have hfz11_5 := blk_frozen BK117.out 5; have hfz11_6 := blk_frozen BK117.out 6) | ((with_reducible refine gate_callee (f := 5) rfl ?_); refine goesL_ (some 5) rfl rfl Tryd.func5 (by kernel_rfl) rfl #[.agg #[.int .i64 a0_0, .string a0_1, .bool a0_2, .string a0_3, .int .i64 a0_4, .string a0_5, .string a0_6]] rfl z39_ ?_; (with_reducible refine (source_Good.calls k a0_0 a0_1 a0_2 a0_3 a0_4 a0_5 a0_6 true _ ?gw21_ A2.out).mono ?_); (case gw21_ => exact z10_); rintro e w12 ⟨rfl, hb⟩; refine ⟨_, rfl, ?_⟩; have n0_ := Aside0.mk (blk_below (g := gb117) (o := .cells #[.int .i64 a0_0, .string a0_1, .bool a0_2, .string a0_3, .int .i64 a0_4, .string a0_5, .string a0_6] 23 (0, 0)) z51_ hb); have n1_ := Aside0.mk (below_step z32_ hb); clear BK117; clear HB; have BK117 := n0_; have HB := n1_; clear n0_ n1_; (try clear hb); (try clear hb2); (try clear hk); (try clear hi); have hcz13_0 : w12.cell? ⟨gb117, 0, none⟩ = some (.int .i64 a0_0) := (blk_cell BK117.out 0).trans rfl; have hcz13_1 : w12.cell? ⟨gb117, 1, none⟩ = some (.string a0_1) := (blk_cell BK117.out 1).trans rfl; have hcz13_2 : w12.cell? ⟨gb117, 2, none⟩ = some (.bool a0_2) := (blk_cell BK117.out 2).trans rfl; have hcz13_3 : w12.cell? ⟨gb117, 3, none⟩ = some (.string a0_3) := (blk_cell BK117.out 3).trans rfl; have hcz13_4 : w12.cell? ⟨gb117, 4, none⟩ = some (.int .i64 a0_4) := (blk_cell BK117.out 4).trans rfl; have hcz13_5 : w12.cell? ⟨gb117, 5, none⟩ = some (.string a0_5) := (blk_cell BK117.out 5).trans rfl; have hcz13_6 : w12.cell? ⟨gb117, 6, none⟩ = some (.string a0_6) := (blk_cell BK117.out 6).trans rfl; have hfz13_0 := blk_frozen BK117.out 0; have hfz13_1 := blk_frozen BK117.out 1; have hfz13_2 := blk_frozen BK117.out 2; have hfz13_3 := blk_frozen BK117.out 3; have hfz13_4 := blk_frozen BK117.out 4; have hfz13_5 := blk_frozen BK117.out 5; have hfz13_6 := blk_frozen BK117.out 6))
    go_ret
    exact ⟨z41_, z32_⟩
   ·rw [if_neg c9] at H
    have c9b0 : (a0_0 == 2) = false := beq_eq_false_iff_ne.mpr c9
    have c9b1 : (a0_0 != 2) = true := bne_iff_ne.mpr c9
    by_cases c14 : a0_0 = 3
    ·rw [if_pos c14] at H
     have c14b0 : (a0_0 == 3) = true := beq_iff_eq.mpr c14
     have c14b1 : (a0_0 != 3) = false := bne_eq_false_iff_eq.mpr c14
     clear c14
     by_cases c15 : a0_1.size + 1 ≤ 9223372036854775807
     ·rw [if_pos c15] at H
      have c15b0 := eq_true c15; have c15b1 : decide (a0_1.size + 1 ≤ 9223372036854775807) = true := decide_eq_true c15
      try have c15b2 : (9223372036854775807 < a0_1.size + 1) = False := eq_false (Nat.not_lt.2 c15)
      try have c15c0 : (9223372036854775807 ≤ a0_1.size) = False := eq_false (by omega)
      try have c15c1 : (a0_1.size < 9223372036854775807) = True := eq_true (by omega)
      obtain rfl := Option.some.inj H
      go_enter Tryd.func8, Tryd.ntmps8
      go_wp2_with (first | ((with_reducible refine gate_dst (N := 1) rfl ?_); refine box_event ?hg (N := 1) ?hd (cs := #[.int .i64 a0_0, .string a0_1, .bool a0_2, .string a0_3, .int .i64 a0_4, .string a0_5, .string a0_6]) (t := 23) ?hr ?_; (case hd => rfl); (case hg => rfl); (case hr => first | (go_simp; done) | (go_simp; rfl)); intro gb117 hg w16 hbox hb; have n0_ := Aside0.mk (below_step z40_ hb); have n1_ := Aside0.mk (hbox); have n2_ := Aside0.mk ((by rw [hg]; exact (below_size z40_) : w.heap.size ≤ gb117)); have n3_ := Aside0.mk ((by rw [hg]; exact (below_size z40_) : w.heap.size ≤ gb117)); clear HB; have HB := n0_; have BK117 := n1_; have GW117 := n2_; have GE117 := n3_; clear n0_ n1_ n2_ n3_; clear hb hbox hg; have hcz17_0 : w16.cell? ⟨gb117, 0, none⟩ = some (.int .i64 a0_0) := (blk_cell BK117.out 0).trans rfl; have hcz17_1 : w16.cell? ⟨gb117, 1, none⟩ = some (.string a0_1) := (blk_cell BK117.out 1).trans rfl; have hcz17_2 : w16.cell? ⟨gb117, 2, none⟩ = some (.bool a0_2) := (blk_cell BK117.out 2).trans rfl; have hcz17_3 : w16.cell? ⟨gb117, 3, none⟩ = some (.string a0_3) := (blk_cell BK117.out 3).trans rfl; have hcz17_4 : w16.cell? ⟨gb117, 4, none⟩ = some (.int .i64 a0_4) := (blk_cell BK117.out 4).trans rfl; have hcz17_5 : w16.cell? ⟨gb117, 5, none⟩ = some (.string a0_5) := (blk_cell BK117.out 5).trans rfl; have hcz17_6 : w16.cell? ⟨gb117, 6, none⟩ = some (.string a0_6) := (blk_cell BK117.out 6).trans rfl; have hfz17_0 := blk_frozen BK117.out 0; have hfz17_1 := blk_frozen BK117.out 1; have hfz17_2 := blk_frozen BK117.out 2; have hfz17_3 := blk_frozen BK117.out 3; have hfz17_4 := blk_frozen BK117.out 4; have hfz17_5 := blk_frozen BK117.out 5; have hfz17_6 := blk_frozen BK117.out 6) | ((with_reducible refine gate_callee (f := 5) rfl ?_); refine goesL_ (some 5) rfl rfl Tryd.func5 (by kernel_rfl) rfl #[.agg #[.int .i64 a0_0, .string a0_1, .bool a0_2, .string a0_3, .int .i64 a0_4, .string a0_5, .string a0_6]] rfl z39_ ?_; (with_reducible refine (source_Good.calls k a0_0 a0_1 a0_2 a0_3 a0_4 a0_5 a0_6 true _ ?gw22_ A2.out).mono ?_); (case gw22_ => exact z10_); rintro e w18 ⟨rfl, hb⟩; refine ⟨_, rfl, ?_⟩; have n0_ := Aside0.mk (blk_below (g := gb117) (o := .cells #[.int .i64 a0_0, .string a0_1, .bool a0_2, .string a0_3, .int .i64 a0_4, .string a0_5, .string a0_6] 23 (0, 0)) z51_ hb); have n1_ := Aside0.mk (below_step z32_ hb); clear BK117; clear HB; have BK117 := n0_; have HB := n1_; clear n0_ n1_; (try clear hb); (try clear hb2); (try clear hk); (try clear hi); have hcz19_0 : w18.cell? ⟨gb117, 0, none⟩ = some (.int .i64 a0_0) := (blk_cell BK117.out 0).trans rfl; have hcz19_1 : w18.cell? ⟨gb117, 1, none⟩ = some (.string a0_1) := (blk_cell BK117.out 1).trans rfl; have hcz19_2 : w18.cell? ⟨gb117, 2, none⟩ = some (.bool a0_2) := (blk_cell BK117.out 2).trans rfl; have hcz19_3 : w18.cell? ⟨gb117, 3, none⟩ = some (.string a0_3) := (blk_cell BK117.out 3).trans rfl; have hcz19_4 : w18.cell? ⟨gb117, 4, none⟩ = some (.int .i64 a0_4) := (blk_cell BK117.out 4).trans rfl; have hcz19_5 : w18.cell? ⟨gb117, 5, none⟩ = some (.string a0_5) := (blk_cell BK117.out 5).trans rfl; have hcz19_6 : w18.cell? ⟨gb117, 6, none⟩ = some (.string a0_6) := (blk_cell BK117.out 6).trans rfl; have hfz19_0 := blk_frozen BK117.out 0; have hfz19_1 := blk_frozen BK117.out 1; have hfz19_2 := blk_frozen BK117.out 2; have hfz19_3 := blk_frozen BK117.out 3; have hfz19_4 := blk_frozen BK117.out 4; have hfz19_5 := blk_frozen BK117.out 5; have hfz19_6 := blk_frozen BK117.out 6))
      go_ret
      exact ⟨z41_, z32_⟩
     ·rw [if_neg c15] at H
      exact absurd H (by simp)
    ·rw [if_neg c14] at H
     have c14b0 : (a0_0 == 3) = false := beq_eq_false_iff_ne.mpr c14
     have c14b1 : (a0_0 != 3) = true := bne_iff_ne.mpr c14
     by_cases c20 : a0_0 = 5
     ·rw [if_pos c20] at H
      have c20b0 : (a0_0 == 5) = true := beq_iff_eq.mpr c20
      have c20b1 : (a0_0 != 5) = false := bne_eq_false_iff_eq.mpr c20
      clear c20
      by_cases c21 : 7 + a0_6.size ≤ 9223372036854775807
      ·rw [if_pos c21] at H
       have c21b0 := eq_true c21; have c21b1 : decide (7 + a0_6.size ≤ 9223372036854775807) = true := decide_eq_true c21
       try have c21b2 : (9223372036854775807 < 7 + a0_6.size) = False := eq_false (Nat.not_lt.2 c21)
       by_cases c22 : ((⟨#[39, 110, 111, 110, 99, 101, 45]⟩ : ByteArray) ++ a0_6).size + 1 ≤ 9223372036854775807
       ·rw [if_pos c22] at H
        have c22b0 := eq_true c22
        try have c22m : ((7 + a0_6.size) + 1 ≤ 9223372036854775807) = True := by first | exact c22b0 | (have h_ := c22; simp only [ByteArray.size_append, Int.natCast_add] at h_; exact eq_true h_)
        have c22b1 : decide (((⟨#[39, 110, 111, 110, 99, 101, 45]⟩ : ByteArray) ++ a0_6).size + 1 ≤ 9223372036854775807) = true := decide_eq_true c22
        try have c22b1n : decide ((7 + a0_6.size) + 1 ≤ 9223372036854775807) = true := by first | exact c22b1 | (have h_ := c22b1; simp only [ByteArray.size_append, Int.natCast_add] at h_; exact h_)
        try have c22b2 : (9223372036854775807 < ((⟨#[39, 110, 111, 110, 99, 101, 45]⟩ : ByteArray) ++ a0_6).size + 1) = False := eq_false (Nat.not_lt.2 c22)
        try have c22c0 : (9223372036854775807 ≤ ((⟨#[39, 110, 111, 110, 99, 101, 45]⟩ : ByteArray) ++ a0_6).size) = False := eq_false (by omega)
        try have c22c1 : (((⟨#[39, 110, 111, 110, 99, 101, 45]⟩ : ByteArray) ++ a0_6).size < 9223372036854775807) = True := eq_true (by omega)
        try have c22b2n : (9223372036854775807 < (7 + a0_6.size) + 1) = False := by first | exact c22b2 | (have h_ := c22b2; simp only [ByteArray.size_append, Int.natCast_add] at h_; exact h_)
        obtain rfl := Option.some.inj H
        go_enter Tryd.func8, Tryd.ntmps8
        go_wp2_with (first | ((with_reducible refine gate_dst (N := 1) rfl ?_); refine box_event ?hg (N := 1) ?hd (cs := #[.int .i64 a0_0, .string a0_1, .bool a0_2, .string a0_3, .int .i64 a0_4, .string a0_5, .string a0_6]) (t := 23) ?hr ?_; (case hd => rfl); (case hg => rfl); (case hr => first | (go_simp; done) | (go_simp; rfl)); intro gb117 hg w23 hbox hb; have n0_ := Aside0.mk (below_step z40_ hb); have n1_ := Aside0.mk (hbox); have n2_ := Aside0.mk ((by rw [hg]; exact (below_size z40_) : w.heap.size ≤ gb117)); have n3_ := Aside0.mk ((by rw [hg]; exact (below_size z40_) : w.heap.size ≤ gb117)); clear HB; have HB := n0_; have BK117 := n1_; have GW117 := n2_; have GE117 := n3_; clear n0_ n1_ n2_ n3_; clear hb hbox hg; have hcz24_0 : w23.cell? ⟨gb117, 0, none⟩ = some (.int .i64 a0_0) := (blk_cell BK117.out 0).trans rfl; have hcz24_1 : w23.cell? ⟨gb117, 1, none⟩ = some (.string a0_1) := (blk_cell BK117.out 1).trans rfl; have hcz24_2 : w23.cell? ⟨gb117, 2, none⟩ = some (.bool a0_2) := (blk_cell BK117.out 2).trans rfl; have hcz24_3 : w23.cell? ⟨gb117, 3, none⟩ = some (.string a0_3) := (blk_cell BK117.out 3).trans rfl; have hcz24_4 : w23.cell? ⟨gb117, 4, none⟩ = some (.int .i64 a0_4) := (blk_cell BK117.out 4).trans rfl; have hcz24_5 : w23.cell? ⟨gb117, 5, none⟩ = some (.string a0_5) := (blk_cell BK117.out 5).trans rfl; have hcz24_6 : w23.cell? ⟨gb117, 6, none⟩ = some (.string a0_6) := (blk_cell BK117.out 6).trans rfl; have hfz24_0 := blk_frozen BK117.out 0; have hfz24_1 := blk_frozen BK117.out 1; have hfz24_2 := blk_frozen BK117.out 2; have hfz24_3 := blk_frozen BK117.out 3; have hfz24_4 := blk_frozen BK117.out 4; have hfz24_5 := blk_frozen BK117.out 5; have hfz24_6 := blk_frozen BK117.out 6) | ((with_reducible refine gate_callee (f := 5) rfl ?_); refine goesL_ (some 5) rfl rfl Tryd.func5 (by kernel_rfl) rfl #[.agg #[.int .i64 a0_0, .string a0_1, .bool a0_2, .string a0_3, .int .i64 a0_4, .string a0_5, .string a0_6]] rfl z39_ ?_; (with_reducible refine (source_Good.calls k a0_0 a0_1 a0_2 a0_3 a0_4 a0_5 a0_6 true _ ?gw23_ A2.out).mono ?_); (case gw23_ => exact z10_); rintro e w25 ⟨rfl, hb⟩; refine ⟨_, rfl, ?_⟩; have n0_ := Aside0.mk (blk_below (g := gb117) (o := .cells #[.int .i64 a0_0, .string a0_1, .bool a0_2, .string a0_3, .int .i64 a0_4, .string a0_5, .string a0_6] 23 (0, 0)) z51_ hb); have n1_ := Aside0.mk (below_step z32_ hb); clear BK117; clear HB; have BK117 := n0_; have HB := n1_; clear n0_ n1_; (try clear hb); (try clear hb2); (try clear hk); (try clear hi); have hcz26_0 : w25.cell? ⟨gb117, 0, none⟩ = some (.int .i64 a0_0) := (blk_cell BK117.out 0).trans rfl; have hcz26_1 : w25.cell? ⟨gb117, 1, none⟩ = some (.string a0_1) := (blk_cell BK117.out 1).trans rfl; have hcz26_2 : w25.cell? ⟨gb117, 2, none⟩ = some (.bool a0_2) := (blk_cell BK117.out 2).trans rfl; have hcz26_3 : w25.cell? ⟨gb117, 3, none⟩ = some (.string a0_3) := (blk_cell BK117.out 3).trans rfl; have hcz26_4 : w25.cell? ⟨gb117, 4, none⟩ = some (.int .i64 a0_4) := (blk_cell BK117.out 4).trans rfl; have hcz26_5 : w25.cell? ⟨gb117, 5, none⟩ = some (.string a0_5) := (blk_cell BK117.out 5).trans rfl; have hcz26_6 : w25.cell? ⟨gb117, 6, none⟩ = some (.string a0_6) := (blk_cell BK117.out 6).trans rfl; have hfz26_0 := blk_frozen BK117.out 0; have hfz26_1 := blk_frozen BK117.out 1; have hfz26_2 := blk_frozen BK117.out 2; have hfz26_3 := blk_frozen BK117.out 3; have hfz26_4 := blk_frozen BK117.out 4; have hfz26_5 := blk_frozen BK117.out 5; have hfz26_6 := blk_frozen BK117.out 6))
        go_ret
        exact ⟨z41_, z32_⟩
       ·rw [if_neg c22] at H
        exact absurd H (by simp)
      ·rw [if_neg c21] at H
       exact absurd H (by simp)
     ·rw [if_neg c20] at H
      have c20b0 : (a0_0 == 5) = false := beq_eq_false_iff_ne.mpr c20
      have c20b1 : (a0_0 != 5) = true := bne_iff_ne.mpr c20
      have HC27 := Aside0.mk H; clear H
      go_enter Tryd.func8, Tryd.ntmps8
      go_upto_if 26 with (first | ((with_reducible refine gate_dst (N := 1) rfl ?_); refine box_event ?hg (N := 1) ?hd (cs := #[.int .i64 a0_0, .string a0_1, .bool a0_2, .string a0_3, .int .i64 a0_4, .string a0_5, .string a0_6]) (t := 23) ?hr ?_; (case hd => rfl); (case hg => rfl); (case hr => first | (go_simp; done) | (go_simp; rfl)); intro gb117 hg w28 hbox hb; have n0_ := Aside0.mk (below_step z40_ hb); have n1_ := Aside0.mk (hbox); have n2_ := Aside0.mk ((by rw [hg]; exact (below_size z40_) : w.heap.size ≤ gb117)); have n3_ := Aside0.mk ((by rw [hg]; exact (below_size z40_) : w.heap.size ≤ gb117)); clear HB; have HB := n0_; have BK117 := n1_; have GW117 := n2_; have GE117 := n3_; clear n0_ n1_ n2_ n3_; clear hb hbox hg; have hcz29_0 : w28.cell? ⟨gb117, 0, none⟩ = some (.int .i64 a0_0) := (blk_cell BK117.out 0).trans rfl; have hcz29_1 : w28.cell? ⟨gb117, 1, none⟩ = some (.string a0_1) := (blk_cell BK117.out 1).trans rfl; have hcz29_2 : w28.cell? ⟨gb117, 2, none⟩ = some (.bool a0_2) := (blk_cell BK117.out 2).trans rfl; have hcz29_3 : w28.cell? ⟨gb117, 3, none⟩ = some (.string a0_3) := (blk_cell BK117.out 3).trans rfl; have hcz29_4 : w28.cell? ⟨gb117, 4, none⟩ = some (.int .i64 a0_4) := (blk_cell BK117.out 4).trans rfl; have hcz29_5 : w28.cell? ⟨gb117, 5, none⟩ = some (.string a0_5) := (blk_cell BK117.out 5).trans rfl; have hcz29_6 : w28.cell? ⟨gb117, 6, none⟩ = some (.string a0_6) := (blk_cell BK117.out 6).trans rfl; have hfz29_0 := blk_frozen BK117.out 0; have hfz29_1 := blk_frozen BK117.out 1; have hfz29_2 := blk_frozen BK117.out 2; have hfz29_3 := blk_frozen BK117.out 3; have hfz29_4 := blk_frozen BK117.out 4; have hfz29_5 := blk_frozen BK117.out 5; have hfz29_6 := blk_frozen BK117.out 6) | ((with_reducible refine gate_callee (f := 5) rfl ?_); refine goesL_ (some 5) rfl rfl Tryd.func5 (by kernel_rfl) rfl #[.agg #[.int .i64 a0_0, .string a0_1, .bool a0_2, .string a0_3, .int .i64 a0_4, .string a0_5, .string a0_6]] rfl z39_ ?_; (with_reducible refine (source_Good.calls k a0_0 a0_1 a0_2 a0_3 a0_4 a0_5 a0_6 true _ ?gw24_ A2.out).mono ?_); (case gw24_ => exact z10_); rintro e w30 ⟨rfl, hb⟩; refine ⟨_, rfl, ?_⟩; have n0_ := Aside0.mk (blk_below (g := gb117) (o := .cells #[.int .i64 a0_0, .string a0_1, .bool a0_2, .string a0_3, .int .i64 a0_4, .string a0_5, .string a0_6] 23 (0, 0)) z51_ hb); have n1_ := Aside0.mk (below_step z32_ hb); clear BK117; clear HB; have BK117 := n0_; have HB := n1_; clear n0_ n1_; (try clear hb); (try clear hb2); (try clear hk); (try clear hi); have hcz31_0 : w30.cell? ⟨gb117, 0, none⟩ = some (.int .i64 a0_0) := (blk_cell BK117.out 0).trans rfl; have hcz31_1 : w30.cell? ⟨gb117, 1, none⟩ = some (.string a0_1) := (blk_cell BK117.out 1).trans rfl; have hcz31_2 : w30.cell? ⟨gb117, 2, none⟩ = some (.bool a0_2) := (blk_cell BK117.out 2).trans rfl; have hcz31_3 : w30.cell? ⟨gb117, 3, none⟩ = some (.string a0_3) := (blk_cell BK117.out 3).trans rfl; have hcz31_4 : w30.cell? ⟨gb117, 4, none⟩ = some (.int .i64 a0_4) := (blk_cell BK117.out 4).trans rfl; have hcz31_5 : w30.cell? ⟨gb117, 5, none⟩ = some (.string a0_5) := (blk_cell BK117.out 5).trans rfl; have hcz31_6 : w30.cell? ⟨gb117, 6, none⟩ = some (.string a0_6) := (blk_cell BK117.out 6).trans rfl; have hfz31_0 := blk_frozen BK117.out 0; have hfz31_1 := blk_frozen BK117.out 1; have hfz31_2 := blk_frozen BK117.out 2; have hfz31_3 := blk_frozen BK117.out 3; have hfz31_4 := blk_frozen BK117.out 4; have hfz31_5 := blk_frozen BK117.out 5; have hfz31_6 := blk_frozen BK117.out 6))
      (try simp only [Act.put, List.setIfInBounds_toArray, List.set_cons_zero, List.set_cons_succ])
      go_cut [3] (fun v3 wc => ∃ (kq : Nat) (x3_26 : ByteArray), v3 = .string x3_26 ∧ Aside0 (source_Text.j0 kq x3_26 a0_0 a0_1 a0_2 a0_3 a0_4 a0_5 a0_6 = some r) ∧ Aside0 (kq ≤ k) ∧ Aside0 (wc.heap[gb117]? = some (.cells #[.int .i64 a0_0, .string a0_1, .bool a0_2, .string a0_3, .int .i64 a0_4, .string a0_5, .string a0_6] 23 (0, 0))) ∧ Aside0 (Below w.heap.size w wc))
      case first =>
       have H := HC27.out
       clear HC27
       by_cases c32 : a0_1.toList = ([] : List UInt8)
       ·rw [if_pos c32] at H
        have c32b0 : (a0_1.toList == ([] : List UInt8)) = true := beq_iff_eq.mpr c32
        try have c32e0 : a0_1.toList.isEmpty = true := by rw [← nil_beq]; exact c32b0
        have c32b1 : (a0_1.toList != ([] : List UInt8)) = false := bne_eq_false_iff_eq.mpr c32
        clear c32
        (first | rw [c32b0] | (simp only [i64_w, i32_w]; rw [c32b0]) | rw [c32e0] | skip)
        have H' := Aside0.mk H
        clear H; go_wp2; go_meet
        case rel => exact ⟨_, ((⟨#[]⟩ : ByteArray)), z59_, H', ⟨z65_⟩, ⟨z51_⟩, ⟨z32_⟩⟩
       ·rw [if_neg c32] at H
        have c32b0 : (a0_1.toList == ([] : List UInt8)) = false := beq_eq_false_iff_ne.mpr c32
        try have c32e0 : a0_1.toList.isEmpty = false := by rw [← nil_beq]; exact c32b0
        have c32b1 : (a0_1.toList != ([] : List UInt8)) = true := bne_iff_ne.mpr c32
        (first | rw [c32b0] | (simp only [i64_w, i32_w]; rw [c32b0]) | rw [c32e0] | skip)
        by_cases c33 : a0_1.size + 3 ≤ 9223372036854775807
        ·rw [if_pos c33] at H
         have c33b0 := eq_true c33; have c33b1 : decide (a0_1.size + 3 ≤ 9223372036854775807) = true := decide_eq_true c33
         try have c33b2 : (9223372036854775807 < a0_1.size + 3) = False := eq_false (Nat.not_lt.2 c33)
         have H' := Aside0.mk H
         clear H; obtain ⟨hcz34_0, hcz34_1, hcz34_2, hcz34_3, hcz34_4, hcz34_5, hcz34_6⟩ := blkc7_ BK117.out; obtain ⟨hfz34_0, hfz34_1, hfz34_2, hfz34_3, hfz34_4, hfz34_5, hfz34_6⟩ := blkf7_ BK117.out; go_wp2; go_meet
         case rel => exact ⟨_, (a0_1 ++ (⟨#[58, 47, 47]⟩ : ByteArray)), z59_, H', ⟨z65_⟩, ⟨z51_⟩, ⟨z32_⟩⟩
        ·rw [if_neg c33] at H
         exact absurd H (by simp)
      case rest =>
       clear HC27; (try clear c3); (try clear c4); (try clear c4b0); (try clear c4b1); (try clear c9); (try clear c9b0); (try clear c9b1); (try clear c14); (try clear c14b0); (try clear c14b1); (try clear c20); (try clear c20b0); (try clear c20b1); (try clear hcz29_0 hcz29_1 hcz29_2 hcz29_3 hcz29_4 hcz29_5 hcz29_6); (try clear hcz31_0 hcz31_1 hcz31_2 hcz31_3 hcz31_4 hcz31_5 hcz31_6); (try clear hfz29_0 hfz29_1 hfz29_2 hfz29_3 hfz29_4 hfz29_5 hfz29_6); (try clear hfz31_0 hfz31_1 hfz31_2 hfz31_3 hfz31_4 hfz31_5 hfz31_6)
       obtain ⟨kq, x3_26, rfl, HA, HJ26, BK117, HB⟩ := hcut
       cases kq with
       | zero => exact absurd HA.out (by simp [source_Text.j0])
       | succ kj26 =>
        have H := HA.out
        clear HA
        simp only [source_Text.j0] at H
        have HC35 := Aside0.mk H; clear H; obtain ⟨hcz36_0, hcz36_1, hcz36_2, hcz36_3, hcz36_4, hcz36_5, hcz36_6⟩ := blkc7_ BK117.out; obtain ⟨hfz36_0, hfz36_1, hfz36_2, hfz36_3, hfz36_4, hfz36_5, hfz36_6⟩ := blkf7_ BK117.out
        go_upto_if 31 with (fail)
        go_cut [3] (fun v3 wc => ∃ (kq : Nat) (x3_34 : ByteArray), v3 = .string x3_34 ∧ Aside0 (source_Text.j1 kq x3_34 a0_0 a0_1 a0_2 a0_3 a0_4 a0_5 a0_6 = some r) ∧ Aside0 (kq ≤ kj26) ∧ Aside0 (wc.heap[gb117]? = some (.cells #[.int .i64 a0_0, .string a0_1, .bool a0_2, .string a0_3, .int .i64 a0_4, .string a0_5, .string a0_6] 23 (0, 0))) ∧ Aside0 (Below w.heap.size w wc))
        case first =>
         have H := HC35.out
         clear HC35
         by_cases c37 : a0_2 = true
         ·subst c37
          have H1 : (if x3_26.size + 2 ≤ 9223372036854775807 then (source_Text.j1 kj26 (x3_26 ++ (⟨#[42, 46]⟩ : ByteArray)) a0_0 a0_1 true a0_3 a0_4 a0_5 a0_6) else (none)) = some r := by rw [if_pos rfl] at H; exact H
          clear H
          have H := H1
          clear H1
          by_cases c38 : x3_26.size + 2 ≤ 9223372036854775807
          ·rw [if_pos c38] at H
           have c38b0 := eq_true c38; have c38b1 : decide (x3_26.size + 2 ≤ 9223372036854775807) = true := decide_eq_true c38
           try have c38b2 : (9223372036854775807 < x3_26.size + 2) = False := eq_false (Nat.not_lt.2 c38)
           have H' := Aside0.mk H
           clear H; go_wp2; go_meet
           case rel => exact ⟨_, (x3_26 ++ (⟨#[42, 46]⟩ : ByteArray)), z59_, H', ⟨z61_⟩, ⟨z51_⟩, ⟨z32_⟩⟩
          ·rw [if_neg c38] at H
           exact absurd H (by simp)
         ·replace c37 := Bool.eq_false_iff.mpr c37
          subst c37
          have H1 : (source_Text.j1 kj26 x3_26 a0_0 a0_1 false a0_3 a0_4 a0_5 a0_6) = some r := by rw [if_neg (show ¬ (false = true) by decide)] at H; exact H
          clear H
          have H := H1
          clear H1
          have H' := Aside0.mk H
          clear H; go_wp2; go_meet
          case rel => exact ⟨_, (x3_26), z59_, H', ⟨z61_⟩, ⟨z51_⟩, ⟨z32_⟩⟩
        case rest =>
         clear HC35; (try clear c3); (try clear c4); (try clear c4b0); (try clear c4b1); (try clear c9); (try clear c9b0); (try clear c9b1); (try clear c14); (try clear c14b0); (try clear c14b1); (try clear c20); (try clear c20b0); (try clear c20b1); (try clear hcz29_0 hcz29_1 hcz29_2 hcz29_3 hcz29_4 hcz29_5 hcz29_6); (try clear hcz31_0 hcz31_1 hcz31_2 hcz31_3 hcz31_4 hcz31_5 hcz31_6); (try clear hcz36_0 hcz36_1 hcz36_2 hcz36_3 hcz36_4 hcz36_5 hcz36_6); (try clear hfz29_0 hfz29_1 hfz29_2 hfz29_3 hfz29_4 hfz29_5 hfz29_6); (try clear hfz31_0 hfz31_1 hfz31_2 hfz31_3 hfz31_4 hfz31_5 hfz31_6); (try clear hfz36_0 hfz36_1 hfz36_2 hfz36_3 hfz36_4 hfz36_5 hfz36_6)
         obtain ⟨kq, x3_34, rfl, HA, HJ34, BK117, HB⟩ := hcut
         cases kq with
         | zero => exact absurd HA.out (by simp [source_Text.j1])
         | succ kj34 =>
          have H := HA.out
          clear HA
          simp only [source_Text.j1] at H
          by_cases c39 : x3_34.size + a0_3.size ≤ 9223372036854775807
          ·rw [if_pos c39] at H
           have c39b0 := eq_true c39; have c39b1 : decide (x3_34.size + a0_3.size ≤ 9223372036854775807) = true := decide_eq_true c39
           try have c39b2 : (9223372036854775807 < x3_34.size + a0_3.size) = False := eq_false (Nat.not_lt.2 c39)
           by_cases c40 : a0_4 = (-1)
           ·rw [if_pos c40] at H
            have c40b0 : (a0_4 == (-1)) = true := beq_iff_eq.mpr c40
            have c40b1 : (a0_4 != (-1)) = false := bne_eq_false_iff_eq.mpr c40
            clear c40
            by_cases c41 : (x3_34 ++ a0_3).size + 2 ≤ 9223372036854775807
            ·rw [if_pos c41] at H
             have c41b0 := eq_true c41
             try have c41m : ((x3_34.size + a0_3.size) + 2 ≤ 9223372036854775807) = True := by first | exact c41b0 | (have h_ := c41; simp only [ByteArray.size_append, Int.natCast_add] at h_; exact eq_true h_)
             have c41b1 : decide ((x3_34 ++ a0_3).size + 2 ≤ 9223372036854775807) = true := decide_eq_true c41
             try have c41b1n : decide ((x3_34.size + a0_3.size) + 2 ≤ 9223372036854775807) = true := by first | exact c41b1 | (have h_ := c41b1; simp only [ByteArray.size_append, Int.natCast_add] at h_; exact h_)
             try have c41b2 : (9223372036854775807 < (x3_34 ++ a0_3).size + 2) = False := eq_false (Nat.not_lt.2 c41)
             try have c41b2n : (9223372036854775807 < (x3_34.size + a0_3.size) + 2) = False := by first | exact c41b2 | (have h_ := c41b2; simp only [ByteArray.size_append, Int.natCast_add] at h_; exact h_)
             by_cases c42 : ((x3_34 ++ a0_3) ++ (⟨#[58, 42]⟩ : ByteArray)).size + a0_5.size ≤ 9223372036854775807
             ·rw [if_pos c42] at H
              have c42b0 := eq_true c42
              try have c42m : ((x3_34.size + a0_3.size + 2) + a0_5.size ≤ 9223372036854775807) = True := by first | exact c42b0 | (have h_ := c42; simp only [ByteArray.size_append, Int.natCast_add] at h_; exact eq_true h_)
              have c42b1 : decide (((x3_34 ++ a0_3) ++ (⟨#[58, 42]⟩ : ByteArray)).size + a0_5.size ≤ 9223372036854775807) = true := decide_eq_true c42
              try have c42b1n : decide ((x3_34.size + a0_3.size + 2) + a0_5.size ≤ 9223372036854775807) = true := by first | exact c42b1 | (have h_ := c42b1; simp only [ByteArray.size_append, Int.natCast_add] at h_; exact h_)
              try have c42b2 : (9223372036854775807 < ((x3_34 ++ a0_3) ++ (⟨#[58, 42]⟩ : ByteArray)).size + a0_5.size) = False := eq_false (Nat.not_lt.2 c42)
              try have c42b2n : (9223372036854775807 < (x3_34.size + a0_3.size + 2) + a0_5.size) = False := by first | exact c42b2 | (have h_ := c42b2; simp only [ByteArray.size_append, Int.natCast_add] at h_; exact h_)
              obtain rfl := Option.some.inj H
              obtain ⟨hcz43_0, hcz43_1, hcz43_2, hcz43_3, hcz43_4, hcz43_5, hcz43_6⟩ := blkc7_ BK117.out; obtain ⟨hfz43_0, hfz43_1, hfz43_2, hfz43_3, hfz43_4, hfz43_5, hfz43_6⟩ := blkf7_ BK117.out; go_wp2
              go_ret
              exact ⟨z41_, z32_⟩
             ·rw [if_neg c42] at H
              exact absurd H (by simp)
            ·rw [if_neg c41] at H
             exact absurd H (by simp)
           ·rw [if_neg c40] at H
            have c40b0 : (a0_4 == (-1)) = false := beq_eq_false_iff_ne.mpr c40
            have c40b1 : (a0_4 != (-1)) = true := bne_iff_ne.mpr c40
            by_cases c44 : a0_4 > 0
            ·rw [if_pos c44] at H
             have c44b0 : decide (0 < a0_4) = true := decide_eq_true c44; clear c44
             replace H := Option.bind_eq_some_iff.mp H
             obtain ⟨t119, A450, H⟩ := H
             replace H : (if 1 + t119.size ≤ 9223372036854775807 then (if (x3_34 ++ a0_3).size + ((⟨#[58]⟩ : ByteArray) ++ t119).size ≤ 9223372036854775807 then (if ((x3_34 ++ a0_3) ++ ((⟨#[58]⟩ : ByteArray) ++ t119)).size + a0_5.size ≤ 9223372036854775807 then (some (((x3_34 ++ a0_3) ++ ((⟨#[58]⟩ : ByteArray) ++ t119)) ++ a0_5)) else (none)) else (none)) else (none)) = some r := H
             have A45 := Aside0.mk A450; clear A450
             by_cases c46 : 1 + t119.size ≤ 9223372036854775807
             ·rw [if_pos c46] at H
              have c46b0 := eq_true c46; have c46b1 : decide (1 + t119.size ≤ 9223372036854775807) = true := decide_eq_true c46
              try have c46b2 : (9223372036854775807 < 1 + t119.size) = False := eq_false (Nat.not_lt.2 c46)
              try have c46c0 : (9223372036854775807 ≤ t119.size) = False := eq_false (by omega)
              try have c46c1 : (t119.size < 9223372036854775807) = True := eq_true (by omega)
              by_cases c47 : (x3_34 ++ a0_3).size + ((⟨#[58]⟩ : ByteArray) ++ t119).size ≤ 9223372036854775807
              ·rw [if_pos c47] at H
               have c47b0 := eq_true c47
               try have c47m : ((x3_34.size + a0_3.size) + (1 + t119.size) ≤ 9223372036854775807) = True := by first | exact c47b0 | (have h_ := c47; simp only [ByteArray.size_append, Int.natCast_add] at h_; exact eq_true h_)
               have c47b1 : decide ((x3_34 ++ a0_3).size + ((⟨#[58]⟩ : ByteArray) ++ t119).size ≤ 9223372036854775807) = true := decide_eq_true c47
               try have c47b1n : decide ((x3_34.size + a0_3.size) + (1 + t119.size) ≤ 9223372036854775807) = true := by first | exact c47b1 | (have h_ := c47b1; simp only [ByteArray.size_append, Int.natCast_add] at h_; exact h_)
               try have c47b2 : (9223372036854775807 < (x3_34 ++ a0_3).size + ((⟨#[58]⟩ : ByteArray) ++ t119).size) = False := eq_false (Nat.not_lt.2 c47)
               try have c47b2n : (9223372036854775807 < (x3_34.size + a0_3.size) + (1 + t119.size)) = False := by first | exact c47b2 | (have h_ := c47b2; simp only [ByteArray.size_append, Int.natCast_add] at h_; exact h_)
               by_cases c48 : ((x3_34 ++ a0_3) ++ ((⟨#[58]⟩ : ByteArray) ++ t119)).size + a0_5.size ≤ 9223372036854775807
               ·rw [if_pos c48] at H
                have c48b0 := eq_true c48
                try have c48m : ((x3_34.size + a0_3.size + (1 + t119.size)) + a0_5.size ≤ 9223372036854775807) = True := by first | exact c48b0 | (have h_ := c48; simp only [ByteArray.size_append, Int.natCast_add] at h_; exact eq_true h_)
                have c48b1 : decide (((x3_34 ++ a0_3) ++ ((⟨#[58]⟩ : ByteArray) ++ t119)).size + a0_5.size ≤ 9223372036854775807) = true := decide_eq_true c48
                try have c48b1n : decide ((x3_34.size + a0_3.size + (1 + t119.size)) + a0_5.size ≤ 9223372036854775807) = true := by first | exact c48b1 | (have h_ := c48b1; simp only [ByteArray.size_append, Int.natCast_add] at h_; exact h_)
                try have c48b2 : (9223372036854775807 < ((x3_34 ++ a0_3) ++ ((⟨#[58]⟩ : ByteArray) ++ t119)).size + a0_5.size) = False := eq_false (Nat.not_lt.2 c48)
                try have c48b2n : (9223372036854775807 < (x3_34.size + a0_3.size + (1 + t119.size)) + a0_5.size) = False := by first | exact c48b2 | (have h_ := c48b2; simp only [ByteArray.size_append, Int.natCast_add] at h_; exact h_)
                obtain rfl := Option.some.inj H
                obtain ⟨hcz49_0, hcz49_1, hcz49_2, hcz49_3, hcz49_4, hcz49_5, hcz49_6⟩ := blkc7_ BK117.out; obtain ⟨hfz49_0, hfz49_1, hfz49_2, hfz49_3, hfz49_4, hfz49_5, hfz49_6⟩ := blkf7_ BK117.out
                go_wp2_with (first | ((with_reducible refine gate_callee (f := 21) rfl ?_); refine goesL_ (some 51) rfl rfl Tryd.func21 (by kernel_rfl) rfl #[.int .i64 a0_4] rfl z39_ ?_; (with_reducible refine (strconv_Itoa.calls a0_4 t119 _ ?gw25_ A45.out).mono ?_); (case gw25_ => exact z10_); rintro e w50 ⟨rfl, hb⟩; refine ⟨_, rfl, ?_⟩; have n0_ := Aside0.mk (blk_below (g := gb117) (o := .cells #[.int .i64 a0_0, .string a0_1, .bool a0_2, .string a0_3, .int .i64 a0_4, .string a0_5, .string a0_6] 23 (0, 0)) z51_ hb); have n1_ := Aside0.mk (below_step z32_ hb); clear BK117; clear HB; have BK117 := n0_; have HB := n1_; clear n0_ n1_; (try clear hb); (try clear hb2); (try clear hk); (try clear hi); have hcz51_0 : w50.cell? ⟨gb117, 0, none⟩ = some (.int .i64 a0_0) := (blk_cell BK117.out 0).trans rfl; have hcz51_1 : w50.cell? ⟨gb117, 1, none⟩ = some (.string a0_1) := (blk_cell BK117.out 1).trans rfl; have hcz51_2 : w50.cell? ⟨gb117, 2, none⟩ = some (.bool a0_2) := (blk_cell BK117.out 2).trans rfl; have hcz51_3 : w50.cell? ⟨gb117, 3, none⟩ = some (.string a0_3) := (blk_cell BK117.out 3).trans rfl; have hcz51_4 : w50.cell? ⟨gb117, 4, none⟩ = some (.int .i64 a0_4) := (blk_cell BK117.out 4).trans rfl; have hcz51_5 : w50.cell? ⟨gb117, 5, none⟩ = some (.string a0_5) := (blk_cell BK117.out 5).trans rfl; have hcz51_6 : w50.cell? ⟨gb117, 6, none⟩ = some (.string a0_6) := (blk_cell BK117.out 6).trans rfl; have hfz51_0 := blk_frozen BK117.out 0; have hfz51_1 := blk_frozen BK117.out 1; have hfz51_2 := blk_frozen BK117.out 2; have hfz51_3 := blk_frozen BK117.out 3; have hfz51_4 := blk_frozen BK117.out 4; have hfz51_5 := blk_frozen BK117.out 5; have hfz51_6 := blk_frozen BK117.out 6))
                go_ret
                exact ⟨z41_, z32_⟩
               ·rw [if_neg c48] at H
                exact absurd H (by simp)
              ·rw [if_neg c47] at H
               exact absurd H (by simp)
             ·rw [if_neg c46] at H
              exact absurd H (by simp)
            ·rw [if_neg c44] at H
             have c44b0 : decide (0 < a0_4) = false := decide_eq_false c44; clear c44
             by_cases c52 : (x3_34 ++ a0_3).size + a0_5.size ≤ 9223372036854775807
             ·rw [if_pos c52] at H
              have c52b0 := eq_true c52
              try have c52m : ((x3_34.size + a0_3.size) + a0_5.size ≤ 9223372036854775807) = True := by first | exact c52b0 | (have h_ := c52; simp only [ByteArray.size_append, Int.natCast_add] at h_; exact eq_true h_)
              have c52b1 : decide ((x3_34 ++ a0_3).size + a0_5.size ≤ 9223372036854775807) = true := decide_eq_true c52
              try have c52b1n : decide ((x3_34.size + a0_3.size) + a0_5.size ≤ 9223372036854775807) = true := by first | exact c52b1 | (have h_ := c52b1; simp only [ByteArray.size_append, Int.natCast_add] at h_; exact h_)
              try have c52b2 : (9223372036854775807 < (x3_34 ++ a0_3).size + a0_5.size) = False := eq_false (Nat.not_lt.2 c52)
              try have c52b2n : (9223372036854775807 < (x3_34.size + a0_3.size) + a0_5.size) = False := by first | exact c52b2 | (have h_ := c52b2; simp only [ByteArray.size_append, Int.natCast_add] at h_; exact h_)
              obtain rfl := Option.some.inj H
              obtain ⟨hcz53_0, hcz53_1, hcz53_2, hcz53_3, hcz53_4, hcz53_5, hcz53_6⟩ := blkc7_ BK117.out; obtain ⟨hfz53_0, hfz53_1, hfz53_2, hfz53_3, hfz53_4, hfz53_5, hfz53_6⟩ := blkf7_ BK117.out; go_wp2
              go_ret
              exact ⟨z41_, z32_⟩
             ·rw [if_neg c52] at H
              exact absurd H (by simp)
          ·rw [if_neg c39] at H
           exact absurd H (by simp)
 ·replace c3 := Bool.eq_false_iff.mpr c3
  subst c3
  have H1 : (some (⟨#[]⟩ : ByteArray)) = some r := by rw [if_neg (show ¬ (false = true) by decide)] at H; exact H
  clear H
  have H := H1
  clear H1
  obtain rfl := Option.some.inj H
  go_enter Tryd.func8, Tryd.ntmps8
  go_wp2_with (first | ((with_reducible refine gate_dst (N := 1) rfl ?_); refine box_event ?hg (N := 1) ?hd (cs := #[.int .i64 a0_0, .string a0_1, .bool a0_2, .string a0_3, .int .i64 a0_4, .string a0_5, .string a0_6]) (t := 23) ?hr ?_; (case hd => rfl); (case hg => rfl); (case hr => first | (go_simp; done) | (go_simp; rfl)); intro gb117 hg w54 hbox hb; have n0_ := Aside0.mk (below_step z40_ hb); have n1_ := Aside0.mk (hbox); have n2_ := Aside0.mk ((by rw [hg]; exact (below_size z40_) : w.heap.size ≤ gb117)); have n3_ := Aside0.mk ((by rw [hg]; exact (below_size z40_) : w.heap.size ≤ gb117)); clear HB; have HB := n0_; have BK117 := n1_; have GW117 := n2_; have GE117 := n3_; clear n0_ n1_ n2_ n3_; clear hb hbox hg; have hcz55_0 : w54.cell? ⟨gb117, 0, none⟩ = some (.int .i64 a0_0) := (blk_cell BK117.out 0).trans rfl; have hcz55_1 : w54.cell? ⟨gb117, 1, none⟩ = some (.string a0_1) := (blk_cell BK117.out 1).trans rfl; have hcz55_2 : w54.cell? ⟨gb117, 2, none⟩ = some (.bool a0_2) := (blk_cell BK117.out 2).trans rfl; have hcz55_3 : w54.cell? ⟨gb117, 3, none⟩ = some (.string a0_3) := (blk_cell BK117.out 3).trans rfl; have hcz55_4 : w54.cell? ⟨gb117, 4, none⟩ = some (.int .i64 a0_4) := (blk_cell BK117.out 4).trans rfl; have hcz55_5 : w54.cell? ⟨gb117, 5, none⟩ = some (.string a0_5) := (blk_cell BK117.out 5).trans rfl; have hcz55_6 : w54.cell? ⟨gb117, 6, none⟩ = some (.string a0_6) := (blk_cell BK117.out 6).trans rfl; have hfz55_0 := blk_frozen BK117.out 0; have hfz55_1 := blk_frozen BK117.out 1; have hfz55_2 := blk_frozen BK117.out 2; have hfz55_3 := blk_frozen BK117.out 3; have hfz55_4 := blk_frozen BK117.out 4; have hfz55_5 := blk_frozen BK117.out 5; have hfz55_6 := blk_frozen BK117.out 6) | ((with_reducible refine gate_callee (f := 5) rfl ?_); refine goesL_ (some 5) rfl rfl Tryd.func5 (by kernel_rfl) rfl #[.agg #[.int .i64 a0_0, .string a0_1, .bool a0_2, .string a0_3, .int .i64 a0_4, .string a0_5, .string a0_6]] rfl z39_ ?_; (with_reducible refine (source_Good.calls k a0_0 a0_1 a0_2 a0_3 a0_4 a0_5 a0_6 false _ ?gw26_ A2.out).mono ?_); (case gw26_ => exact z10_); rintro e w56 ⟨rfl, hb⟩; refine ⟨_, rfl, ?_⟩; have n0_ := Aside0.mk (blk_below (g := gb117) (o := .cells #[.int .i64 a0_0, .string a0_1, .bool a0_2, .string a0_3, .int .i64 a0_4, .string a0_5, .string a0_6] 23 (0, 0)) z51_ hb); have n1_ := Aside0.mk (below_step z32_ hb); clear BK117; clear HB; have BK117 := n0_; have HB := n1_; clear n0_ n1_; (try clear hb); (try clear hb2); (try clear hk); (try clear hi)))
  go_ret
  exact ⟨z41_, z32_⟩

def host_Under.f (k : Nat) (a0 a1 : ByteArray) : Option (Bool) := (host_Good.f k a0).bind fun t120 => (if t120 = true then ((host_Good.f k a1).bind fun t121 => (if t121 = true then (if 1 + a1.size ≤ 9223372036854775807 then ((strings_HasSuffix.f a0 ((⟨#[46]⟩ : ByteArray) ++ a1)).bind fun t122 => (some t122)) else (none)) else (some false))) else (some false))
set_option maxHeartbeats 8000000 in
set_option maxRecDepth 100000 in
theorem host_Under.calls (k : Nat) (a0 a1 : ByteArray) (r : Bool) (w : World) (hG_ : GW w) (h : host_Under.f k a0 a1 = some r) :
  Calls Tryd.prog 30 #[.string a0, .string a1] w fun e w' => e = .returned (.bool r) ∧ Below w.heap.size w w' := by
 have HB := Aside0.mk (Below.refl w.heap.size w)
 have H : ((host_Good.f k a0).bind fun t120 => (if t120 = true then ((host_Good.f k a1).bind fun t121 => (if t121 = true then (if 1 + a1.size ≤ 9223372036854775807 then ((strings_HasSuffix.f a0 ((⟨#[46]⟩ : ByteArray) ++ a1)).bind fun t122 => (some t122)) else (none)) else (some false))) else (some false))) = some r := h
 clear h
 replace H := Option.bind_eq_some_iff.mp H
 obtain ⟨t120, A30, H⟩ := H
 replace H : (if t120 = true then ((host_Good.f k a1).bind fun t121 => (if t121 = true then (if 1 + a1.size ≤ 9223372036854775807 then ((strings_HasSuffix.f a0 ((⟨#[46]⟩ : ByteArray) ++ a1)).bind fun t122 => (some t122)) else (none)) else (some false))) else (some false)) = some r := H
 have A3 := Aside0.mk A30; clear A30
 by_cases c4 : t120 = true
 ·subst c4
  have H1 : ((host_Good.f k a1).bind fun t121 => (if t121 = true then (if 1 + a1.size ≤ 9223372036854775807 then ((strings_HasSuffix.f a0 ((⟨#[46]⟩ : ByteArray) ++ a1)).bind fun t122 => (some t122)) else (none)) else (some false))) = some r := by rw [if_pos rfl] at H; exact H
  clear H
  have H := H1
  clear H1
  replace H := Option.bind_eq_some_iff.mp H
  obtain ⟨t121, A50, H⟩ := H
  replace H : (if t121 = true then (if 1 + a1.size ≤ 9223372036854775807 then ((strings_HasSuffix.f a0 ((⟨#[46]⟩ : ByteArray) ++ a1)).bind fun t122 => (some t122)) else (none)) else (some false)) = some r := H
  have A5 := Aside0.mk A50; clear A50
  by_cases c6 : t121 = true
  ·subst c6
   have H1 : (if 1 + a1.size ≤ 9223372036854775807 then ((strings_HasSuffix.f a0 ((⟨#[46]⟩ : ByteArray) ++ a1)).bind fun t122 => (some t122)) else (none)) = some r := by rw [if_pos rfl] at H; exact H
   clear H
   have H := H1
   clear H1
   by_cases c7 : 1 + a1.size ≤ 9223372036854775807
   ·rw [if_pos c7] at H
    have c7b0 := eq_true c7; have c7b1 : decide (1 + a1.size ≤ 9223372036854775807) = true := decide_eq_true c7
    try have c7b2 : (9223372036854775807 < 1 + a1.size) = False := eq_false (Nat.not_lt.2 c7)
    try have c7c0 : (9223372036854775807 ≤ a1.size) = False := eq_false (by omega)
    try have c7c1 : (a1.size < 9223372036854775807) = True := eq_true (by omega)
    replace H := Option.bind_eq_some_iff.mp H
    obtain ⟨t122, A80, H⟩ := H
    replace H : (some t122) = some r := H
    have A8 := Aside0.mk A80; clear A80
    obtain rfl := Option.some.inj H
    go_enter Tryd.func30, Tryd.ntmps30
    go_wp2_with (first | ((with_reducible refine gate_callee (f := 34) rfl ?_); refine goesL_ (some 6) rfl rfl Tryd.func34 (by kernel_rfl) rfl #[.string a0] rfl z39_ ?_; (with_reducible refine (host_Good.calls k a0 true _ ?gw27_ A3.out).mono ?_); (case gw27_ => exact z14_); rintro e w9 ⟨rfl, hb⟩; refine ⟨_, rfl, ?_⟩; have n0_ := Aside0.mk (below_step z40_ hb); clear HB; have HB := n0_; clear n0_; (try clear hb); (try clear hb2); (try clear hk); (try clear hi)) | (go_at_call 34; (fail_if_success (have z_ := U_13)); have U_13 := trivial; (with_reducible refine (host_Good.calls k a1 true _ ?gw28_ A5.out).mono ?_); (case gw28_ => exact z14_); rintro e w10 ⟨rfl, hb⟩; have n0_ := Aside0.mk (below_step z40_ hb); clear HB; have HB := n0_; clear n0_; (try clear hb); (try clear hb2); (try clear hk); (try clear hi)) | (go_at_call 49; (fail_if_success (have z_ := U_14)); have U_14 := trivial; (with_reducible refine (strings_HasSuffix.calls a0 ((⟨#[46]⟩ : ByteArray) ++ a1) t122 _ ?gw29_ A8.out).mono ?_); (case gw29_ => exact z14_); rintro e w' ⟨rfl, ⟨nd, rfl⟩⟩))
    go_ret
    exact ⟨z41_, z40_⟩
   ·rw [if_neg c7] at H
    exact absurd H (by simp)
  ·replace c6 := Bool.eq_false_iff.mpr c6
   subst c6
   have H1 : (some false) = some r := by rw [if_neg (show ¬ (false = true) by decide)] at H; exact H
   clear H
   have H := H1
   clear H1
   obtain rfl := Option.some.inj H
   go_enter Tryd.func30, Tryd.ntmps30
   go_wp2_with (first | ((with_reducible refine gate_callee (f := 34) rfl ?_); refine goesL_ (some 6) rfl rfl Tryd.func34 (by kernel_rfl) rfl #[.string a0] rfl z39_ ?_; (with_reducible refine (host_Good.calls k a0 true _ ?gw30_ A3.out).mono ?_); (case gw30_ => exact z14_); rintro e w11 ⟨rfl, hb⟩; refine ⟨_, rfl, ?_⟩; have n0_ := Aside0.mk (below_step z40_ hb); clear HB; have HB := n0_; clear n0_; (try clear hb); (try clear hb2); (try clear hk); (try clear hi)) | (go_at_call 34; (fail_if_success (have z_ := U_15)); have U_15 := trivial; (with_reducible refine (host_Good.calls k a1 false _ ?gw31_ A5.out).mono ?_); (case gw31_ => exact z14_); rintro e w12 ⟨rfl, hb⟩; have n0_ := Aside0.mk (below_step z40_ hb); clear HB; have HB := n0_; clear n0_; (try clear hb); (try clear hb2); (try clear hk); (try clear hi)))
   go_ret
   exact ⟨z41_, z40_⟩
 ·replace c4 := Bool.eq_false_iff.mpr c4
  subst c4
  have H1 : (some false) = some r := by rw [if_neg (show ¬ (false = true) by decide)] at H; exact H
  clear H
  have H := H1
  clear H1
  obtain rfl := Option.some.inj H
  go_enter Tryd.func30, Tryd.ntmps30
  go_wp2_with (first | ((with_reducible refine gate_callee (f := 34) rfl ?_); refine goesL_ (some 6) rfl rfl Tryd.func34 (by kernel_rfl) rfl #[.string a0] rfl z39_ ?_; (with_reducible refine (host_Good.calls k a0 false _ ?gw32_ A3.out).mono ?_); (case gw32_ => exact z14_); rintro e w13 ⟨rfl, hb⟩; refine ⟨_, rfl, ?_⟩; have n0_ := Aside0.mk (below_step z40_ hb); clear HB; have HB := n0_; clear n0_; (try clear hb); (try clear hb2); (try clear hk); (try clear hi)))
  go_ret
  exact ⟨z41_, z40_⟩

def stringslite_HasSuffix.f (a0 a1 : ByteArray) : Option (Bool) := if (a0.size : Int) ≥ (a1.size : Int) then (if 0 ≤ (wrap64 ((a0.size : Int) - (a1.size : Int))) then (if (wrap64 ((a0.size : Int) - (a1.size : Int))) ≤ (a0.size : Int) then (some ((a0.extract ((wrap64 ((a0.size : Int) - (a1.size : Int))) : Int).toNat a0.size).toList == a1.toList)) else (none)) else (none)) else (some false)
set_option maxHeartbeats 8000000 in
set_option maxRecDepth 100000 in
theorem stringslite_HasSuffix.calls (a0 a1 : ByteArray) (r : Bool) (w : World) (hG_ : GW w) (h : stringslite_HasSuffix.f a0 a1 = some r) :
  Calls Tryd.prog 59 #[.string a0, .string a1] w fun e w' => e = .returned (.bool r) ∧ Drawn0 w w' := by
 have H : (if (a0.size : Int) ≥ (a1.size : Int) then (if 0 ≤ (wrap64 ((a0.size : Int) - (a1.size : Int))) then (if (wrap64 ((a0.size : Int) - (a1.size : Int))) ≤ (a0.size : Int) then (some ((a0.extract ((wrap64 ((a0.size : Int) - (a1.size : Int))) : Int).toNat a0.size).toList == a1.toList)) else (none)) else (none)) else (some false)) = some r := h
 clear h
 by_cases c3 : (a0.size : Int) ≥ (a1.size : Int)
 ·rw [if_pos c3] at H
  have c3b0 : decide ((a1.size : Int) ≤ (a0.size : Int)) = true := decide_eq_true c3
  have c3b1 : decide (a1.size ≤ a0.size) = true := decide_eq_true (Int.ofNat_le.mp c3)
  clear c3
  obtain ⟨ji4, hji4⟩ : ∃ j_ : Int, (wrap64 ((a0.size : Int) - (a1.size : Int))) = j_ := ⟨_, rfl⟩
  replace H : (if 0 ≤ (ji4) then (if (ji4) ≤ (a0.size : Int) then (some ((a0.extract ((ji4) : Int).toNat a0.size).toList == a1.toList)) else (none)) else (none)) = some r := by first | (rw [hji4] at H; exact H) | (simp only [hji4] at H ⊢; exact H)
  have hji4w : (IntKind.i64.wrap ((a0.size : Int) - (a1.size : Int))) = ji4 := (i64_w _).trans hji4
  by_cases c5 : 0 ≤ (ji4)
  ·rw [if_pos c5] at H
   have c5b0 := eq_true c5; have c5b1 : decide (0 ≤ (ji4)) = true := decide_eq_true c5; clear c5
   by_cases c6 : (ji4) ≤ (a0.size : Int)
   ·rw [if_pos c6] at H
    have c6b0 := eq_true c6; have c6b1 : decide ((ji4) ≤ (a0.size : Int)) = true := decide_eq_true c6; clear c6
    obtain rfl := Option.some.inj H
    go_enter Tryd.func59, Tryd.ntmps59
    go_wp2
    go_ret
    exact ⟨by first | rfl | (simp [nil_bne, nil_beq]; done) | (simp; done) | (simp only [← hji4] <;> (first | rfl | simp)) | (simp [*]; done), z60_⟩
   ·rw [if_neg c6] at H
    exact absurd H (by simp)
  ·rw [if_neg c5] at H
   exact absurd H (by simp)
 ·rw [if_neg c3] at H
  have c3b0 : decide ((a1.size : Int) ≤ (a0.size : Int)) = false := decide_eq_false c3
  have c3b1 : decide (a1.size ≤ a0.size) = false := decide_eq_false (fun h => c3 (Int.ofNat_le.mpr h))
  clear c3
  obtain rfl := Option.some.inj H
  go_enter Tryd.func59, Tryd.ntmps59
  go_wp2
  go_ret
  exact ⟨z59_, z60_⟩

def stringslite_CutSuffix.f (a0 a1 : ByteArray) : Option (ByteArray × Bool) := (stringslite_HasSuffix.f a0 a1).bind fun t123 => (if t123 = true then (if 0 ≤ (wrap64 ((a0.size : Int) - (a1.size : Int))) then (if (wrap64 ((a0.size : Int) - (a1.size : Int))) ≤ (a0.size : Int) then (some (a0.extract 0 ((wrap64 ((a0.size : Int) - (a1.size : Int))) : Int).toNat, true)) else (none)) else (none)) else (some (a0, false)))
set_option maxHeartbeats 8000000 in
set_option maxRecDepth 100000 in
theorem stringslite_CutSuffix.calls (a0 a1 r1 : ByteArray) (r2 : Bool) (w : World) (hG_ : GW w) (h : stringslite_CutSuffix.f a0 a1 = some (r1, r2)) :
  Calls Tryd.prog 43 #[.string a0, .string a1] w fun e w' => e = .returned (.tuple #[.string r1, .bool r2]) ∧ Drawn0 w w' := by
 have H : ((stringslite_HasSuffix.f a0 a1).bind fun t123 => (if t123 = true then (if 0 ≤ (wrap64 ((a0.size : Int) - (a1.size : Int))) then (if (wrap64 ((a0.size : Int) - (a1.size : Int))) ≤ (a0.size : Int) then (some (a0.extract 0 ((wrap64 ((a0.size : Int) - (a1.size : Int))) : Int).toNat, true)) else (none)) else (none)) else (some (a0, false)))) = some (r1, r2) := h
 clear h
 replace H := Option.bind_eq_some_iff.mp H
 obtain ⟨t123, A30, H⟩ := H
 replace H : (if t123 = true then (if 0 ≤ (wrap64 ((a0.size : Int) - (a1.size : Int))) then (if (wrap64 ((a0.size : Int) - (a1.size : Int))) ≤ (a0.size : Int) then (some (a0.extract 0 ((wrap64 ((a0.size : Int) - (a1.size : Int))) : Int).toNat, true)) else (none)) else (none)) else (some (a0, false))) = some (r1, r2) := H
 have A3 := Aside0.mk A30; clear A30
 by_cases c4 : t123 = true
 ·subst c4
  have H1 : (if 0 ≤ (wrap64 ((a0.size : Int) - (a1.size : Int))) then (if (wrap64 ((a0.size : Int) - (a1.size : Int))) ≤ (a0.size : Int) then (some (a0.extract 0 ((wrap64 ((a0.size : Int) - (a1.size : Int))) : Int).toNat, true)) else (none)) else (none)) = some (r1, r2) := by rw [if_pos rfl] at H; exact H
  clear H
  have H := H1
  clear H1
  obtain ⟨ji5, hji5⟩ : ∃ j_ : Int, (wrap64 ((a0.size : Int) - (a1.size : Int))) = j_ := ⟨_, rfl⟩
  replace H : (if 0 ≤ (ji5) then (if (ji5) ≤ (a0.size : Int) then (some (a0.extract 0 ((ji5) : Int).toNat, true)) else (none)) else (none)) = some (r1, r2) := by first | (rw [hji5] at H; exact H) | (simp only [hji5] at H ⊢; exact H)
  (try rw [hji5] at A3)
  have hji5w : (IntKind.i64.wrap ((a0.size : Int) - (a1.size : Int))) = ji5 := (i64_w _).trans hji5
  by_cases c6 : 0 ≤ (ji5)
  ·rw [if_pos c6] at H
   have c6b0 := eq_true c6; have c6b1 : decide (0 ≤ (ji5)) = true := decide_eq_true c6; clear c6
   by_cases c7 : (ji5) ≤ (a0.size : Int)
   ·rw [if_pos c7] at H
    have c7b0 := eq_true c7; have c7b1 : decide ((ji5) ≤ (a0.size : Int)) = true := decide_eq_true c7; clear c7
    simp only [Option.some.injEq, Prod.mk.injEq] at H
    obtain ⟨rfl, rfl⟩ := H
    go_enter Tryd.func43, Tryd.ntmps43
    go_wp2_with (first | ((with_reducible refine gate_callee (f := 59) rfl ?_); refine goesL_ (some 8) rfl rfl Tryd.func59 (by kernel_rfl) rfl #[.string a0, .string a1] rfl z39_ ?_; (with_reducible refine (stringslite_HasSuffix.calls a0 a1 true _ ?gw33_ A3.out).mono ?_); (case gw33_ => exact z14_); rintro e w' ⟨rfl, ⟨nd, rfl⟩⟩; refine ⟨_, rfl, ?_⟩))
    go_ret2
    exact ⟨by first | rfl | (simp [nil_bne, nil_beq]; done) | (simp; done) | (simp only [← hji5] <;> (first | rfl | simp)) | (simp [*]; done), z60_⟩
   ·rw [if_neg c7] at H
    exact absurd H (by simp)
  ·rw [if_neg c6] at H
   exact absurd H (by simp)
 ·replace c4 := Bool.eq_false_iff.mpr c4
  subst c4
  have H1 : (some (a0, false)) = some (r1, r2) := by rw [if_neg (show ¬ (false = true) by decide)] at H; exact H
  clear H
  have H := H1
  clear H1
  simp only [Option.some.injEq, Prod.mk.injEq] at H
  obtain ⟨rfl, rfl⟩ := H
  go_enter Tryd.func43, Tryd.ntmps43
  go_wp2_with (first | ((with_reducible refine gate_callee (f := 59) rfl ?_); refine goesL_ (some 8) rfl rfl Tryd.func59 (by kernel_rfl) rfl #[.string a0, .string a1] rfl z39_ ?_; (with_reducible refine (stringslite_HasSuffix.calls a0 a1 false _ ?gw34_ A3.out).mono ?_); (case gw34_ => exact z14_); rintro e w' ⟨rfl, ⟨nd, rfl⟩⟩; refine ⟨_, rfl, ?_⟩))
  go_ret2
  exact ⟨z59_, z60_⟩

def strings_CutSuffix.f (a0 a1 : ByteArray) : Option (ByteArray × Bool) := (stringslite_CutSuffix.f a0 a1).bind fun bt124 => (some (bt124.1, bt124.2))
set_option maxHeartbeats 8000000 in
set_option maxRecDepth 100000 in
theorem strings_CutSuffix.calls (a0 a1 r1 : ByteArray) (r2 : Bool) (w : World) (hG_ : GW w) (h : strings_CutSuffix.f a0 a1 = some (r1, r2)) :
  Calls Tryd.prog 26 #[.string a0, .string a1] w fun e w' => e = .returned (.tuple #[.string r1, .bool r2]) ∧ Drawn0 w w' := by
 have H : ((stringslite_CutSuffix.f a0 a1).bind fun bt124 => (some (bt124.1, bt124.2))) = some (r1, r2) := h
 clear h
 replace H := Option.bind_eq_some_iff.mp H
 obtain ⟨⟨t124, t125⟩, A30, H⟩ := H
 replace H : (some (t124, t125)) = some (r1, r2) := H
 have A3 := Aside0.mk A30; clear A30
 simp only [Option.some.injEq, Prod.mk.injEq] at H
 obtain ⟨rfl, rfl⟩ := H
 go_enter Tryd.func26, Tryd.ntmps26
 go_wp2_with (first | ((with_reducible refine gate_callee (f := 43) rfl ?_); refine goesL_ (some 8) rfl rfl Tryd.func43 (by kernel_rfl) rfl #[.string a0, .string a1] rfl z39_ ?_; (with_reducible refine (stringslite_CutSuffix.calls a0 a1 t124 t125 _ ?gw35_ A3.out).mono ?_); (case gw35_ => exact z14_); rintro e w' ⟨rfl, ⟨nd, rfl⟩⟩; refine ⟨_, rfl, ?_⟩))
 go_ret2
 exact ⟨z59_, z60_⟩

def stringslite_HasPrefix.f (a0 a1 : ByteArray) : Option (Bool) := if (a0.size : Int) ≥ (a1.size : Int) then (if 0 ≤ (a1.size : Int) then (if (a1.size : Int) ≤ (a0.size : Int) then (some ((a0.extract 0 ((a1.size : Int) : Int).toNat).toList == a1.toList)) else (none)) else (none)) else (some false)
set_option maxHeartbeats 8000000 in
set_option maxRecDepth 100000 in
theorem stringslite_HasPrefix.calls (a0 a1 : ByteArray) (r : Bool) (w : World) (hG_ : GW w) (h : stringslite_HasPrefix.f a0 a1 = some r) :
  Calls Tryd.prog 42 #[.string a0, .string a1] w fun e w' => e = .returned (.bool r) ∧ Drawn0 w w' := by
 have H : (if (a0.size : Int) ≥ (a1.size : Int) then (if 0 ≤ (a1.size : Int) then (if (a1.size : Int) ≤ (a0.size : Int) then (some ((a0.extract 0 ((a1.size : Int) : Int).toNat).toList == a1.toList)) else (none)) else (none)) else (some false)) = some r := h
 clear h
 by_cases c3 : (a0.size : Int) ≥ (a1.size : Int)
 ·rw [if_pos c3] at H
  have c3b0 : decide ((a1.size : Int) ≤ (a0.size : Int)) = true := decide_eq_true c3
  have c3b1 : decide (a1.size ≤ a0.size) = true := decide_eq_true (Int.ofNat_le.mp c3)
  clear c3
  by_cases c4 : 0 ≤ (a1.size : Int)
  ·rw [if_pos c4] at H
   have c4b0 := eq_true c4; have c4b1 : decide (0 ≤ (a1.size : Int)) = true := decide_eq_true c4; clear c4
   by_cases c5 : (a1.size : Int) ≤ (a0.size : Int)
   ·rw [if_pos c5] at H
    have c5b0 := eq_true c5; have c5b1 : decide ((a1.size : Int) ≤ (a0.size : Int)) = true := decide_eq_true c5; clear c5
    obtain rfl := Option.some.inj H
    go_enter Tryd.func42, Tryd.ntmps42
    go_wp2
    go_ret
    exact ⟨z59_, z60_⟩
   ·rw [if_neg c5] at H
    exact absurd H (by simp)
  ·rw [if_neg c4] at H
   exact absurd H (by simp)
 ·rw [if_neg c3] at H
  have c3b0 : decide ((a1.size : Int) ≤ (a0.size : Int)) = false := decide_eq_false c3
  have c3b1 : decide (a1.size ≤ a0.size) = false := decide_eq_false (fun h => c3 (Int.ofNat_le.mpr h))
  clear c3
  obtain rfl := Option.some.inj H
  go_enter Tryd.func42, Tryd.ntmps42
  go_wp2
  go_ret
  exact ⟨z59_, z60_⟩

def stringslite_CutPrefix.f (a0 a1 : ByteArray) : Option (ByteArray × Bool) := (stringslite_HasPrefix.f a0 a1).bind fun t126 => (if t126 = true then (if 0 ≤ (a1.size : Int) then (if (a1.size : Int) ≤ (a0.size : Int) then (some (a0.extract ((a1.size : Int) : Int).toNat a0.size, true)) else (none)) else (none)) else (some (a0, false)))
set_option maxHeartbeats 8000000 in
set_option maxRecDepth 100000 in
theorem stringslite_CutPrefix.calls (a0 a1 r1 : ByteArray) (r2 : Bool) (w : World) (hG_ : GW w) (h : stringslite_CutPrefix.f a0 a1 = some (r1, r2)) :
  Calls Tryd.prog 61 #[.string a0, .string a1] w fun e w' => e = .returned (.tuple #[.string r1, .bool r2]) ∧ Drawn0 w w' := by
 have H : ((stringslite_HasPrefix.f a0 a1).bind fun t126 => (if t126 = true then (if 0 ≤ (a1.size : Int) then (if (a1.size : Int) ≤ (a0.size : Int) then (some (a0.extract ((a1.size : Int) : Int).toNat a0.size, true)) else (none)) else (none)) else (some (a0, false)))) = some (r1, r2) := h
 clear h
 replace H := Option.bind_eq_some_iff.mp H
 obtain ⟨t126, A30, H⟩ := H
 replace H : (if t126 = true then (if 0 ≤ (a1.size : Int) then (if (a1.size : Int) ≤ (a0.size : Int) then (some (a0.extract ((a1.size : Int) : Int).toNat a0.size, true)) else (none)) else (none)) else (some (a0, false))) = some (r1, r2) := H
 have A3 := Aside0.mk A30; clear A30
 by_cases c4 : t126 = true
 ·subst c4
  have H1 : (if 0 ≤ (a1.size : Int) then (if (a1.size : Int) ≤ (a0.size : Int) then (some (a0.extract ((a1.size : Int) : Int).toNat a0.size, true)) else (none)) else (none)) = some (r1, r2) := by rw [if_pos rfl] at H; exact H
  clear H
  have H := H1
  clear H1
  by_cases c5 : 0 ≤ (a1.size : Int)
  ·rw [if_pos c5] at H
   have c5b0 := eq_true c5; have c5b1 : decide (0 ≤ (a1.size : Int)) = true := decide_eq_true c5; clear c5
   by_cases c6 : (a1.size : Int) ≤ (a0.size : Int)
   ·rw [if_pos c6] at H
    have c6b0 := eq_true c6; have c6b1 : decide ((a1.size : Int) ≤ (a0.size : Int)) = true := decide_eq_true c6; clear c6
    simp only [Option.some.injEq, Prod.mk.injEq] at H
    obtain ⟨rfl, rfl⟩ := H
    go_enter Tryd.func61, Tryd.ntmps61
    go_wp2_with (first | ((with_reducible refine gate_callee (f := 42) rfl ?_); refine goesL_ (some 8) rfl rfl Tryd.func42 (by kernel_rfl) rfl #[.string a0, .string a1] rfl z39_ ?_; (with_reducible refine (stringslite_HasPrefix.calls a0 a1 true _ ?gw36_ A3.out).mono ?_); (case gw36_ => exact z14_); rintro e w' ⟨rfl, ⟨nd, rfl⟩⟩; refine ⟨_, rfl, ?_⟩))
    go_ret2
    exact ⟨z59_, z60_⟩
   ·rw [if_neg c6] at H
    exact absurd H (by simp)
  ·rw [if_neg c5] at H
   exact absurd H (by simp)
 ·replace c4 := Bool.eq_false_iff.mpr c4
  subst c4
  have H1 : (some (a0, false)) = some (r1, r2) := by rw [if_neg (show ¬ (false = true) by decide)] at H; exact H
  clear H
  have H := H1
  clear H1
  simp only [Option.some.injEq, Prod.mk.injEq] at H
  obtain ⟨rfl, rfl⟩ := H
  go_enter Tryd.func61, Tryd.ntmps61
  go_wp2_with (first | ((with_reducible refine gate_callee (f := 42) rfl ?_); refine goesL_ (some 8) rfl rfl Tryd.func42 (by kernel_rfl) rfl #[.string a0, .string a1] rfl z39_ ?_; (with_reducible refine (stringslite_HasPrefix.calls a0 a1 false _ ?gw37_ A3.out).mono ?_); (case gw37_ => exact z14_); rintro e w' ⟨rfl, ⟨nd, rfl⟩⟩; refine ⟨_, rfl, ?_⟩))
  go_ret2
  exact ⟨z59_, z60_⟩

def strings_CutPrefix.f (a0 a1 : ByteArray) : Option (ByteArray × Bool) := (stringslite_CutPrefix.f a0 a1).bind fun bt127 => (some (bt127.1, bt127.2))
set_option maxHeartbeats 8000000 in
set_option maxRecDepth 100000 in
theorem strings_CutPrefix.calls (a0 a1 r1 : ByteArray) (r2 : Bool) (w : World) (hG_ : GW w) (h : strings_CutPrefix.f a0 a1 = some (r1, r2)) :
  Calls Tryd.prog 45 #[.string a0, .string a1] w fun e w' => e = .returned (.tuple #[.string r1, .bool r2]) ∧ Drawn0 w w' := by
 have H : ((stringslite_CutPrefix.f a0 a1).bind fun bt127 => (some (bt127.1, bt127.2))) = some (r1, r2) := h
 clear h
 replace H := Option.bind_eq_some_iff.mp H
 obtain ⟨⟨t127, t128⟩, A30, H⟩ := H
 replace H : (some (t127, t128)) = some (r1, r2) := H
 have A3 := Aside0.mk A30; clear A30
 simp only [Option.some.injEq, Prod.mk.injEq] at H
 obtain ⟨rfl, rfl⟩ := H
 go_enter Tryd.func45, Tryd.ntmps45
 go_wp2_with (first | ((with_reducible refine gate_callee (f := 61) rfl ?_); refine goesL_ (some 8) rfl rfl Tryd.func61 (by kernel_rfl) rfl #[.string a0, .string a1] rfl z39_ ?_; (with_reducible refine (stringslite_CutPrefix.calls a0 a1 t127 t128 _ ?gw38_ A3.out).mono ?_); (case gw38_ => exact z14_); rintro e w' ⟨rfl, ⟨nd, rfl⟩⟩; refine ⟨_, rfl, ?_⟩))
 go_ret2
 exact ⟨z59_, z60_⟩

end Go.Proofs.YtfibkgmbgdaeoaaDoor.Hand
