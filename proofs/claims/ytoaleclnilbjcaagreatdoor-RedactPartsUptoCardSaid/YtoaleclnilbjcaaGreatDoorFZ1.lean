/- What each Go function here computes, and that its call computes it, over contracts proved by hand (written by this project's xprint.py, which drives the kit's print). -/
import Derived.Test.YtoaleclnilbjcaaGreatDoorZ
import Derived.Test.YtoaleclnilbjcaaGreatDoorK
import Derived.Test.YtoaleclnilbjcaaGreatDoorFA1
import Derived.Test.YtoaleclnilbjcaaGreatDoorFU1
import Derived.Test.YtoaleclnilbjcaaGreatDoorFP2
namespace Go.Proofs.YtoaleclnilbjcaaGreatDoor.Hand
open Go.RowKit Go.Proofs.YtoaleclnilbjcaaGreatDoorW.PrintWords Go.Proofs.YtoaleclnilbjcaaGreatDoorW.PrintLast Go.Proofs.YtoaleclnilbjcaaGreatDoorW.PrintMore
attribute [local go_sem] Instr.field asAgg max2_int min2_int max_two min_two max_three min_three max_four min_four   -- for this text's walks alone
set_option linter.unusedVariables false
set_option linter.unusedSimpArgs false

def pursuivantref21_SameInput.f (k : Nat) (a0_0 a0_1 : Int) (a0_2 a0_3 : ByteArray) (a0_4 a0_5 a0_6 a0_7 : Int) (a0_8 : ByteArray) (l0_9 : List (S58)) (a0_10 : ByteArray) (a0_11 : Int) (l0_12 : List (S58)) (a0_13 : ByteArray) (a0_14 : Int) (a1_0 : Int) (a1_1 : Int) (a1_2 : ByteArray) (a1_3 : ByteArray) (a1_4 : Int) (a1_5 : Int) (a1_6 : Int) (a1_7 : Int) (a1_8 : ByteArray) (l1_9 : List (S58)) (a1_10 : ByteArray) (a1_11 : Int) (l1_12 : List (S58)) (a1_13 : ByteArray) (a1_14 : Int) : Option (Bool) := if a0_2.toList = a1_2.toList then (if a0_3.toList = a1_3.toList then (if a0_4 = a1_4 then (if a0_5 = a1_5 then (if a0_6 = a1_6 then (if a0_7 = a1_7 then (if a0_8.toList = a1_8.toList then (if a0_10.toList = a1_10.toList then ((pursuivantref09_Same.f k l0_9 l1_9).bind fun t105 => (if t105 = true then (if a0_0 = a1_0 then (if a0_1 = a1_1 then (if a0_14 = a1_14 then (if a0_11 = a1_11 then (if a0_13.toList = a1_13.toList then ((pursuivantref09_Same.f k l0_12 l1_12).bind fun t106 => (some t106)) else (some false)) else (some false)) else (some false)) else (some false)) else (some false)) else (some false))) else (some false)) else (some false)) else (some false)) else (some false)) else (some false)) else (some false)) else (some false)) else (some false)
def pursuivantref21_SameInput.T1 : Bool × List (List Nat × List Nat) := (true, [([], []), ([0], [0]), ([], []), ([2], [2]), ([], []), ([], []), ([4, 1, 0, 1, 4, 5], [1, 4]), ([5, 3, 6, 0, 1, 2, 3, 4, 5, 6], [3, 5])])
def pursuivantref21_SameInput.B1 : List Nat := [0, 1, 0, 4, 0, 0, 51, 127]
theorem pursuivantref21_SameInput.tab1 : rtab .any (opsOf Tryz.f20 1) = pursuivantref21_SameInput.T1 := by kernel_rfl
theorem pursuivantref21_SameInput.bits1 : waitsOk pursuivantref21_SameInput.T1.2 pursuivantref21_SameInput.B1 = true := by kernel_rfl
set_option maxHeartbeats 8000000 in
set_option maxRecDepth 100000 in
theorem pursuivantref21_SameInput.calls (k : Nat) (a0_0 a0_1 : Int) (a0_2 a0_3 : ByteArray) (a0_4 a0_5 a0_6 a0_7 : Int) (a0_8 : ByteArray) (A0_9 : Option Addr) (c0_9 : Nat) (l0_9 : List (S58)) (a0_10 : ByteArray) (a0_11 : Int) (A0_12 : Option Addr) (c0_12 : Nat) (l0_12 : List (S58)) (a0_13 : ByteArray) (a0_14 : Int) (a1_0 : Int) (a1_1 : Int) (a1_2 : ByteArray) (a1_3 : ByteArray) (a1_4 : Int) (a1_5 : Int) (a1_6 : Int) (a1_7 : Int) (a1_8 : ByteArray) (A1_9 : Option Addr) (c1_9 : Nat) (l1_9 : List (S58)) (a1_10 : ByteArray) (a1_11 : Int) (A1_12 : Option Addr) (c1_12 : Nat) (l1_12 : List (S58)) (a1_13 : ByteArray) (a1_14 : Int) (r : Bool) (w : World) (hG_ : GW w) (hr0_9 : Kd.C k58 w A0_9 l0_9.length l0_9) (hc0_9 : l0_9.length ≤ c0_9) (hr0_12 : Kd.C k58 w A0_12 l0_12.length l0_12) (hc0_12 : l0_12.length ≤ c0_12) (hr1_9 : Kd.C k58 w A1_9 l1_9.length l1_9) (hc1_9 : l1_9.length ≤ c1_9) (hr1_12 : Kd.C k58 w A1_12 l1_12.length l1_12) (hc1_12 : l1_12.length ≤ c1_12) (h : pursuivantref21_SameInput.f k a0_0 a0_1 a0_2 a0_3 a0_4 a0_5 a0_6 a0_7 a0_8 l0_9 a0_10 a0_11 l0_12 a0_13 a0_14 a1_0 a1_1 a1_2 a1_3 a1_4 a1_5 a1_6 a1_7 a1_8 l1_9 a1_10 a1_11 l1_12 a1_13 a1_14 = some r) (hr_ : r = true) :
  Calls Tryz.prog 20 #[.agg #[.int .i64 a0_0, .int .i64 a0_1, .string a0_2, .string a0_3, .int .i64 a0_4, .int .i64 a0_5, .int .i64 a0_6, .int .i64 a0_7, .string a0_8, .slice A0_9 l0_9.length c0_9, .string a0_10, .int .i64 a0_11, .slice A0_12 l0_12.length c0_12, .string a0_13, .int .u64 a0_14], .agg #[.int .i64 a1_0, .int .i64 a1_1, .string a1_2, .string a1_3, .int .i64 a1_4, .int .i64 a1_5, .int .i64 a1_6, .int .i64 a1_7, .string a1_8, .slice A1_9 l1_9.length c1_9, .string a1_10, .int .i64 a1_11, .slice A1_12 l1_12.length c1_12, .string a1_13, .int .u64 a1_14]] w fun e w' => e = .returned (.bool r) ∧ Below w.heap.size w w' := by
 have hu42 := Tryz.underlying42
 have hu38 := Tryz.underlying38
 have HR0_9 := Aside0.mk hr0_9; have HC0_9 := Aside0.mk hc0_9; clear hr0_9 hc0_9; have HR0_12 := Aside0.mk hr0_12; have HC0_12 := Aside0.mk hc0_12; clear hr0_12 hc0_12; have HR1_9 := Aside0.mk hr1_9; have HC1_9 := Aside0.mk hc1_9; clear hr1_9 hc1_9; have HR1_12 := Aside0.mk hr1_12; have HC1_12 := Aside0.mk hc1_12; clear hr1_12 hc1_12
 have HB := Aside0.mk (Below.refl w.heap.size w)
 have H : (if a0_2.toList = a1_2.toList then (if a0_3.toList = a1_3.toList then (if a0_4 = a1_4 then (if a0_5 = a1_5 then (if a0_6 = a1_6 then (if a0_7 = a1_7 then (if a0_8.toList = a1_8.toList then (if a0_10.toList = a1_10.toList then ((pursuivantref09_Same.f k l0_9 l1_9).bind fun t105 => (if t105 = true then (if a0_0 = a1_0 then (if a0_1 = a1_1 then (if a0_14 = a1_14 then (if a0_11 = a1_11 then (if a0_13.toList = a1_13.toList then ((pursuivantref09_Same.f k l0_12 l1_12).bind fun t106 => (some t106)) else (some false)) else (some false)) else (some false)) else (some false)) else (some false)) else (some false))) else (some false)) else (some false)) else (some false)) else (some false)) else (some false)) else (some false)) else (some false)) else (some false)) = some r := h
 clear h
 by_cases c3 : a0_2.toList = a1_2.toList
 ·rw [if_pos c3] at H
  have c3b0 : (a0_2.toList == a1_2.toList) = true := beq_iff_eq.mpr c3
  have c3b1 : (a0_2.toList != a1_2.toList) = false := bne_eq_false_iff_eq.mpr c3
  clear c3
  by_cases c4 : a0_3.toList = a1_3.toList
  ·rw [if_pos c4] at H
   have c4b0 : (a0_3.toList == a1_3.toList) = true := beq_iff_eq.mpr c4
   have c4b1 : (a0_3.toList != a1_3.toList) = false := bne_eq_false_iff_eq.mpr c4
   clear c4
   by_cases c5 : a0_4 = a1_4
   ·rw [if_pos c5] at H
    have c5b0 : (a0_4 == a1_4) = true := beq_iff_eq.mpr c5
    have c5b1 : (a0_4 != a1_4) = false := bne_eq_false_iff_eq.mpr c5
    clear c5
    by_cases c6 : a0_5 = a1_5
    ·rw [if_pos c6] at H
     have c6b0 : (a0_5 == a1_5) = true := beq_iff_eq.mpr c6
     have c6b1 : (a0_5 != a1_5) = false := bne_eq_false_iff_eq.mpr c6
     clear c6
     by_cases c7 : a0_6 = a1_6
     ·rw [if_pos c7] at H
      have c7b0 : (a0_6 == a1_6) = true := beq_iff_eq.mpr c7
      have c7b1 : (a0_6 != a1_6) = false := bne_eq_false_iff_eq.mpr c7
      clear c7
      by_cases c8 : a0_7 = a1_7
      ·rw [if_pos c8] at H
       have c8b0 : (a0_7 == a1_7) = true := beq_iff_eq.mpr c8
       have c8b1 : (a0_7 != a1_7) = false := bne_eq_false_iff_eq.mpr c8
       clear c8
       by_cases c9 : a0_8.toList = a1_8.toList
       ·rw [if_pos c9] at H
        have c9b0 : (a0_8.toList == a1_8.toList) = true := beq_iff_eq.mpr c9
        have c9b1 : (a0_8.toList != a1_8.toList) = false := bne_eq_false_iff_eq.mpr c9
        clear c9
        by_cases c10 : a0_10.toList = a1_10.toList
        ·rw [if_pos c10] at H
         have c10b0 : (a0_10.toList == a1_10.toList) = true := beq_iff_eq.mpr c10
         have c10b1 : (a0_10.toList != a1_10.toList) = false := bne_eq_false_iff_eq.mpr c10
         clear c10
         replace H := Option.bind_eq_some_iff.mp H
         obtain ⟨t105, A110, H⟩ := H
         replace H : (if t105 = true then (if a0_0 = a1_0 then (if a0_1 = a1_1 then (if a0_14 = a1_14 then (if a0_11 = a1_11 then (if a0_13.toList = a1_13.toList then ((pursuivantref09_Same.f k l0_12 l1_12).bind fun t106 => (some t106)) else (some false)) else (some false)) else (some false)) else (some false)) else (some false)) else (some false)) = some r := H
         have A11 := Aside0.mk A110; clear A110
         by_cases c12 : t105 = true
         ·subst c12
          have H1 : (if a0_0 = a1_0 then (if a0_1 = a1_1 then (if a0_14 = a1_14 then (if a0_11 = a1_11 then (if a0_13.toList = a1_13.toList then ((pursuivantref09_Same.f k l0_12 l1_12).bind fun t106 => (some t106)) else (some false)) else (some false)) else (some false)) else (some false)) else (some false)) = some r := by rw [if_pos rfl] at H; exact H
          clear H
          have H := H1
          clear H1
          by_cases c13 : a0_0 = a1_0
          ·rw [if_pos c13] at H
           have c13b0 : (a0_0 == a1_0) = true := beq_iff_eq.mpr c13
           have c13b1 : (a0_0 != a1_0) = false := bne_eq_false_iff_eq.mpr c13
           clear c13
           by_cases c14 : a0_1 = a1_1
           ·rw [if_pos c14] at H
            have c14b0 : (a0_1 == a1_1) = true := beq_iff_eq.mpr c14
            have c14b1 : (a0_1 != a1_1) = false := bne_eq_false_iff_eq.mpr c14
            clear c14
            by_cases c15 : a0_14 = a1_14
            ·rw [if_pos c15] at H
             have c15b0 : (a0_14 == a1_14) = true := beq_iff_eq.mpr c15
             have c15b1 : (a0_14 != a1_14) = false := bne_eq_false_iff_eq.mpr c15
             clear c15
             by_cases c16 : a0_11 = a1_11
             ·rw [if_pos c16] at H
              have c16b0 : (a0_11 == a1_11) = true := beq_iff_eq.mpr c16
              have c16b1 : (a0_11 != a1_11) = false := bne_eq_false_iff_eq.mpr c16
              clear c16
              by_cases c17 : a0_13.toList = a1_13.toList
              ·rw [if_pos c17] at H
               have c17b0 : (a0_13.toList == a1_13.toList) = true := beq_iff_eq.mpr c17
               have c17b1 : (a0_13.toList != a1_13.toList) = false := bne_eq_false_iff_eq.mpr c17
               clear c17
               replace H := Option.bind_eq_some_iff.mp H
               obtain ⟨t106, A180, H⟩ := H
               replace H : (some t106) = some r := H
               have A18 := Aside0.mk A180; clear A180
               obtain rfl := Option.some.inj H
               go_enter Tryz.func20, Tryz.ntmps20
               try go_wp2_with (first | ((with_reducible refine gate_dst (N := 2) rfl ?_); refine box_event ?hg (N := 2) ?hd (cs := #[.int .i64 a0_0, .int .i64 a0_1, .string a0_2, .string a0_3, .int .i64 a0_4, .int .i64 a0_5, .int .i64 a0_6, .int .i64 a0_7, .string a0_8, .slice A0_9 l0_9.length c0_9, .string a0_10, .int .i64 a0_11, .slice A0_12 l0_12.length c0_12, .string a0_13, .int .u64 a0_14]) (t := 42) ?hr ?_; (case hd => rfl); (case hg => rfl); (case hr => first | (go_simp; done) | (go_simp; rfl)); intro gb101 hg w19 hbox hb; have n0_ := Aside0.mk (below_step z23_ hb); have n1_ := Aside0.mk (hbox); have n2_ := Aside0.mk ((by rw [hg]; exact (below_size z23_) : w.heap.size ≤ gb101)); have n3_ := Aside0.mk ((by rw [hg]; exact (below_size z23_) : w.heap.size ≤ gb101)); clear HB; have HB := n0_; have BK101 := n1_; have GW101 := n2_; have GE101 := n3_; clear n0_ n1_ n2_ n3_; clear hb hbox hg) | ((with_reducible refine gate_dst (N := 3) rfl ?_); refine box_event ?hg (N := 3) ?hd (cs := #[.int .i64 a1_0, .int .i64 a1_1, .string a1_2, .string a1_3, .int .i64 a1_4, .int .i64 a1_5, .int .i64 a1_6, .int .i64 a1_7, .string a1_8, .slice A1_9 l1_9.length c1_9, .string a1_10, .int .i64 a1_11, .slice A1_12 l1_12.length c1_12, .string a1_13, .int .u64 a1_14]) (t := 42) ?hr ?_; (case hd => rfl); (case hg => rfl); (case hr => first | (go_simp; done) | (go_simp; rfl)); intro gb102 hg w20 hbox hb; have n0_ := Aside0.mk (blk_below (g := gb101) (o := .cells #[.int .i64 a0_0, .int .i64 a0_1, .string a0_2, .string a0_3, .int .i64 a0_4, .int .i64 a0_5, .int .i64 a0_6, .int .i64 a0_7, .string a0_8, .slice A0_9 l0_9.length c0_9, .string a0_10, .int .i64 a0_11, .slice A0_12 l0_12.length c0_12, .string a0_13, .int .u64 a0_14] 42 (0, 0)) z33_ hb); have n1_ := Aside0.mk (below_step z16_ hb); have n2_ := Aside0.mk (hbox); have n3_ := Aside0.mk ((by rw [hg]; exact (below_size z16_) : w.heap.size ≤ gb102)); have n4_ := Aside0.mk ((by rw [hg]; exact (below_size z16_) : w.heap.size ≤ gb102)); have n5_ := Aside0.mk ((by rw [hg]; exact Nat.ne_of_lt (blk_lt (g := gb101) (o := .cells #[.int .i64 a0_0, .int .i64 a0_1, .string a0_2, .string a0_3, .int .i64 a0_4, .int .i64 a0_5, .int .i64 a0_6, .int .i64 a0_7, .string a0_8, .slice A0_9 l0_9.length c0_9, .string a0_10, .int .i64 a0_11, .slice A0_12 l0_12.length c0_12, .string a0_13, .int .u64 a0_14] 42 (0, 0)) z33_) : gb101 ≠ gb102)); have n6_ := Aside0.mk ((by rw [hg]; exact Nat.ne_of_gt (blk_lt (g := gb101) (o := .cells #[.int .i64 a0_0, .int .i64 a0_1, .string a0_2, .string a0_3, .int .i64 a0_4, .int .i64 a0_5, .int .i64 a0_6, .int .i64 a0_7, .string a0_8, .slice A0_9 l0_9.length c0_9, .string a0_10, .int .i64 a0_11, .slice A0_12 l0_12.length c0_12, .string a0_13, .int .u64 a0_14] 42 (0, 0)) z33_) : gb102 ≠ gb101)); clear BK101; clear HB; have BK101 := n0_; have HB := n1_; have BK102 := n2_; have GW102 := n3_; have GE102 := n4_; have NB101_102 := n5_; have NB102_101 := n6_; clear n0_ n1_ n2_ n3_ n4_ n5_ n6_; clear hb hbox hg))
               have n0_ := Aside0.mk (blk_drew BK101.out)
               have n1_ := Aside0.mk (blk_drew BK102.out)
               have n2_ := Aside0.mk (below_drew1 HB.out)
               clear BK101; clear BK102; clear HB
               have BK101 := n0_
               have BK102 := n1_
               have HB := n2_
               clear n0_ n1_ n2_
               refine start_ (n := 8) (S := fun w' => w'.cell? ⟨gb101, 0, none⟩ = some (.int .i64 a0_0) ∧ w'.cell? ⟨gb101, 1, none⟩ = some (.int .i64 a0_1) ∧ w'.cell? ⟨gb101, 2, none⟩ = some (.string a0_2) ∧ w'.cell? ⟨gb101, 3, none⟩ = some (.string a0_3) ∧ w'.cell? ⟨gb101, 4, none⟩ = some (.int .i64 a0_4) ∧ w'.cell? ⟨gb101, 5, none⟩ = some (.int .i64 a0_5) ∧ w'.cell? ⟨gb101, 6, none⟩ = some (.int .i64 a0_6) ∧ w'.cell? ⟨gb101, 7, none⟩ = some (.int .i64 a0_7) ∧ w'.cell? ⟨gb101, 8, none⟩ = some (.string a0_8) ∧ w'.cell? ⟨gb101, 9, none⟩ = some (.slice A0_9 l0_9.length c0_9) ∧ w'.cell? ⟨gb101, 10, none⟩ = some (.string a0_10) ∧ w'.cell? ⟨gb101, 11, none⟩ = some (.int .i64 a0_11) ∧ w'.cell? ⟨gb101, 12, none⟩ = some (.slice A0_12 l0_12.length c0_12) ∧ w'.cell? ⟨gb101, 13, none⟩ = some (.string a0_13) ∧ w'.cell? ⟨gb101, 14, none⟩ = some (.int .u64 a0_14) ∧ w'.cell? ⟨gb102, 0, none⟩ = some (.int .i64 a1_0) ∧ w'.cell? ⟨gb102, 1, none⟩ = some (.int .i64 a1_1) ∧ w'.cell? ⟨gb102, 2, none⟩ = some (.string a1_2) ∧ w'.cell? ⟨gb102, 3, none⟩ = some (.string a1_3) ∧ w'.cell? ⟨gb102, 4, none⟩ = some (.int .i64 a1_4) ∧ w'.cell? ⟨gb102, 5, none⟩ = some (.int .i64 a1_5) ∧ w'.cell? ⟨gb102, 6, none⟩ = some (.int .i64 a1_6) ∧ w'.cell? ⟨gb102, 7, none⟩ = some (.int .i64 a1_7) ∧ w'.cell? ⟨gb102, 8, none⟩ = some (.string a1_8) ∧ w'.cell? ⟨gb102, 9, none⟩ = some (.slice A1_9 l1_9.length c1_9) ∧ w'.cell? ⟨gb102, 10, none⟩ = some (.string a1_10) ∧ w'.cell? ⟨gb102, 11, none⟩ = some (.int .i64 a1_11) ∧ w'.cell? ⟨gb102, 12, none⟩ = some (.slice A1_12 l1_12.length c1_12) ∧ w'.cell? ⟨gb102, 13, none⟩ = some (.string a1_13) ∧ w'.cell? ⟨gb102, 14, none⟩ = some (.int .u64 a1_14)) (ds := []) #[false, false, false, false, false, false, false, false] (by kernel_rfl) rfl rfl ⟨(blk_cell BK101.out 0).trans rfl, (blk_cell BK101.out 1).trans rfl, (blk_cell BK101.out 2).trans rfl, (blk_cell BK101.out 3).trans rfl, (blk_cell BK101.out 4).trans rfl, (blk_cell BK101.out 5).trans rfl, (blk_cell BK101.out 6).trans rfl, (blk_cell BK101.out 7).trans rfl, (blk_cell BK101.out 8).trans rfl, (blk_cell BK101.out 9).trans rfl, (blk_cell BK101.out 10).trans rfl, (blk_cell BK101.out 11).trans rfl, (blk_cell BK101.out 12).trans rfl, (blk_cell BK101.out 13).trans rfl, (blk_cell BK101.out 14).trans rfl, (blk_cell BK102.out 0).trans rfl, (blk_cell BK102.out 1).trans rfl, (blk_cell BK102.out 2).trans rfl, (blk_cell BK102.out 3).trans rfl, (blk_cell BK102.out 4).trans rfl, (blk_cell BK102.out 5).trans rfl, (blk_cell BK102.out 6).trans rfl, (blk_cell BK102.out 7).trans rfl, (blk_cell BK102.out 8).trans rfl, (blk_cell BK102.out 9).trans rfl, (blk_cell BK102.out 10).trans rfl, (blk_cell BK102.out 11).trans rfl, (blk_cell BK102.out 12).trans rfl, (blk_cell BK102.out 13).trans rfl, (blk_cell BK102.out 14).trans rfl⟩ (fun hHeld => ?_); refine with_tabW pursuivantref21_SameInput.tab1 pursuivantref21_SameInput.bits1 (fun HT_ HW_ => ?_)
               generalize w20.drew = w21 at BK101 BK102 HB hHeld ⊢
               refine pure_ (i := 0) (N := some 7) (v := ?_) (a' := ?_) #[true, false, false, false, false, false, false, false] rfl rfl (any_of HT_.out (by kernel_rfl)) (fun _ _ _ h => h) (Or.inl ⟨by rfl, ?_⟩) ?_ ?_
               rotate_left
               ·intro w'
                go_simp
                with_reducible rfl
               rotate_left
               ·simp only [Act.put, List.setIfInBounds_toArray, List.set_cons_zero, List.set_cons_succ, i64_w, i32_w]
                rfl
               refine pure_ (i := 2) (N := some 9) (v := ?_) (a' := ?_) #[true, false, true, false, false, false, false, false] rfl rfl (any_of HT_.out (by kernel_rfl)) (fun _ _ _ h => h) (Or.inl ⟨by rfl, ?_⟩) ?_ ?_
               rotate_left
               ·intro w'
                go_simp
                with_reducible rfl
               rotate_left
               ·simp only [Act.put, List.setIfInBounds_toArray, List.set_cons_zero, List.set_cons_succ, i64_w, i32_w]
                rfl
               refine take_ (i := 1) (N := some 8) (v := ?_) (a' := ?_) #[true, true, true, false, false, false, false, false] rfl rfl (take_ofW HT_.out HW_.out (by kernel_rfl)) (fun _ _ _ h => h) (Or.inl ⟨by rfl, ?_⟩) hHeld ?_ ?_
               rotate_left
               ·rintro w' ⟨s0, s1, s2, s3, s4, s5, s6, s7, s8, s9, s10, s11, s12, s13, s14, s15, s16, s17, s18, s19, s20, s21, s22, s23, s24, s25, s26, s27, s28, s29⟩
                go_simp
                with_reducible rfl
               rotate_left
               ·simp only [Act.put, List.setIfInBounds_toArray, List.set_cons_zero, List.set_cons_succ, i64_w, i32_w]
                rfl
               refine take_ (i := 3) (N := some 10) (v := ?_) (a' := ?_) #[true, true, true, true, false, false, false, false] rfl rfl (take_ofW HT_.out HW_.out (by kernel_rfl)) (fun _ _ _ h => h) (Or.inl ⟨by rfl, ?_⟩) hHeld ?_ ?_
               rotate_left
               ·rintro w' ⟨s0, s1, s2, s3, s4, s5, s6, s7, s8, s9, s10, s11, s12, s13, s14, s15, s16, s17, s18, s19, s20, s21, s22, s23, s24, s25, s26, s27, s28, s29⟩
                go_simp
                with_reducible rfl
               rotate_left
               ·simp only [Act.put, List.setIfInBounds_toArray, List.set_cons_zero, List.set_cons_succ, i64_w, i32_w]
                rfl
               refine join_ (σ := Nat × Nat) 2 #[true, true, true, true, true, true, false, false] (fun s_ => [(5, .pointer (some ⟨s_.1, 0, none⟩)), (6, .pointer (some ⟨s_.2, 0, none⟩))]) (fun s_ w' => (w'.cell? ⟨gb101, 0, none⟩ = some (.int .i64 a0_0) ∧ w'.cell? ⟨gb101, 1, none⟩ = some (.int .i64 a0_1) ∧ w'.cell? ⟨gb101, 2, none⟩ = some (.string a0_2) ∧ w'.cell? ⟨gb101, 3, none⟩ = some (.string a0_3) ∧ w'.cell? ⟨gb101, 4, none⟩ = some (.int .i64 a0_4) ∧ w'.cell? ⟨gb101, 5, none⟩ = some (.int .i64 a0_5) ∧ w'.cell? ⟨gb101, 6, none⟩ = some (.int .i64 a0_6) ∧ w'.cell? ⟨gb101, 7, none⟩ = some (.int .i64 a0_7) ∧ w'.cell? ⟨gb101, 8, none⟩ = some (.string a0_8) ∧ w'.cell? ⟨gb101, 9, none⟩ = some (.slice A0_9 l0_9.length c0_9) ∧ w'.cell? ⟨gb101, 10, none⟩ = some (.string a0_10) ∧ w'.cell? ⟨gb101, 11, none⟩ = some (.int .i64 a0_11) ∧ w'.cell? ⟨gb101, 12, none⟩ = some (.slice A0_12 l0_12.length c0_12) ∧ w'.cell? ⟨gb101, 13, none⟩ = some (.string a0_13) ∧ w'.cell? ⟨gb101, 14, none⟩ = some (.int .u64 a0_14) ∧ w'.cell? ⟨gb102, 0, none⟩ = some (.int .i64 a1_0) ∧ w'.cell? ⟨gb102, 1, none⟩ = some (.int .i64 a1_1) ∧ w'.cell? ⟨gb102, 2, none⟩ = some (.string a1_2) ∧ w'.cell? ⟨gb102, 3, none⟩ = some (.string a1_3) ∧ w'.cell? ⟨gb102, 4, none⟩ = some (.int .i64 a1_4) ∧ w'.cell? ⟨gb102, 5, none⟩ = some (.int .i64 a1_5) ∧ w'.cell? ⟨gb102, 6, none⟩ = some (.int .i64 a1_6) ∧ w'.cell? ⟨gb102, 7, none⟩ = some (.int .i64 a1_7) ∧ w'.cell? ⟨gb102, 8, none⟩ = some (.string a1_8) ∧ w'.cell? ⟨gb102, 9, none⟩ = some (.slice A1_9 l1_9.length c1_9) ∧ w'.cell? ⟨gb102, 10, none⟩ = some (.string a1_10) ∧ w'.cell? ⟨gb102, 11, none⟩ = some (.int .i64 a1_11) ∧ w'.cell? ⟨gb102, 12, none⟩ = some (.slice A1_12 l1_12.length c1_12) ∧ w'.cell? ⟨gb102, 13, none⟩ = some (.string a1_13) ∧ w'.cell? ⟨gb102, 14, none⟩ = some (.int .u64 a1_14)) ∧ (w'.heap[gb101]? = some (.cells #[.int .i64 a0_0, .int .i64 a0_1, .string a0_2, .string a0_3, .int .i64 a0_4, .int .i64 a0_5, .int .i64 a0_6, .int .i64 a0_7, .string a0_8, .slice A0_9 l0_9.length c0_9, .string a0_10, .int .i64 a0_11, .slice A0_12 l0_12.length c0_12, .string a0_13, .int .u64 a0_14] 42 (0, 0))) ∧ (w'.heap[gb102]? = some (.cells #[.int .i64 a1_0, .int .i64 a1_1, .string a1_2, .string a1_3, .int .i64 a1_4, .int .i64 a1_5, .int .i64 a1_6, .int .i64 a1_7, .string a1_8, .slice A1_9 l1_9.length c1_9, .string a1_10, .int .i64 a1_11, .slice A1_12 l1_12.length c1_12, .string a1_13, .int .u64 a1_14] 42 (0, 0))) ∧ (w'.heap[s_.1]? = some (.cells #[.string (⟨#[]⟩ : ByteArray), .string (⟨#[]⟩ : ByteArray), .int .i64 0, .int .i64 0, .int .i64 0, .int .i64 0, .string (⟨#[]⟩ : ByteArray), .slice none 0 0, .string (⟨#[]⟩ : ByteArray)] 38 (0, 0))) ∧ (w'.heap[s_.2]? = some (.cells #[.string (⟨#[]⟩ : ByteArray), .string (⟨#[]⟩ : ByteArray), .int .i64 0, .int .i64 0, .int .i64 0, .int .i64 0, .string (⟨#[]⟩ : ByteArray), .slice none 0 0, .string (⟨#[]⟩ : ByteArray)] 38 (0, 0))) ∧ (w.heap.size ≤ s_.1) ∧ (w.heap.size ≤ s_.1) ∧ (gb101 ≠ s_.1) ∧ (s_.1 ≠ gb101) ∧ (gb102 ≠ s_.1) ∧ (s_.1 ≠ gb102) ∧ (s_.2 ≠ s_.1) ∧ (s_.1 ≠ s_.2) ∧ (w.heap.size ≤ s_.2) ∧ (w.heap.size ≤ s_.2) ∧ (gb101 ≠ s_.2) ∧ (s_.2 ≠ gb101) ∧ (gb102 ≠ s_.2) ∧ (s_.2 ≠ gb102) ∧ (Below w.heap.size w w')) ?_ ?_
               rotate_left
               ·intro hCont
                refine two_ (i := 4) (j := 5) (Ni := some 5) (Nj := some 6) #[true, true, true, true, true, false, false, false] #[true, true, true, true, false, true, false, false] rfl rfl rfl rfl (two_of HT_.out (by kernel_rfl)) (by decide) (by decide) (fun K hK => ?_) (fun K hK => ?_)
                ·skip
                 refine box_step ?hg (N := 5) ?hd (cs := #[.string (⟨#[]⟩ : ByteArray), .string (⟨#[]⟩ : ByteArray), .int .i64 0, .int .i64 0, .int .i64 0, .int .i64 0, .string (⟨#[]⟩ : ByteArray), .slice none 0 0, .string (⟨#[]⟩ : ByteArray)]) (t := 38) ?hr ?_; (case hd => rfl); (case hg => rfl); (case hr => first | (go_simp; done) | (go_simp; rfl))
                 intro gb103 hg w22 hbox hb
                 have n0_ := Aside0.mk (blk_below (g := gb101) (o := .cells #[.int .i64 a0_0, .int .i64 a0_1, .string a0_2, .string a0_3, .int .i64 a0_4, .int .i64 a0_5, .int .i64 a0_6, .int .i64 a0_7, .string a0_8, .slice A0_9 l0_9.length c0_9, .string a0_10, .int .i64 a0_11, .slice A0_12 l0_12.length c0_12, .string a0_13, .int .u64 a0_14] 42 (0, 0)) z33_ hb)
                 have n1_ := Aside0.mk (blk_below (g := gb102) (o := .cells #[.int .i64 a1_0, .int .i64 a1_1, .string a1_2, .string a1_3, .int .i64 a1_4, .int .i64 a1_5, .int .i64 a1_6, .int .i64 a1_7, .string a1_8, .slice A1_9 l1_9.length c1_9, .string a1_10, .int .i64 a1_11, .slice A1_12 l1_12.length c1_12, .string a1_13, .int .u64 a1_14] 42 (0, 0)) z35_ hb)
                 have n2_ := Aside0.mk (below_step z10_ hb)
                 have n3_ := Aside0.mk (hbox)
                 have n4_ := Aside0.mk ((by rw [hg]; exact (below_size z10_) : w.heap.size ≤ gb103))
                 have n5_ := Aside0.mk ((by rw [hg]; exact (below_size z10_) : w.heap.size ≤ gb103))
                 have n6_ := Aside0.mk ((by rw [hg]; exact Nat.ne_of_lt (blk_lt (g := gb101) (o := .cells #[.int .i64 a0_0, .int .i64 a0_1, .string a0_2, .string a0_3, .int .i64 a0_4, .int .i64 a0_5, .int .i64 a0_6, .int .i64 a0_7, .string a0_8, .slice A0_9 l0_9.length c0_9, .string a0_10, .int .i64 a0_11, .slice A0_12 l0_12.length c0_12, .string a0_13, .int .u64 a0_14] 42 (0, 0)) z33_) : gb101 ≠ gb103))
                 have n7_ := Aside0.mk ((by rw [hg]; exact Nat.ne_of_gt (blk_lt (g := gb101) (o := .cells #[.int .i64 a0_0, .int .i64 a0_1, .string a0_2, .string a0_3, .int .i64 a0_4, .int .i64 a0_5, .int .i64 a0_6, .int .i64 a0_7, .string a0_8, .slice A0_9 l0_9.length c0_9, .string a0_10, .int .i64 a0_11, .slice A0_12 l0_12.length c0_12, .string a0_13, .int .u64 a0_14] 42 (0, 0)) z33_) : gb103 ≠ gb101))
                 have n8_ := Aside0.mk ((by rw [hg]; exact Nat.ne_of_lt (blk_lt (g := gb102) (o := .cells #[.int .i64 a1_0, .int .i64 a1_1, .string a1_2, .string a1_3, .int .i64 a1_4, .int .i64 a1_5, .int .i64 a1_6, .int .i64 a1_7, .string a1_8, .slice A1_9 l1_9.length c1_9, .string a1_10, .int .i64 a1_11, .slice A1_12 l1_12.length c1_12, .string a1_13, .int .u64 a1_14] 42 (0, 0)) z35_) : gb102 ≠ gb103))
                 have n9_ := Aside0.mk ((by rw [hg]; exact Nat.ne_of_gt (blk_lt (g := gb102) (o := .cells #[.int .i64 a1_0, .int .i64 a1_1, .string a1_2, .string a1_3, .int .i64 a1_4, .int .i64 a1_5, .int .i64 a1_6, .int .i64 a1_7, .string a1_8, .slice A1_9 l1_9.length c1_9, .string a1_10, .int .i64 a1_11, .slice A1_12 l1_12.length c1_12, .string a1_13, .int .u64 a1_14] 42 (0, 0)) z35_) : gb103 ≠ gb102))
                 clear BK101; clear BK102; clear HB
                 have BK101 := n0_
                 have BK102 := n1_
                 have HB := n2_
                 have BK103 := n3_
                 have GW103 := n4_
                 have GE103 := n5_
                 have NB101_103 := n6_
                 have NB103_101 := n7_
                 have NB102_103 := n8_
                 have NB103_102 := n9_
                 clear n0_ n1_ n2_ n3_ n4_ n5_ n6_ n7_ n8_ n9_; clear hb hbox hg
                 refine hK.out _ _ ⟨(blk_cell BK101.out 0).trans rfl, (blk_cell BK101.out 1).trans rfl, (blk_cell BK101.out 2).trans rfl, (blk_cell BK101.out 3).trans rfl, (blk_cell BK101.out 4).trans rfl, (blk_cell BK101.out 5).trans rfl, (blk_cell BK101.out 6).trans rfl, (blk_cell BK101.out 7).trans rfl, (blk_cell BK101.out 8).trans rfl, (blk_cell BK101.out 9).trans rfl, (blk_cell BK101.out 10).trans rfl, (blk_cell BK101.out 11).trans rfl, (blk_cell BK101.out 12).trans rfl, (blk_cell BK101.out 13).trans rfl, (blk_cell BK101.out 14).trans rfl, (blk_cell BK102.out 0).trans rfl, (blk_cell BK102.out 1).trans rfl, (blk_cell BK102.out 2).trans rfl, (blk_cell BK102.out 3).trans rfl, (blk_cell BK102.out 4).trans rfl, (blk_cell BK102.out 5).trans rfl, (blk_cell BK102.out 6).trans rfl, (blk_cell BK102.out 7).trans rfl, (blk_cell BK102.out 8).trans rfl, (blk_cell BK102.out 9).trans rfl, (blk_cell BK102.out 10).trans rfl, (blk_cell BK102.out 11).trans rfl, (blk_cell BK102.out 12).trans rfl, (blk_cell BK102.out 13).trans rfl, (blk_cell BK102.out 14).trans rfl⟩ (fun hHeld => ?_)
                 clear hK K
                 refine norm_ (a' := ?_) ?_ ?_
                 rotate_left
                 ·show Act.put _ (some 5) _ = _
                  simp only [Act.put, List.setIfInBounds_toArray, List.set_cons_zero, List.set_cons_succ, i64_w, i32_w]
                  rfl
                 refine one_ (i := 5) (N := some 6) #[true, true, true, true, true, true, false, false] rfl rfl (one_of HT_.out (by kernel_rfl)) (by decide) (fun K hK => ?_)
                 refine box_step ?hg (N := 6) ?hd (cs := #[.string (⟨#[]⟩ : ByteArray), .string (⟨#[]⟩ : ByteArray), .int .i64 0, .int .i64 0, .int .i64 0, .int .i64 0, .string (⟨#[]⟩ : ByteArray), .slice none 0 0, .string (⟨#[]⟩ : ByteArray)]) (t := 38) ?hr ?_; (case hd => rfl); (case hg => rfl); (case hr => first | (go_simp; done) | (go_simp; rfl))
                 intro gb104 hg w23 hbox hb
                 have n0_ := Aside0.mk (blk_below (g := gb101) (o := .cells #[.int .i64 a0_0, .int .i64 a0_1, .string a0_2, .string a0_3, .int .i64 a0_4, .int .i64 a0_5, .int .i64 a0_6, .int .i64 a0_7, .string a0_8, .slice A0_9 l0_9.length c0_9, .string a0_10, .int .i64 a0_11, .slice A0_12 l0_12.length c0_12, .string a0_13, .int .u64 a0_14] 42 (0, 0)) z33_ hb)
                 have n1_ := Aside0.mk (blk_below (g := gb102) (o := .cells #[.int .i64 a1_0, .int .i64 a1_1, .string a1_2, .string a1_3, .int .i64 a1_4, .int .i64 a1_5, .int .i64 a1_6, .int .i64 a1_7, .string a1_8, .slice A1_9 l1_9.length c1_9, .string a1_10, .int .i64 a1_11, .slice A1_12 l1_12.length c1_12, .string a1_13, .int .u64 a1_14] 42 (0, 0)) z35_ hb)
                 have n2_ := Aside0.mk (blk_below (g := gb103) (o := .cells #[.string (⟨#[]⟩ : ByteArray), .string (⟨#[]⟩ : ByteArray), .int .i64 0, .int .i64 0, .int .i64 0, .int .i64 0, .string (⟨#[]⟩ : ByteArray), .slice none 0 0, .string (⟨#[]⟩ : ByteArray)] 38 (0, 0)) z31_ hb)
                 have n3_ := Aside0.mk (below_step z7_ hb)
                 have n4_ := Aside0.mk (hbox)
                 have n5_ := Aside0.mk ((by rw [hg]; exact (below_size z7_) : w.heap.size ≤ gb104))
                 have n6_ := Aside0.mk ((by rw [hg]; exact (below_size z7_) : w.heap.size ≤ gb104))
                 have n7_ := Aside0.mk ((by rw [hg]; exact Nat.ne_of_lt (blk_lt (g := gb101) (o := .cells #[.int .i64 a0_0, .int .i64 a0_1, .string a0_2, .string a0_3, .int .i64 a0_4, .int .i64 a0_5, .int .i64 a0_6, .int .i64 a0_7, .string a0_8, .slice A0_9 l0_9.length c0_9, .string a0_10, .int .i64 a0_11, .slice A0_12 l0_12.length c0_12, .string a0_13, .int .u64 a0_14] 42 (0, 0)) z33_) : gb101 ≠ gb104))
                 have n8_ := Aside0.mk ((by rw [hg]; exact Nat.ne_of_gt (blk_lt (g := gb101) (o := .cells #[.int .i64 a0_0, .int .i64 a0_1, .string a0_2, .string a0_3, .int .i64 a0_4, .int .i64 a0_5, .int .i64 a0_6, .int .i64 a0_7, .string a0_8, .slice A0_9 l0_9.length c0_9, .string a0_10, .int .i64 a0_11, .slice A0_12 l0_12.length c0_12, .string a0_13, .int .u64 a0_14] 42 (0, 0)) z33_) : gb104 ≠ gb101))
                 have n9_ := Aside0.mk ((by rw [hg]; exact Nat.ne_of_lt (blk_lt (g := gb102) (o := .cells #[.int .i64 a1_0, .int .i64 a1_1, .string a1_2, .string a1_3, .int .i64 a1_4, .int .i64 a1_5, .int .i64 a1_6, .int .i64 a1_7, .string a1_8, .slice A1_9 l1_9.length c1_9, .string a1_10, .int .i64 a1_11, .slice A1_12 l1_12.length c1_12, .string a1_13, .int .u64 a1_14] 42 (0, 0)) z35_) : gb102 ≠ gb104))
                 have n10_ := Aside0.mk ((by rw [hg]; exact Nat.ne_of_gt (blk_lt (g := gb102) (o := .cells #[.int .i64 a1_0, .int .i64 a1_1, .string a1_2, .string a1_3, .int .i64 a1_4, .int .i64 a1_5, .int .i64 a1_6, .int .i64 a1_7, .string a1_8, .slice A1_9 l1_9.length c1_9, .string a1_10, .int .i64 a1_11, .slice A1_12 l1_12.length c1_12, .string a1_13, .int .u64 a1_14] 42 (0, 0)) z35_) : gb104 ≠ gb102))
                 have n11_ := Aside0.mk ((by rw [hg]; exact Nat.ne_of_lt (blk_lt (g := gb103) (o := .cells #[.string (⟨#[]⟩ : ByteArray), .string (⟨#[]⟩ : ByteArray), .int .i64 0, .int .i64 0, .int .i64 0, .int .i64 0, .string (⟨#[]⟩ : ByteArray), .slice none 0 0, .string (⟨#[]⟩ : ByteArray)] 38 (0, 0)) z31_) : gb103 ≠ gb104))
                 have n12_ := Aside0.mk ((by rw [hg]; exact Nat.ne_of_gt (blk_lt (g := gb103) (o := .cells #[.string (⟨#[]⟩ : ByteArray), .string (⟨#[]⟩ : ByteArray), .int .i64 0, .int .i64 0, .int .i64 0, .int .i64 0, .string (⟨#[]⟩ : ByteArray), .slice none 0 0, .string (⟨#[]⟩ : ByteArray)] 38 (0, 0)) z31_) : gb104 ≠ gb103))
                 clear BK101; clear BK102; clear BK103; clear HB
                 have BK101 := n0_
                 have BK102 := n1_
                 have BK103 := n2_
                 have HB := n3_
                 have BK104 := n4_
                 have GW104 := n5_
                 have GE104 := n6_
                 have NB101_104 := n7_
                 have NB104_101 := n8_
                 have NB102_104 := n9_
                 have NB104_102 := n10_
                 have NB103_104 := n11_
                 have NB104_103 := n12_
                 clear n0_ n1_ n2_ n3_ n4_ n5_ n6_ n7_ n8_ n9_ n10_ n11_ n12_; clear hb hbox hg
                 refine hK.out _ _ ⟨(blk_cell BK101.out 0).trans rfl, (blk_cell BK101.out 1).trans rfl, (blk_cell BK101.out 2).trans rfl, (blk_cell BK101.out 3).trans rfl, (blk_cell BK101.out 4).trans rfl, (blk_cell BK101.out 5).trans rfl, (blk_cell BK101.out 6).trans rfl, (blk_cell BK101.out 7).trans rfl, (blk_cell BK101.out 8).trans rfl, (blk_cell BK101.out 9).trans rfl, (blk_cell BK101.out 10).trans rfl, (blk_cell BK101.out 11).trans rfl, (blk_cell BK101.out 12).trans rfl, (blk_cell BK101.out 13).trans rfl, (blk_cell BK101.out 14).trans rfl, (blk_cell BK102.out 0).trans rfl, (blk_cell BK102.out 1).trans rfl, (blk_cell BK102.out 2).trans rfl, (blk_cell BK102.out 3).trans rfl, (blk_cell BK102.out 4).trans rfl, (blk_cell BK102.out 5).trans rfl, (blk_cell BK102.out 6).trans rfl, (blk_cell BK102.out 7).trans rfl, (blk_cell BK102.out 8).trans rfl, (blk_cell BK102.out 9).trans rfl, (blk_cell BK102.out 10).trans rfl, (blk_cell BK102.out 11).trans rfl, (blk_cell BK102.out 12).trans rfl, (blk_cell BK102.out 13).trans rfl, (blk_cell BK102.out 14).trans rfl⟩ (fun hHeld => ?_)
                 clear hK K
                 refine norm_ (a' := ?_) ?_ ?_
                 rotate_left
                 ·show Act.put _ (some 6) _ = _
                  simp only [Act.put, List.setIfInBounds_toArray, List.set_cons_zero, List.set_cons_succ, i64_w, i32_w]
                  rfl
                 exact norm_ z55_ (hCont (gb103, gb104) _ ⟨hHeld, z33_, z35_, z31_, z40_, GW103.out, GE103.out, NB101_103.out, NB103_101.out, NB102_103.out, NB103_102.out, NB104_103.out, NB103_104.out, GW104.out, GE104.out, NB101_104.out, NB104_101.out, NB102_104.out, NB104_102.out, z6_⟩)
                ·skip
                 refine box_step ?hg (N := 6) ?hd (cs := #[.string (⟨#[]⟩ : ByteArray), .string (⟨#[]⟩ : ByteArray), .int .i64 0, .int .i64 0, .int .i64 0, .int .i64 0, .string (⟨#[]⟩ : ByteArray), .slice none 0 0, .string (⟨#[]⟩ : ByteArray)]) (t := 38) ?hr ?_; (case hd => rfl); (case hg => rfl); (case hr => first | (go_simp; done) | (go_simp; rfl))
                 intro gb104 hg w22 hbox hb
                 have n0_ := Aside0.mk (blk_below (g := gb101) (o := .cells #[.int .i64 a0_0, .int .i64 a0_1, .string a0_2, .string a0_3, .int .i64 a0_4, .int .i64 a0_5, .int .i64 a0_6, .int .i64 a0_7, .string a0_8, .slice A0_9 l0_9.length c0_9, .string a0_10, .int .i64 a0_11, .slice A0_12 l0_12.length c0_12, .string a0_13, .int .u64 a0_14] 42 (0, 0)) z33_ hb)
                 have n1_ := Aside0.mk (blk_below (g := gb102) (o := .cells #[.int .i64 a1_0, .int .i64 a1_1, .string a1_2, .string a1_3, .int .i64 a1_4, .int .i64 a1_5, .int .i64 a1_6, .int .i64 a1_7, .string a1_8, .slice A1_9 l1_9.length c1_9, .string a1_10, .int .i64 a1_11, .slice A1_12 l1_12.length c1_12, .string a1_13, .int .u64 a1_14] 42 (0, 0)) z35_ hb)
                 have n2_ := Aside0.mk (below_step z10_ hb)
                 have n3_ := Aside0.mk (hbox)
                 have n4_ := Aside0.mk ((by rw [hg]; exact (below_size z10_) : w.heap.size ≤ gb104))
                 have n5_ := Aside0.mk ((by rw [hg]; exact (below_size z10_) : w.heap.size ≤ gb104))
                 have n6_ := Aside0.mk ((by rw [hg]; exact Nat.ne_of_lt (blk_lt (g := gb101) (o := .cells #[.int .i64 a0_0, .int .i64 a0_1, .string a0_2, .string a0_3, .int .i64 a0_4, .int .i64 a0_5, .int .i64 a0_6, .int .i64 a0_7, .string a0_8, .slice A0_9 l0_9.length c0_9, .string a0_10, .int .i64 a0_11, .slice A0_12 l0_12.length c0_12, .string a0_13, .int .u64 a0_14] 42 (0, 0)) z33_) : gb101 ≠ gb104))
                 have n7_ := Aside0.mk ((by rw [hg]; exact Nat.ne_of_gt (blk_lt (g := gb101) (o := .cells #[.int .i64 a0_0, .int .i64 a0_1, .string a0_2, .string a0_3, .int .i64 a0_4, .int .i64 a0_5, .int .i64 a0_6, .int .i64 a0_7, .string a0_8, .slice A0_9 l0_9.length c0_9, .string a0_10, .int .i64 a0_11, .slice A0_12 l0_12.length c0_12, .string a0_13, .int .u64 a0_14] 42 (0, 0)) z33_) : gb104 ≠ gb101))
                 have n8_ := Aside0.mk ((by rw [hg]; exact Nat.ne_of_lt (blk_lt (g := gb102) (o := .cells #[.int .i64 a1_0, .int .i64 a1_1, .string a1_2, .string a1_3, .int .i64 a1_4, .int .i64 a1_5, .int .i64 a1_6, .int .i64 a1_7, .string a1_8, .slice A1_9 l1_9.length c1_9, .string a1_10, .int .i64 a1_11, .slice A1_12 l1_12.length c1_12, .string a1_13, .int .u64 a1_14] 42 (0, 0)) z35_) : gb102 ≠ gb104))
                 have n9_ := Aside0.mk ((by rw [hg]; exact Nat.ne_of_gt (blk_lt (g := gb102) (o := .cells #[.int .i64 a1_0, .int .i64 a1_1, .string a1_2, .string a1_3, .int .i64 a1_4, .int .i64 a1_5, .int .i64 a1_6, .int .i64 a1_7, .string a1_8, .slice A1_9 l1_9.length c1_9, .string a1_10, .int .i64 a1_11, .slice A1_12 l1_12.length c1_12, .string a1_13, .int .u64 a1_14] 42 (0, 0)) z35_) : gb104 ≠ gb102))
                 clear BK101; clear BK102; clear HB
                 have BK101 := n0_
                 have BK102 := n1_
                 have HB := n2_
                 have BK104 := n3_
                 have GW104 := n4_
                 have GE104 := n5_
                 have NB101_104 := n6_
                 have NB104_101 := n7_
                 have NB102_104 := n8_
                 have NB104_102 := n9_
                 clear n0_ n1_ n2_ n3_ n4_ n5_ n6_ n7_ n8_ n9_; clear hb hbox hg
                 refine hK.out _ _ ⟨(blk_cell BK101.out 0).trans rfl, (blk_cell BK101.out 1).trans rfl, (blk_cell BK101.out 2).trans rfl, (blk_cell BK101.out 3).trans rfl, (blk_cell BK101.out 4).trans rfl, (blk_cell BK101.out 5).trans rfl, (blk_cell BK101.out 6).trans rfl, (blk_cell BK101.out 7).trans rfl, (blk_cell BK101.out 8).trans rfl, (blk_cell BK101.out 9).trans rfl, (blk_cell BK101.out 10).trans rfl, (blk_cell BK101.out 11).trans rfl, (blk_cell BK101.out 12).trans rfl, (blk_cell BK101.out 13).trans rfl, (blk_cell BK101.out 14).trans rfl, (blk_cell BK102.out 0).trans rfl, (blk_cell BK102.out 1).trans rfl, (blk_cell BK102.out 2).trans rfl, (blk_cell BK102.out 3).trans rfl, (blk_cell BK102.out 4).trans rfl, (blk_cell BK102.out 5).trans rfl, (blk_cell BK102.out 6).trans rfl, (blk_cell BK102.out 7).trans rfl, (blk_cell BK102.out 8).trans rfl, (blk_cell BK102.out 9).trans rfl, (blk_cell BK102.out 10).trans rfl, (blk_cell BK102.out 11).trans rfl, (blk_cell BK102.out 12).trans rfl, (blk_cell BK102.out 13).trans rfl, (blk_cell BK102.out 14).trans rfl⟩ (fun hHeld => ?_)
                 clear hK K
                 refine norm_ (a' := ?_) ?_ ?_
                 rotate_left
                 ·show Act.put _ (some 6) _ = _
                  simp only [Act.put, List.setIfInBounds_toArray, List.set_cons_zero, List.set_cons_succ, i64_w, i32_w]
                  rfl
                 refine one_ (i := 4) (N := some 5) #[true, true, true, true, true, true, false, false] rfl rfl (one_of HT_.out (by kernel_rfl)) (by decide) (fun K hK => ?_)
                 refine box_step ?hg (N := 5) ?hd (cs := #[.string (⟨#[]⟩ : ByteArray), .string (⟨#[]⟩ : ByteArray), .int .i64 0, .int .i64 0, .int .i64 0, .int .i64 0, .string (⟨#[]⟩ : ByteArray), .slice none 0 0, .string (⟨#[]⟩ : ByteArray)]) (t := 38) ?hr ?_; (case hd => rfl); (case hg => rfl); (case hr => first | (go_simp; done) | (go_simp; rfl))
                 intro gb103 hg w23 hbox hb
                 have n0_ := Aside0.mk (blk_below (g := gb101) (o := .cells #[.int .i64 a0_0, .int .i64 a0_1, .string a0_2, .string a0_3, .int .i64 a0_4, .int .i64 a0_5, .int .i64 a0_6, .int .i64 a0_7, .string a0_8, .slice A0_9 l0_9.length c0_9, .string a0_10, .int .i64 a0_11, .slice A0_12 l0_12.length c0_12, .string a0_13, .int .u64 a0_14] 42 (0, 0)) z33_ hb)
                 have n1_ := Aside0.mk (blk_below (g := gb102) (o := .cells #[.int .i64 a1_0, .int .i64 a1_1, .string a1_2, .string a1_3, .int .i64 a1_4, .int .i64 a1_5, .int .i64 a1_6, .int .i64 a1_7, .string a1_8, .slice A1_9 l1_9.length c1_9, .string a1_10, .int .i64 a1_11, .slice A1_12 l1_12.length c1_12, .string a1_13, .int .u64 a1_14] 42 (0, 0)) z35_ hb)
                 have n2_ := Aside0.mk (blk_below (g := gb104) (o := .cells #[.string (⟨#[]⟩ : ByteArray), .string (⟨#[]⟩ : ByteArray), .int .i64 0, .int .i64 0, .int .i64 0, .int .i64 0, .string (⟨#[]⟩ : ByteArray), .slice none 0 0, .string (⟨#[]⟩ : ByteArray)] 38 (0, 0)) z40_ hb)
                 have n3_ := Aside0.mk (below_step z8_ hb)
                 have n4_ := Aside0.mk (hbox)
                 have n5_ := Aside0.mk ((by rw [hg]; exact (below_size z8_) : w.heap.size ≤ gb103))
                 have n6_ := Aside0.mk ((by rw [hg]; exact (below_size z8_) : w.heap.size ≤ gb103))
                 have n7_ := Aside0.mk ((by rw [hg]; exact Nat.ne_of_lt (blk_lt (g := gb101) (o := .cells #[.int .i64 a0_0, .int .i64 a0_1, .string a0_2, .string a0_3, .int .i64 a0_4, .int .i64 a0_5, .int .i64 a0_6, .int .i64 a0_7, .string a0_8, .slice A0_9 l0_9.length c0_9, .string a0_10, .int .i64 a0_11, .slice A0_12 l0_12.length c0_12, .string a0_13, .int .u64 a0_14] 42 (0, 0)) z33_) : gb101 ≠ gb103))
                 have n8_ := Aside0.mk ((by rw [hg]; exact Nat.ne_of_gt (blk_lt (g := gb101) (o := .cells #[.int .i64 a0_0, .int .i64 a0_1, .string a0_2, .string a0_3, .int .i64 a0_4, .int .i64 a0_5, .int .i64 a0_6, .int .i64 a0_7, .string a0_8, .slice A0_9 l0_9.length c0_9, .string a0_10, .int .i64 a0_11, .slice A0_12 l0_12.length c0_12, .string a0_13, .int .u64 a0_14] 42 (0, 0)) z33_) : gb103 ≠ gb101))
                 have n9_ := Aside0.mk ((by rw [hg]; exact Nat.ne_of_lt (blk_lt (g := gb102) (o := .cells #[.int .i64 a1_0, .int .i64 a1_1, .string a1_2, .string a1_3, .int .i64 a1_4, .int .i64 a1_5, .int .i64 a1_6, .int .i64 a1_7, .string a1_8, .slice A1_9 l1_9.length c1_9, .string a1_10, .int .i64 a1_11, .slice A1_12 l1_12.length c1_12, .string a1_13, .int .u64 a1_14] 42 (0, 0)) z35_) : gb102 ≠ gb103))
                 have n10_ := Aside0.mk ((by rw [hg]; exact Nat.ne_of_gt (blk_lt (g := gb102) (o := .cells #[.int .i64 a1_0, .int .i64 a1_1, .string a1_2, .string a1_3, .int .i64 a1_4, .int .i64 a1_5, .int .i64 a1_6, .int .i64 a1_7, .string a1_8, .slice A1_9 l1_9.length c1_9, .string a1_10, .int .i64 a1_11, .slice A1_12 l1_12.length c1_12, .string a1_13, .int .u64 a1_14] 42 (0, 0)) z35_) : gb103 ≠ gb102))
                 have n11_ := Aside0.mk ((by rw [hg]; exact Nat.ne_of_lt (blk_lt (g := gb104) (o := .cells #[.string (⟨#[]⟩ : ByteArray), .string (⟨#[]⟩ : ByteArray), .int .i64 0, .int .i64 0, .int .i64 0, .int .i64 0, .string (⟨#[]⟩ : ByteArray), .slice none 0 0, .string (⟨#[]⟩ : ByteArray)] 38 (0, 0)) z40_) : gb104 ≠ gb103))
                 have n12_ := Aside0.mk ((by rw [hg]; exact Nat.ne_of_gt (blk_lt (g := gb104) (o := .cells #[.string (⟨#[]⟩ : ByteArray), .string (⟨#[]⟩ : ByteArray), .int .i64 0, .int .i64 0, .int .i64 0, .int .i64 0, .string (⟨#[]⟩ : ByteArray), .slice none 0 0, .string (⟨#[]⟩ : ByteArray)] 38 (0, 0)) z40_) : gb103 ≠ gb104))
                 clear BK101; clear BK102; clear BK104; clear HB
                 have BK101 := n0_
                 have BK102 := n1_
                 have BK104 := n2_
                 have HB := n3_
                 have BK103 := n4_
                 have GW103 := n5_
                 have GE103 := n6_
                 have NB101_103 := n7_
                 have NB103_101 := n8_
                 have NB102_103 := n9_
                 have NB103_102 := n10_
                 have NB104_103 := n11_
                 have NB103_104 := n12_
                 clear n0_ n1_ n2_ n3_ n4_ n5_ n6_ n7_ n8_ n9_ n10_ n11_ n12_; clear hb hbox hg
                 refine hK.out _ _ ⟨(blk_cell BK101.out 0).trans rfl, (blk_cell BK101.out 1).trans rfl, (blk_cell BK101.out 2).trans rfl, (blk_cell BK101.out 3).trans rfl, (blk_cell BK101.out 4).trans rfl, (blk_cell BK101.out 5).trans rfl, (blk_cell BK101.out 6).trans rfl, (blk_cell BK101.out 7).trans rfl, (blk_cell BK101.out 8).trans rfl, (blk_cell BK101.out 9).trans rfl, (blk_cell BK101.out 10).trans rfl, (blk_cell BK101.out 11).trans rfl, (blk_cell BK101.out 12).trans rfl, (blk_cell BK101.out 13).trans rfl, (blk_cell BK101.out 14).trans rfl, (blk_cell BK102.out 0).trans rfl, (blk_cell BK102.out 1).trans rfl, (blk_cell BK102.out 2).trans rfl, (blk_cell BK102.out 3).trans rfl, (blk_cell BK102.out 4).trans rfl, (blk_cell BK102.out 5).trans rfl, (blk_cell BK102.out 6).trans rfl, (blk_cell BK102.out 7).trans rfl, (blk_cell BK102.out 8).trans rfl, (blk_cell BK102.out 9).trans rfl, (blk_cell BK102.out 10).trans rfl, (blk_cell BK102.out 11).trans rfl, (blk_cell BK102.out 12).trans rfl, (blk_cell BK102.out 13).trans rfl, (blk_cell BK102.out 14).trans rfl⟩ (fun hHeld => ?_)
                 clear hK K
                 refine norm_ (a' := ?_) ?_ ?_
                 rotate_left
                 ·show Act.put _ (some 5) _ = _
                  simp only [Act.put, List.setIfInBounds_toArray, List.set_cons_zero, List.set_cons_succ, i64_w, i32_w]
                  rfl
                 exact norm_ z55_ (hCont (gb103, gb104) _ ⟨hHeld, z33_, z35_, z31_, z40_, GW103.out, GE103.out, NB101_103.out, NB103_101.out, NB102_103.out, NB103_102.out, NB104_103.out, NB103_104.out, GW104.out, GE104.out, NB101_104.out, NB104_101.out, NB102_104.out, NB104_102.out, (by repeat (first | (with_reducible first | exact HB.out | apply below_alloc | apply pw_below_drewN | apply below_drew1 | refine below_set ?_ GE101.out | refine below_set ?_ GE102.out | refine below_set ?_ GE104.out | refine below_set ?_ GE103.out) | exact HB.out))⟩)
               rintro ⟨gb103, gb104⟩ w24 ⟨hS_, h0_, h1_, h2_, h3_, h4_, h5_, h6_, h7_, h8_, h9_, h10_, h11_, h12_, h13_, h14_, h15_, h16_, h17_, h18_⟩
               have n0_ : Aside0 (w24.heap[gb101]? = some (.cells #[.int .i64 a0_0, .int .i64 a0_1, .string a0_2, .string a0_3, .int .i64 a0_4, .int .i64 a0_5, .int .i64 a0_6, .int .i64 a0_7, .string a0_8, .slice A0_9 l0_9.length c0_9, .string a0_10, .int .i64 a0_11, .slice A0_12 l0_12.length c0_12, .string a0_13, .int .u64 a0_14] 42 (0, 0))) := ⟨h0_⟩
               have n1_ : Aside0 (w24.heap[gb102]? = some (.cells #[.int .i64 a1_0, .int .i64 a1_1, .string a1_2, .string a1_3, .int .i64 a1_4, .int .i64 a1_5, .int .i64 a1_6, .int .i64 a1_7, .string a1_8, .slice A1_9 l1_9.length c1_9, .string a1_10, .int .i64 a1_11, .slice A1_12 l1_12.length c1_12, .string a1_13, .int .u64 a1_14] 42 (0, 0))) := ⟨h1_⟩
               have n2_ : Aside0 (w24.heap[gb103]? = some (.cells #[.string (⟨#[]⟩ : ByteArray), .string (⟨#[]⟩ : ByteArray), .int .i64 0, .int .i64 0, .int .i64 0, .int .i64 0, .string (⟨#[]⟩ : ByteArray), .slice none 0 0, .string (⟨#[]⟩ : ByteArray)] 38 (0, 0))) := ⟨h2_⟩
               have n3_ : Aside0 (w24.heap[gb104]? = some (.cells #[.string (⟨#[]⟩ : ByteArray), .string (⟨#[]⟩ : ByteArray), .int .i64 0, .int .i64 0, .int .i64 0, .int .i64 0, .string (⟨#[]⟩ : ByteArray), .slice none 0 0, .string (⟨#[]⟩ : ByteArray)] 38 (0, 0))) := ⟨h3_⟩
               have n4_ : Aside0 (w.heap.size ≤ gb103) := ⟨h4_⟩
               have n5_ : Aside0 (w.heap.size ≤ gb103) := ⟨h5_⟩
               have n6_ : Aside0 (gb101 ≠ gb103) := ⟨h6_⟩
               have n7_ : Aside0 (gb103 ≠ gb101) := ⟨h7_⟩
               have n8_ : Aside0 (gb102 ≠ gb103) := ⟨h8_⟩
               have n9_ : Aside0 (gb103 ≠ gb102) := ⟨h9_⟩
               have n10_ : Aside0 (gb104 ≠ gb103) := ⟨h10_⟩
               have n11_ : Aside0 (gb103 ≠ gb104) := ⟨h11_⟩
               have n12_ : Aside0 (w.heap.size ≤ gb104) := ⟨h12_⟩
               have n13_ : Aside0 (w.heap.size ≤ gb104) := ⟨h13_⟩
               have n14_ : Aside0 (gb101 ≠ gb104) := ⟨h14_⟩
               have n15_ : Aside0 (gb104 ≠ gb101) := ⟨h15_⟩
               have n16_ : Aside0 (gb102 ≠ gb104) := ⟨h16_⟩
               have n17_ : Aside0 (gb104 ≠ gb102) := ⟨h17_⟩
               have n18_ : Aside0 (Below w.heap.size w w24) := ⟨h18_⟩
               clear BK101; clear BK102; clear HB; clear h0_ h1_ h2_ h3_ h4_ h5_ h6_ h7_ h8_ h9_ h10_ h11_ h12_ h13_ h14_ h15_ h16_ h17_ h18_
               have BK101 := n0_
               have BK102 := n1_
               have BK103 := n2_
               have BK104 := n3_
               have GW103 := n4_
               have GE103 := n5_
               have NB101_103 := n6_
               have NB103_101 := n7_
               have NB102_103 := n8_
               have NB103_102 := n9_
               have NB104_103 := n10_
               have NB103_104 := n11_
               have GW104 := n12_
               have GE104 := n13_
               have NB101_104 := n14_
               have NB104_101 := n15_
               have NB102_104 := n16_
               have NB104_102 := n17_
               have HB := n18_
               clear n0_ n1_ n2_ n3_ n4_ n5_ n6_ n7_ n8_ n9_ n10_ n11_ n12_ n13_ n14_ n15_ n16_ n17_ n18_
               have hHeld : w24.cell? ⟨gb101, 0, none⟩ = some (.int .i64 a0_0) ∧ w24.cell? ⟨gb101, 1, none⟩ = some (.int .i64 a0_1) ∧ w24.cell? ⟨gb101, 2, none⟩ = some (.string a0_2) ∧ w24.cell? ⟨gb101, 3, none⟩ = some (.string a0_3) ∧ w24.cell? ⟨gb101, 4, none⟩ = some (.int .i64 a0_4) ∧ w24.cell? ⟨gb101, 5, none⟩ = some (.int .i64 a0_5) ∧ w24.cell? ⟨gb101, 6, none⟩ = some (.int .i64 a0_6) ∧ w24.cell? ⟨gb101, 7, none⟩ = some (.int .i64 a0_7) ∧ w24.cell? ⟨gb101, 8, none⟩ = some (.string a0_8) ∧ w24.cell? ⟨gb101, 9, none⟩ = some (.slice A0_9 l0_9.length c0_9) ∧ w24.cell? ⟨gb101, 10, none⟩ = some (.string a0_10) ∧ w24.cell? ⟨gb101, 11, none⟩ = some (.int .i64 a0_11) ∧ w24.cell? ⟨gb101, 12, none⟩ = some (.slice A0_12 l0_12.length c0_12) ∧ w24.cell? ⟨gb101, 13, none⟩ = some (.string a0_13) ∧ w24.cell? ⟨gb101, 14, none⟩ = some (.int .u64 a0_14) ∧ w24.cell? ⟨gb102, 0, none⟩ = some (.int .i64 a1_0) ∧ w24.cell? ⟨gb102, 1, none⟩ = some (.int .i64 a1_1) ∧ w24.cell? ⟨gb102, 2, none⟩ = some (.string a1_2) ∧ w24.cell? ⟨gb102, 3, none⟩ = some (.string a1_3) ∧ w24.cell? ⟨gb102, 4, none⟩ = some (.int .i64 a1_4) ∧ w24.cell? ⟨gb102, 5, none⟩ = some (.int .i64 a1_5) ∧ w24.cell? ⟨gb102, 6, none⟩ = some (.int .i64 a1_6) ∧ w24.cell? ⟨gb102, 7, none⟩ = some (.int .i64 a1_7) ∧ w24.cell? ⟨gb102, 8, none⟩ = some (.string a1_8) ∧ w24.cell? ⟨gb102, 9, none⟩ = some (.slice A1_9 l1_9.length c1_9) ∧ w24.cell? ⟨gb102, 10, none⟩ = some (.string a1_10) ∧ w24.cell? ⟨gb102, 11, none⟩ = some (.int .i64 a1_11) ∧ w24.cell? ⟨gb102, 12, none⟩ = some (.slice A1_12 l1_12.length c1_12) ∧ w24.cell? ⟨gb102, 13, none⟩ = some (.string a1_13) ∧ w24.cell? ⟨gb102, 14, none⟩ = some (.int .u64 a1_14) := hS_
               refine norm_ (a' := ?_) ?_ ?_
               rotate_left
               ·simp only [putAll, Act.put, List.setIfInBounds_toArray, List.set_cons_zero, List.set_cons_succ]
                rfl
               refine one_ (i := 6) (N := none) #[true, true, true, true, true, true, true, false] rfl rfl (one_of HT_.out (by kernel_rfl)) (by decide) (fun K hK => ?_)
               have hs25 : w24.cell? ⟨gb103, 0, none⟩ = some (.string (⟨#[]⟩ : ByteArray)) := (blk_cell BK103.out 0).trans rfl
               have hfs25 := blk_frozen BK103.out 0; have hns25_0 := NB101_103.out; have hns25_1 := NB102_103.out; have hns25_3 := NB104_103.out
               have hms25_0 := NB103_101.out
               have hms25_1 := NB103_102.out
               have hms25_3 := NB103_104.out
               have hs26 : w24.cell? ⟨gb103, 1, none⟩ = some (.string (⟨#[]⟩ : ByteArray)) := (blk_cell BK103.out 1).trans rfl
               have hfs26 := blk_frozen BK103.out 1; have hns26_0 := NB101_103.out; have hns26_1 := NB102_103.out; have hns26_3 := NB104_103.out
               have hms26_0 := NB103_101.out
               have hms26_1 := NB103_102.out
               have hms26_3 := NB103_104.out
               have hs27 : w24.cell? ⟨gb103, 2, none⟩ = some (.int .i64 0) := (blk_cell BK103.out 2).trans rfl
               have hfs27 := blk_frozen BK103.out 2; have hns27_0 := NB101_103.out; have hns27_1 := NB102_103.out; have hns27_3 := NB104_103.out
               have hms27_0 := NB103_101.out
               have hms27_1 := NB103_102.out
               have hms27_3 := NB103_104.out
               have hs28 : w24.cell? ⟨gb103, 3, none⟩ = some (.int .i64 0) := (blk_cell BK103.out 3).trans rfl
               have hfs28 := blk_frozen BK103.out 3; have hns28_0 := NB101_103.out; have hns28_1 := NB102_103.out; have hns28_3 := NB104_103.out
               have hms28_0 := NB103_101.out
               have hms28_1 := NB103_102.out
               have hms28_3 := NB103_104.out
               have hs29 : w24.cell? ⟨gb103, 4, none⟩ = some (.int .i64 0) := (blk_cell BK103.out 4).trans rfl
               have hfs29 := blk_frozen BK103.out 4; have hns29_0 := NB101_103.out; have hns29_1 := NB102_103.out; have hns29_3 := NB104_103.out
               have hms29_0 := NB103_101.out
               have hms29_1 := NB103_102.out
               have hms29_3 := NB103_104.out
               have hs30 : w24.cell? ⟨gb103, 5, none⟩ = some (.int .i64 0) := (blk_cell BK103.out 5).trans rfl
               have hfs30 := blk_frozen BK103.out 5; have hns30_0 := NB101_103.out; have hns30_1 := NB102_103.out; have hns30_3 := NB104_103.out
               have hms30_0 := NB103_101.out
               have hms30_1 := NB103_102.out
               have hms30_3 := NB103_104.out
               have hs31 : w24.cell? ⟨gb103, 6, none⟩ = some (.string (⟨#[]⟩ : ByteArray)) := (blk_cell BK103.out 6).trans rfl
               have hfs31 := blk_frozen BK103.out 6; have hns31_0 := NB101_103.out; have hns31_1 := NB102_103.out; have hns31_3 := NB104_103.out
               have hms31_0 := NB103_101.out
               have hms31_1 := NB103_102.out
               have hms31_3 := NB103_104.out
               have hs32 : w24.cell? ⟨gb103, 7, none⟩ = some (.slice none 0 0) := (blk_cell BK103.out 7).trans rfl
               have hfs32 := blk_frozen BK103.out 7; have hns32_0 := NB101_103.out; have hns32_1 := NB102_103.out; have hns32_3 := NB104_103.out
               have hms32_0 := NB103_101.out
               have hms32_1 := NB103_102.out
               have hms32_3 := NB103_104.out
               have hs33 : w24.cell? ⟨gb103, 8, none⟩ = some (.string (⟨#[]⟩ : ByteArray)) := (blk_cell BK103.out 8).trans rfl
               have hfs33 := blk_frozen BK103.out 8; have hns33_0 := NB101_103.out; have hns33_1 := NB102_103.out; have hns33_3 := NB104_103.out
               have hms33_0 := NB103_101.out
               have hms33_1 := NB103_102.out
               have hms33_3 := NB103_104.out
               refine skip_ (w1 := ?_) (by rfl) rfl ?_ ?_
               rotate_left
               ·go_simp
                rfl
               refine hK.out _ _ ⟨((cell_far (p := ⟨gb103, _, none⟩) NB101_103.out _).trans (((cell_far (p := ⟨gb103, _, none⟩) NB101_103.out _).trans (((cell_far (p := ⟨gb103, _, none⟩) NB101_103.out _).trans (((cell_far (p := ⟨gb103, _, none⟩) NB101_103.out _).trans (((cell_far (p := ⟨gb103, _, none⟩) NB101_103.out _).trans (((cell_far (p := ⟨gb103, _, none⟩) NB101_103.out _).trans (((cell_far (p := ⟨gb103, _, none⟩) NB101_103.out _).trans (((cell_far (p := ⟨gb103, _, none⟩) NB101_103.out _).trans (((cell_far (p := ⟨gb103, _, none⟩) NB101_103.out _).trans (hHeld.1)))))))))))))))))), ((cell_far (p := ⟨gb103, _, none⟩) NB101_103.out _).trans (((cell_far (p := ⟨gb103, _, none⟩) NB101_103.out _).trans (((cell_far (p := ⟨gb103, _, none⟩) NB101_103.out _).trans (((cell_far (p := ⟨gb103, _, none⟩) NB101_103.out _).trans (((cell_far (p := ⟨gb103, _, none⟩) NB101_103.out _).trans (((cell_far (p := ⟨gb103, _, none⟩) NB101_103.out _).trans (((cell_far (p := ⟨gb103, _, none⟩) NB101_103.out _).trans (((cell_far (p := ⟨gb103, _, none⟩) NB101_103.out _).trans (((cell_far (p := ⟨gb103, _, none⟩) NB101_103.out _).trans (hHeld.2.1)))))))))))))))))), ((cell_far (p := ⟨gb103, _, none⟩) NB101_103.out _).trans (((cell_far (p := ⟨gb103, _, none⟩) NB101_103.out _).trans (((cell_far (p := ⟨gb103, _, none⟩) NB101_103.out _).trans (((cell_far (p := ⟨gb103, _, none⟩) NB101_103.out _).trans (((cell_far (p := ⟨gb103, _, none⟩) NB101_103.out _).trans (((cell_far (p := ⟨gb103, _, none⟩) NB101_103.out _).trans (((cell_far (p := ⟨gb103, _, none⟩) NB101_103.out _).trans (((cell_far (p := ⟨gb103, _, none⟩) NB101_103.out _).trans (((cell_far (p := ⟨gb103, _, none⟩) NB101_103.out _).trans (hHeld.2.2.1)))))))))))))))))), ((cell_far (p := ⟨gb103, _, none⟩) NB101_103.out _).trans (((cell_far (p := ⟨gb103, _, none⟩) NB101_103.out _).trans (((cell_far (p := ⟨gb103, _, none⟩) NB101_103.out _).trans (((cell_far (p := ⟨gb103, _, none⟩) NB101_103.out _).trans (((cell_far (p := ⟨gb103, _, none⟩) NB101_103.out _).trans (((cell_far (p := ⟨gb103, _, none⟩) NB101_103.out _).trans (((cell_far (p := ⟨gb103, _, none⟩) NB101_103.out _).trans (((cell_far (p := ⟨gb103, _, none⟩) NB101_103.out _).trans (((cell_far (p := ⟨gb103, _, none⟩) NB101_103.out _).trans (hHeld.2.2.2.1)))))))))))))))))), ((cell_far (p := ⟨gb103, _, none⟩) NB101_103.out _).trans (((cell_far (p := ⟨gb103, _, none⟩) NB101_103.out _).trans (((cell_far (p := ⟨gb103, _, none⟩) NB101_103.out _).trans (((cell_far (p := ⟨gb103, _, none⟩) NB101_103.out _).trans (((cell_far (p := ⟨gb103, _, none⟩) NB101_103.out _).trans (((cell_far (p := ⟨gb103, _, none⟩) NB101_103.out _).trans (((cell_far (p := ⟨gb103, _, none⟩) NB101_103.out _).trans (((cell_far (p := ⟨gb103, _, none⟩) NB101_103.out _).trans (((cell_far (p := ⟨gb103, _, none⟩) NB101_103.out _).trans (hHeld.2.2.2.2.1)))))))))))))))))), ((cell_far (p := ⟨gb103, _, none⟩) NB101_103.out _).trans (((cell_far (p := ⟨gb103, _, none⟩) NB101_103.out _).trans (((cell_far (p := ⟨gb103, _, none⟩) NB101_103.out _).trans (((cell_far (p := ⟨gb103, _, none⟩) NB101_103.out _).trans (((cell_far (p := ⟨gb103, _, none⟩) NB101_103.out _).trans (((cell_far (p := ⟨gb103, _, none⟩) NB101_103.out _).trans (((cell_far (p := ⟨gb103, _, none⟩) NB101_103.out _).trans (((cell_far (p := ⟨gb103, _, none⟩) NB101_103.out _).trans (((cell_far (p := ⟨gb103, _, none⟩) NB101_103.out _).trans (hHeld.2.2.2.2.2.1)))))))))))))))))), ((cell_far (p := ⟨gb103, _, none⟩) NB101_103.out _).trans (((cell_far (p := ⟨gb103, _, none⟩) NB101_103.out _).trans (((cell_far (p := ⟨gb103, _, none⟩) NB101_103.out _).trans (((cell_far (p := ⟨gb103, _, none⟩) NB101_103.out _).trans (((cell_far (p := ⟨gb103, _, none⟩) NB101_103.out _).trans (((cell_far (p := ⟨gb103, _, none⟩) NB101_103.out _).trans (((cell_far (p := ⟨gb103, _, none⟩) NB101_103.out _).trans (((cell_far (p := ⟨gb103, _, none⟩) NB101_103.out _).trans (((cell_far (p := ⟨gb103, _, none⟩) NB101_103.out _).trans (hHeld.2.2.2.2.2.2.1)))))))))))))))))), ((cell_far (p := ⟨gb103, _, none⟩) NB101_103.out _).trans (((cell_far (p := ⟨gb103, _, none⟩) NB101_103.out _).trans (((cell_far (p := ⟨gb103, _, none⟩) NB101_103.out _).trans (((cell_far (p := ⟨gb103, _, none⟩) NB101_103.out _).trans (((cell_far (p := ⟨gb103, _, none⟩) NB101_103.out _).trans (((cell_far (p := ⟨gb103, _, none⟩) NB101_103.out _).trans (((cell_far (p := ⟨gb103, _, none⟩) NB101_103.out _).trans (((cell_far (p := ⟨gb103, _, none⟩) NB101_103.out _).trans (((cell_far (p := ⟨gb103, _, none⟩) NB101_103.out _).trans (hHeld.2.2.2.2.2.2.2.1)))))))))))))))))), ((cell_far (p := ⟨gb103, _, none⟩) NB101_103.out _).trans (((cell_far (p := ⟨gb103, _, none⟩) NB101_103.out _).trans (((cell_far (p := ⟨gb103, _, none⟩) NB101_103.out _).trans (((cell_far (p := ⟨gb103, _, none⟩) NB101_103.out _).trans (((cell_far (p := ⟨gb103, _, none⟩) NB101_103.out _).trans (((cell_far (p := ⟨gb103, _, none⟩) NB101_103.out _).trans (((cell_far (p := ⟨gb103, _, none⟩) NB101_103.out _).trans (((cell_far (p := ⟨gb103, _, none⟩) NB101_103.out _).trans (((cell_far (p := ⟨gb103, _, none⟩) NB101_103.out _).trans (hHeld.2.2.2.2.2.2.2.2.1)))))))))))))))))), ((cell_far (p := ⟨gb103, _, none⟩) NB101_103.out _).trans (((cell_far (p := ⟨gb103, _, none⟩) NB101_103.out _).trans (((cell_far (p := ⟨gb103, _, none⟩) NB101_103.out _).trans (((cell_far (p := ⟨gb103, _, none⟩) NB101_103.out _).trans (((cell_far (p := ⟨gb103, _, none⟩) NB101_103.out _).trans (((cell_far (p := ⟨gb103, _, none⟩) NB101_103.out _).trans (((cell_far (p := ⟨gb103, _, none⟩) NB101_103.out _).trans (((cell_far (p := ⟨gb103, _, none⟩) NB101_103.out _).trans (((cell_far (p := ⟨gb103, _, none⟩) NB101_103.out _).trans (hHeld.2.2.2.2.2.2.2.2.2.1)))))))))))))))))), ((cell_far (p := ⟨gb103, _, none⟩) NB101_103.out _).trans (((cell_far (p := ⟨gb103, _, none⟩) NB101_103.out _).trans (((cell_far (p := ⟨gb103, _, none⟩) NB101_103.out _).trans (((cell_far (p := ⟨gb103, _, none⟩) NB101_103.out _).trans (((cell_far (p := ⟨gb103, _, none⟩) NB101_103.out _).trans (((cell_far (p := ⟨gb103, _, none⟩) NB101_103.out _).trans (((cell_far (p := ⟨gb103, _, none⟩) NB101_103.out _).trans (((cell_far (p := ⟨gb103, _, none⟩) NB101_103.out _).trans (((cell_far (p := ⟨gb103, _, none⟩) NB101_103.out _).trans (hHeld.2.2.2.2.2.2.2.2.2.2.1)))))))))))))))))), ((cell_far (p := ⟨gb103, _, none⟩) NB101_103.out _).trans (((cell_far (p := ⟨gb103, _, none⟩) NB101_103.out _).trans (((cell_far (p := ⟨gb103, _, none⟩) NB101_103.out _).trans (((cell_far (p := ⟨gb103, _, none⟩) NB101_103.out _).trans (((cell_far (p := ⟨gb103, _, none⟩) NB101_103.out _).trans (((cell_far (p := ⟨gb103, _, none⟩) NB101_103.out _).trans (((cell_far (p := ⟨gb103, _, none⟩) NB101_103.out _).trans (((cell_far (p := ⟨gb103, _, none⟩) NB101_103.out _).trans (((cell_far (p := ⟨gb103, _, none⟩) NB101_103.out _).trans (hHeld.2.2.2.2.2.2.2.2.2.2.2.1)))))))))))))))))), ((cell_far (p := ⟨gb103, _, none⟩) NB101_103.out _).trans (((cell_far (p := ⟨gb103, _, none⟩) NB101_103.out _).trans (((cell_far (p := ⟨gb103, _, none⟩) NB101_103.out _).trans (((cell_far (p := ⟨gb103, _, none⟩) NB101_103.out _).trans (((cell_far (p := ⟨gb103, _, none⟩) NB101_103.out _).trans (((cell_far (p := ⟨gb103, _, none⟩) NB101_103.out _).trans (((cell_far (p := ⟨gb103, _, none⟩) NB101_103.out _).trans (((cell_far (p := ⟨gb103, _, none⟩) NB101_103.out _).trans (((cell_far (p := ⟨gb103, _, none⟩) NB101_103.out _).trans (hHeld.2.2.2.2.2.2.2.2.2.2.2.2.1)))))))))))))))))), ((cell_far (p := ⟨gb103, _, none⟩) NB101_103.out _).trans (((cell_far (p := ⟨gb103, _, none⟩) NB101_103.out _).trans (((cell_far (p := ⟨gb103, _, none⟩) NB101_103.out _).trans (((cell_far (p := ⟨gb103, _, none⟩) NB101_103.out _).trans (((cell_far (p := ⟨gb103, _, none⟩) NB101_103.out _).trans (((cell_far (p := ⟨gb103, _, none⟩) NB101_103.out _).trans (((cell_far (p := ⟨gb103, _, none⟩) NB101_103.out _).trans (((cell_far (p := ⟨gb103, _, none⟩) NB101_103.out _).trans (((cell_far (p := ⟨gb103, _, none⟩) NB101_103.out _).trans (hHeld.2.2.2.2.2.2.2.2.2.2.2.2.2.1)))))))))))))))))), ((cell_far (p := ⟨gb103, _, none⟩) NB101_103.out _).trans (((cell_far (p := ⟨gb103, _, none⟩) NB101_103.out _).trans (((cell_far (p := ⟨gb103, _, none⟩) NB101_103.out _).trans (((cell_far (p := ⟨gb103, _, none⟩) NB101_103.out _).trans (((cell_far (p := ⟨gb103, _, none⟩) NB101_103.out _).trans (((cell_far (p := ⟨gb103, _, none⟩) NB101_103.out _).trans (((cell_far (p := ⟨gb103, _, none⟩) NB101_103.out _).trans (((cell_far (p := ⟨gb103, _, none⟩) NB101_103.out _).trans (((cell_far (p := ⟨gb103, _, none⟩) NB101_103.out _).trans (hHeld.2.2.2.2.2.2.2.2.2.2.2.2.2.2.1)))))))))))))))))), ((cell_far (p := ⟨gb103, _, none⟩) NB102_103.out _).trans (((cell_far (p := ⟨gb103, _, none⟩) NB102_103.out _).trans (((cell_far (p := ⟨gb103, _, none⟩) NB102_103.out _).trans (((cell_far (p := ⟨gb103, _, none⟩) NB102_103.out _).trans (((cell_far (p := ⟨gb103, _, none⟩) NB102_103.out _).trans (((cell_far (p := ⟨gb103, _, none⟩) NB102_103.out _).trans (((cell_far (p := ⟨gb103, _, none⟩) NB102_103.out _).trans (((cell_far (p := ⟨gb103, _, none⟩) NB102_103.out _).trans (((cell_far (p := ⟨gb103, _, none⟩) NB102_103.out _).trans (hHeld.2.2.2.2.2.2.2.2.2.2.2.2.2.2.2.1)))))))))))))))))), ((cell_far (p := ⟨gb103, _, none⟩) NB102_103.out _).trans (((cell_far (p := ⟨gb103, _, none⟩) NB102_103.out _).trans (((cell_far (p := ⟨gb103, _, none⟩) NB102_103.out _).trans (((cell_far (p := ⟨gb103, _, none⟩) NB102_103.out _).trans (((cell_far (p := ⟨gb103, _, none⟩) NB102_103.out _).trans (((cell_far (p := ⟨gb103, _, none⟩) NB102_103.out _).trans (((cell_far (p := ⟨gb103, _, none⟩) NB102_103.out _).trans (((cell_far (p := ⟨gb103, _, none⟩) NB102_103.out _).trans (((cell_far (p := ⟨gb103, _, none⟩) NB102_103.out _).trans (hHeld.2.2.2.2.2.2.2.2.2.2.2.2.2.2.2.2.1)))))))))))))))))), ((cell_far (p := ⟨gb103, _, none⟩) NB102_103.out _).trans (((cell_far (p := ⟨gb103, _, none⟩) NB102_103.out _).trans (((cell_far (p := ⟨gb103, _, none⟩) NB102_103.out _).trans (((cell_far (p := ⟨gb103, _, none⟩) NB102_103.out _).trans (((cell_far (p := ⟨gb103, _, none⟩) NB102_103.out _).trans (((cell_far (p := ⟨gb103, _, none⟩) NB102_103.out _).trans (((cell_far (p := ⟨gb103, _, none⟩) NB102_103.out _).trans (((cell_far (p := ⟨gb103, _, none⟩) NB102_103.out _).trans (((cell_far (p := ⟨gb103, _, none⟩) NB102_103.out _).trans (hHeld.2.2.2.2.2.2.2.2.2.2.2.2.2.2.2.2.2.1)))))))))))))))))), ((cell_far (p := ⟨gb103, _, none⟩) NB102_103.out _).trans (((cell_far (p := ⟨gb103, _, none⟩) NB102_103.out _).trans (((cell_far (p := ⟨gb103, _, none⟩) NB102_103.out _).trans (((cell_far (p := ⟨gb103, _, none⟩) NB102_103.out _).trans (((cell_far (p := ⟨gb103, _, none⟩) NB102_103.out _).trans (((cell_far (p := ⟨gb103, _, none⟩) NB102_103.out _).trans (((cell_far (p := ⟨gb103, _, none⟩) NB102_103.out _).trans (((cell_far (p := ⟨gb103, _, none⟩) NB102_103.out _).trans (((cell_far (p := ⟨gb103, _, none⟩) NB102_103.out _).trans (hHeld.2.2.2.2.2.2.2.2.2.2.2.2.2.2.2.2.2.2.1)))))))))))))))))), ((cell_far (p := ⟨gb103, _, none⟩) NB102_103.out _).trans (((cell_far (p := ⟨gb103, _, none⟩) NB102_103.out _).trans (((cell_far (p := ⟨gb103, _, none⟩) NB102_103.out _).trans (((cell_far (p := ⟨gb103, _, none⟩) NB102_103.out _).trans (((cell_far (p := ⟨gb103, _, none⟩) NB102_103.out _).trans (((cell_far (p := ⟨gb103, _, none⟩) NB102_103.out _).trans (((cell_far (p := ⟨gb103, _, none⟩) NB102_103.out _).trans (((cell_far (p := ⟨gb103, _, none⟩) NB102_103.out _).trans (((cell_far (p := ⟨gb103, _, none⟩) NB102_103.out _).trans (hHeld.2.2.2.2.2.2.2.2.2.2.2.2.2.2.2.2.2.2.2.1)))))))))))))))))), ((cell_far (p := ⟨gb103, _, none⟩) NB102_103.out _).trans (((cell_far (p := ⟨gb103, _, none⟩) NB102_103.out _).trans (((cell_far (p := ⟨gb103, _, none⟩) NB102_103.out _).trans (((cell_far (p := ⟨gb103, _, none⟩) NB102_103.out _).trans (((cell_far (p := ⟨gb103, _, none⟩) NB102_103.out _).trans (((cell_far (p := ⟨gb103, _, none⟩) NB102_103.out _).trans (((cell_far (p := ⟨gb103, _, none⟩) NB102_103.out _).trans (((cell_far (p := ⟨gb103, _, none⟩) NB102_103.out _).trans (((cell_far (p := ⟨gb103, _, none⟩) NB102_103.out _).trans (hHeld.2.2.2.2.2.2.2.2.2.2.2.2.2.2.2.2.2.2.2.2.1)))))))))))))))))), ((cell_far (p := ⟨gb103, _, none⟩) NB102_103.out _).trans (((cell_far (p := ⟨gb103, _, none⟩) NB102_103.out _).trans (((cell_far (p := ⟨gb103, _, none⟩) NB102_103.out _).trans (((cell_far (p := ⟨gb103, _, none⟩) NB102_103.out _).trans (((cell_far (p := ⟨gb103, _, none⟩) NB102_103.out _).trans (((cell_far (p := ⟨gb103, _, none⟩) NB102_103.out _).trans (((cell_far (p := ⟨gb103, _, none⟩) NB102_103.out _).trans (((cell_far (p := ⟨gb103, _, none⟩) NB102_103.out _).trans (((cell_far (p := ⟨gb103, _, none⟩) NB102_103.out _).trans (hHeld.2.2.2.2.2.2.2.2.2.2.2.2.2.2.2.2.2.2.2.2.2.1)))))))))))))))))), ((cell_far (p := ⟨gb103, _, none⟩) NB102_103.out _).trans (((cell_far (p := ⟨gb103, _, none⟩) NB102_103.out _).trans (((cell_far (p := ⟨gb103, _, none⟩) NB102_103.out _).trans (((cell_far (p := ⟨gb103, _, none⟩) NB102_103.out _).trans (((cell_far (p := ⟨gb103, _, none⟩) NB102_103.out _).trans (((cell_far (p := ⟨gb103, _, none⟩) NB102_103.out _).trans (((cell_far (p := ⟨gb103, _, none⟩) NB102_103.out _).trans (((cell_far (p := ⟨gb103, _, none⟩) NB102_103.out _).trans (((cell_far (p := ⟨gb103, _, none⟩) NB102_103.out _).trans (hHeld.2.2.2.2.2.2.2.2.2.2.2.2.2.2.2.2.2.2.2.2.2.2.1)))))))))))))))))), ((cell_far (p := ⟨gb103, _, none⟩) NB102_103.out _).trans (((cell_far (p := ⟨gb103, _, none⟩) NB102_103.out _).trans (((cell_far (p := ⟨gb103, _, none⟩) NB102_103.out _).trans (((cell_far (p := ⟨gb103, _, none⟩) NB102_103.out _).trans (((cell_far (p := ⟨gb103, _, none⟩) NB102_103.out _).trans (((cell_far (p := ⟨gb103, _, none⟩) NB102_103.out _).trans (((cell_far (p := ⟨gb103, _, none⟩) NB102_103.out _).trans (((cell_far (p := ⟨gb103, _, none⟩) NB102_103.out _).trans (((cell_far (p := ⟨gb103, _, none⟩) NB102_103.out _).trans (hHeld.2.2.2.2.2.2.2.2.2.2.2.2.2.2.2.2.2.2.2.2.2.2.2.1)))))))))))))))))), ((cell_far (p := ⟨gb103, _, none⟩) NB102_103.out _).trans (((cell_far (p := ⟨gb103, _, none⟩) NB102_103.out _).trans (((cell_far (p := ⟨gb103, _, none⟩) NB102_103.out _).trans (((cell_far (p := ⟨gb103, _, none⟩) NB102_103.out _).trans (((cell_far (p := ⟨gb103, _, none⟩) NB102_103.out _).trans (((cell_far (p := ⟨gb103, _, none⟩) NB102_103.out _).trans (((cell_far (p := ⟨gb103, _, none⟩) NB102_103.out _).trans (((cell_far (p := ⟨gb103, _, none⟩) NB102_103.out _).trans (((cell_far (p := ⟨gb103, _, none⟩) NB102_103.out _).trans (hHeld.2.2.2.2.2.2.2.2.2.2.2.2.2.2.2.2.2.2.2.2.2.2.2.2.1)))))))))))))))))), ((cell_far (p := ⟨gb103, _, none⟩) NB102_103.out _).trans (((cell_far (p := ⟨gb103, _, none⟩) NB102_103.out _).trans (((cell_far (p := ⟨gb103, _, none⟩) NB102_103.out _).trans (((cell_far (p := ⟨gb103, _, none⟩) NB102_103.out _).trans (((cell_far (p := ⟨gb103, _, none⟩) NB102_103.out _).trans (((cell_far (p := ⟨gb103, _, none⟩) NB102_103.out _).trans (((cell_far (p := ⟨gb103, _, none⟩) NB102_103.out _).trans (((cell_far (p := ⟨gb103, _, none⟩) NB102_103.out _).trans (((cell_far (p := ⟨gb103, _, none⟩) NB102_103.out _).trans (hHeld.2.2.2.2.2.2.2.2.2.2.2.2.2.2.2.2.2.2.2.2.2.2.2.2.2.1)))))))))))))))))), ((cell_far (p := ⟨gb103, _, none⟩) NB102_103.out _).trans (((cell_far (p := ⟨gb103, _, none⟩) NB102_103.out _).trans (((cell_far (p := ⟨gb103, _, none⟩) NB102_103.out _).trans (((cell_far (p := ⟨gb103, _, none⟩) NB102_103.out _).trans (((cell_far (p := ⟨gb103, _, none⟩) NB102_103.out _).trans (((cell_far (p := ⟨gb103, _, none⟩) NB102_103.out _).trans (((cell_far (p := ⟨gb103, _, none⟩) NB102_103.out _).trans (((cell_far (p := ⟨gb103, _, none⟩) NB102_103.out _).trans (((cell_far (p := ⟨gb103, _, none⟩) NB102_103.out _).trans (hHeld.2.2.2.2.2.2.2.2.2.2.2.2.2.2.2.2.2.2.2.2.2.2.2.2.2.2.1)))))))))))))))))), ((cell_far (p := ⟨gb103, _, none⟩) NB102_103.out _).trans (((cell_far (p := ⟨gb103, _, none⟩) NB102_103.out _).trans (((cell_far (p := ⟨gb103, _, none⟩) NB102_103.out _).trans (((cell_far (p := ⟨gb103, _, none⟩) NB102_103.out _).trans (((cell_far (p := ⟨gb103, _, none⟩) NB102_103.out _).trans (((cell_far (p := ⟨gb103, _, none⟩) NB102_103.out _).trans (((cell_far (p := ⟨gb103, _, none⟩) NB102_103.out _).trans (((cell_far (p := ⟨gb103, _, none⟩) NB102_103.out _).trans (((cell_far (p := ⟨gb103, _, none⟩) NB102_103.out _).trans (hHeld.2.2.2.2.2.2.2.2.2.2.2.2.2.2.2.2.2.2.2.2.2.2.2.2.2.2.2.1)))))))))))))))))), ((cell_far (p := ⟨gb103, _, none⟩) NB102_103.out _).trans (((cell_far (p := ⟨gb103, _, none⟩) NB102_103.out _).trans (((cell_far (p := ⟨gb103, _, none⟩) NB102_103.out _).trans (((cell_far (p := ⟨gb103, _, none⟩) NB102_103.out _).trans (((cell_far (p := ⟨gb103, _, none⟩) NB102_103.out _).trans (((cell_far (p := ⟨gb103, _, none⟩) NB102_103.out _).trans (((cell_far (p := ⟨gb103, _, none⟩) NB102_103.out _).trans (((cell_far (p := ⟨gb103, _, none⟩) NB102_103.out _).trans (((cell_far (p := ⟨gb103, _, none⟩) NB102_103.out _).trans (hHeld.2.2.2.2.2.2.2.2.2.2.2.2.2.2.2.2.2.2.2.2.2.2.2.2.2.2.2.2.1)))))))))))))))))), ((cell_far (p := ⟨gb103, _, none⟩) NB102_103.out _).trans (((cell_far (p := ⟨gb103, _, none⟩) NB102_103.out _).trans (((cell_far (p := ⟨gb103, _, none⟩) NB102_103.out _).trans (((cell_far (p := ⟨gb103, _, none⟩) NB102_103.out _).trans (((cell_far (p := ⟨gb103, _, none⟩) NB102_103.out _).trans (((cell_far (p := ⟨gb103, _, none⟩) NB102_103.out _).trans (((cell_far (p := ⟨gb103, _, none⟩) NB102_103.out _).trans (((cell_far (p := ⟨gb103, _, none⟩) NB102_103.out _).trans (((cell_far (p := ⟨gb103, _, none⟩) NB102_103.out _).trans (hHeld.2.2.2.2.2.2.2.2.2.2.2.2.2.2.2.2.2.2.2.2.2.2.2.2.2.2.2.2.2))))))))))))))))))⟩ (fun hHeld => ?_)
               clear hK K
               refine one_ (i := 7) (N := none) #[true, true, true, true, true, true, true, true] rfl rfl (one_of HT_.out (by kernel_rfl)) (by decide) (fun K hK => ?_)
               have hs34 : w24.cell? ⟨gb104, 0, none⟩ = some (.string (⟨#[]⟩ : ByteArray)) := (blk_cell BK104.out 0).trans rfl
               have hfs34 := blk_frozen BK104.out 0; have hns34_0 := NB101_104.out; have hns34_1 := NB102_104.out; have hns34_2 := NB103_104.out
               have hms34_0 := NB104_101.out
               have hms34_1 := NB104_102.out
               have hms34_2 := NB104_103.out
               have hs35 : w24.cell? ⟨gb104, 1, none⟩ = some (.string (⟨#[]⟩ : ByteArray)) := (blk_cell BK104.out 1).trans rfl
               have hfs35 := blk_frozen BK104.out 1; have hns35_0 := NB101_104.out; have hns35_1 := NB102_104.out; have hns35_2 := NB103_104.out
               have hms35_0 := NB104_101.out
               have hms35_1 := NB104_102.out
               have hms35_2 := NB104_103.out
               have hs36 : w24.cell? ⟨gb104, 2, none⟩ = some (.int .i64 0) := (blk_cell BK104.out 2).trans rfl
               have hfs36 := blk_frozen BK104.out 2; have hns36_0 := NB101_104.out; have hns36_1 := NB102_104.out; have hns36_2 := NB103_104.out
               have hms36_0 := NB104_101.out
               have hms36_1 := NB104_102.out
               have hms36_2 := NB104_103.out
               have hs37 : w24.cell? ⟨gb104, 3, none⟩ = some (.int .i64 0) := (blk_cell BK104.out 3).trans rfl
               have hfs37 := blk_frozen BK104.out 3; have hns37_0 := NB101_104.out; have hns37_1 := NB102_104.out; have hns37_2 := NB103_104.out
               have hms37_0 := NB104_101.out
               have hms37_1 := NB104_102.out
               have hms37_2 := NB104_103.out
               have hs38 : w24.cell? ⟨gb104, 4, none⟩ = some (.int .i64 0) := (blk_cell BK104.out 4).trans rfl
               have hfs38 := blk_frozen BK104.out 4; have hns38_0 := NB101_104.out; have hns38_1 := NB102_104.out; have hns38_2 := NB103_104.out
               have hms38_0 := NB104_101.out
               have hms38_1 := NB104_102.out
               have hms38_2 := NB104_103.out
               have hs39 : w24.cell? ⟨gb104, 5, none⟩ = some (.int .i64 0) := (blk_cell BK104.out 5).trans rfl
               have hfs39 := blk_frozen BK104.out 5; have hns39_0 := NB101_104.out; have hns39_1 := NB102_104.out; have hns39_2 := NB103_104.out
               have hms39_0 := NB104_101.out
               have hms39_1 := NB104_102.out
               have hms39_2 := NB104_103.out
               have hs40 : w24.cell? ⟨gb104, 6, none⟩ = some (.string (⟨#[]⟩ : ByteArray)) := (blk_cell BK104.out 6).trans rfl
               have hfs40 := blk_frozen BK104.out 6; have hns40_0 := NB101_104.out; have hns40_1 := NB102_104.out; have hns40_2 := NB103_104.out
               have hms40_0 := NB104_101.out
               have hms40_1 := NB104_102.out
               have hms40_2 := NB104_103.out
               have hs41 : w24.cell? ⟨gb104, 7, none⟩ = some (.slice none 0 0) := (blk_cell BK104.out 7).trans rfl
               have hfs41 := blk_frozen BK104.out 7; have hns41_0 := NB101_104.out; have hns41_1 := NB102_104.out; have hns41_2 := NB103_104.out
               have hms41_0 := NB104_101.out
               have hms41_1 := NB104_102.out
               have hms41_2 := NB104_103.out
               have hs42 : w24.cell? ⟨gb104, 8, none⟩ = some (.string (⟨#[]⟩ : ByteArray)) := (blk_cell BK104.out 8).trans rfl
               have hfs42 := blk_frozen BK104.out 8; have hns42_0 := NB101_104.out; have hns42_1 := NB102_104.out; have hns42_2 := NB103_104.out
               have hms42_0 := NB104_101.out
               have hms42_1 := NB104_102.out
               have hms42_2 := NB104_103.out
               refine skip_ (w1 := ?w1_) ?hw_ ?hn_ ?hr_ ?hk_
               case hn_ => rfl
               case hw_ => rfl
               case hr_ =>
                go_simp
                with_reducible rfl
               refine hK.out _ _ ⟨((cell_far (p := ⟨gb104, _, none⟩) NB101_104.out _).trans (((cell_far (p := ⟨gb104, _, none⟩) NB101_104.out _).trans (((cell_far (p := ⟨gb104, _, none⟩) NB101_104.out _).trans (((cell_far (p := ⟨gb104, _, none⟩) NB101_104.out _).trans (((cell_far (p := ⟨gb104, _, none⟩) NB101_104.out _).trans (((cell_far (p := ⟨gb104, _, none⟩) NB101_104.out _).trans (((cell_far (p := ⟨gb104, _, none⟩) NB101_104.out _).trans (((cell_far (p := ⟨gb104, _, none⟩) NB101_104.out _).trans (((cell_far (p := ⟨gb104, _, none⟩) NB101_104.out _).trans (hHeld.1)))))))))))))))))), ((cell_far (p := ⟨gb104, _, none⟩) NB101_104.out _).trans (((cell_far (p := ⟨gb104, _, none⟩) NB101_104.out _).trans (((cell_far (p := ⟨gb104, _, none⟩) NB101_104.out _).trans (((cell_far (p := ⟨gb104, _, none⟩) NB101_104.out _).trans (((cell_far (p := ⟨gb104, _, none⟩) NB101_104.out _).trans (((cell_far (p := ⟨gb104, _, none⟩) NB101_104.out _).trans (((cell_far (p := ⟨gb104, _, none⟩) NB101_104.out _).trans (((cell_far (p := ⟨gb104, _, none⟩) NB101_104.out _).trans (((cell_far (p := ⟨gb104, _, none⟩) NB101_104.out _).trans (hHeld.2.1)))))))))))))))))), ((cell_far (p := ⟨gb104, _, none⟩) NB101_104.out _).trans (((cell_far (p := ⟨gb104, _, none⟩) NB101_104.out _).trans (((cell_far (p := ⟨gb104, _, none⟩) NB101_104.out _).trans (((cell_far (p := ⟨gb104, _, none⟩) NB101_104.out _).trans (((cell_far (p := ⟨gb104, _, none⟩) NB101_104.out _).trans (((cell_far (p := ⟨gb104, _, none⟩) NB101_104.out _).trans (((cell_far (p := ⟨gb104, _, none⟩) NB101_104.out _).trans (((cell_far (p := ⟨gb104, _, none⟩) NB101_104.out _).trans (((cell_far (p := ⟨gb104, _, none⟩) NB101_104.out _).trans (hHeld.2.2.1)))))))))))))))))), ((cell_far (p := ⟨gb104, _, none⟩) NB101_104.out _).trans (((cell_far (p := ⟨gb104, _, none⟩) NB101_104.out _).trans (((cell_far (p := ⟨gb104, _, none⟩) NB101_104.out _).trans (((cell_far (p := ⟨gb104, _, none⟩) NB101_104.out _).trans (((cell_far (p := ⟨gb104, _, none⟩) NB101_104.out _).trans (((cell_far (p := ⟨gb104, _, none⟩) NB101_104.out _).trans (((cell_far (p := ⟨gb104, _, none⟩) NB101_104.out _).trans (((cell_far (p := ⟨gb104, _, none⟩) NB101_104.out _).trans (((cell_far (p := ⟨gb104, _, none⟩) NB101_104.out _).trans (hHeld.2.2.2.1)))))))))))))))))), ((cell_far (p := ⟨gb104, _, none⟩) NB101_104.out _).trans (((cell_far (p := ⟨gb104, _, none⟩) NB101_104.out _).trans (((cell_far (p := ⟨gb104, _, none⟩) NB101_104.out _).trans (((cell_far (p := ⟨gb104, _, none⟩) NB101_104.out _).trans (((cell_far (p := ⟨gb104, _, none⟩) NB101_104.out _).trans (((cell_far (p := ⟨gb104, _, none⟩) NB101_104.out _).trans (((cell_far (p := ⟨gb104, _, none⟩) NB101_104.out _).trans (((cell_far (p := ⟨gb104, _, none⟩) NB101_104.out _).trans (((cell_far (p := ⟨gb104, _, none⟩) NB101_104.out _).trans (hHeld.2.2.2.2.1)))))))))))))))))), ((cell_far (p := ⟨gb104, _, none⟩) NB101_104.out _).trans (((cell_far (p := ⟨gb104, _, none⟩) NB101_104.out _).trans (((cell_far (p := ⟨gb104, _, none⟩) NB101_104.out _).trans (((cell_far (p := ⟨gb104, _, none⟩) NB101_104.out _).trans (((cell_far (p := ⟨gb104, _, none⟩) NB101_104.out _).trans (((cell_far (p := ⟨gb104, _, none⟩) NB101_104.out _).trans (((cell_far (p := ⟨gb104, _, none⟩) NB101_104.out _).trans (((cell_far (p := ⟨gb104, _, none⟩) NB101_104.out _).trans (((cell_far (p := ⟨gb104, _, none⟩) NB101_104.out _).trans (hHeld.2.2.2.2.2.1)))))))))))))))))), ((cell_far (p := ⟨gb104, _, none⟩) NB101_104.out _).trans (((cell_far (p := ⟨gb104, _, none⟩) NB101_104.out _).trans (((cell_far (p := ⟨gb104, _, none⟩) NB101_104.out _).trans (((cell_far (p := ⟨gb104, _, none⟩) NB101_104.out _).trans (((cell_far (p := ⟨gb104, _, none⟩) NB101_104.out _).trans (((cell_far (p := ⟨gb104, _, none⟩) NB101_104.out _).trans (((cell_far (p := ⟨gb104, _, none⟩) NB101_104.out _).trans (((cell_far (p := ⟨gb104, _, none⟩) NB101_104.out _).trans (((cell_far (p := ⟨gb104, _, none⟩) NB101_104.out _).trans (hHeld.2.2.2.2.2.2.1)))))))))))))))))), ((cell_far (p := ⟨gb104, _, none⟩) NB101_104.out _).trans (((cell_far (p := ⟨gb104, _, none⟩) NB101_104.out _).trans (((cell_far (p := ⟨gb104, _, none⟩) NB101_104.out _).trans (((cell_far (p := ⟨gb104, _, none⟩) NB101_104.out _).trans (((cell_far (p := ⟨gb104, _, none⟩) NB101_104.out _).trans (((cell_far (p := ⟨gb104, _, none⟩) NB101_104.out _).trans (((cell_far (p := ⟨gb104, _, none⟩) NB101_104.out _).trans (((cell_far (p := ⟨gb104, _, none⟩) NB101_104.out _).trans (((cell_far (p := ⟨gb104, _, none⟩) NB101_104.out _).trans (hHeld.2.2.2.2.2.2.2.1)))))))))))))))))), ((cell_far (p := ⟨gb104, _, none⟩) NB101_104.out _).trans (((cell_far (p := ⟨gb104, _, none⟩) NB101_104.out _).trans (((cell_far (p := ⟨gb104, _, none⟩) NB101_104.out _).trans (((cell_far (p := ⟨gb104, _, none⟩) NB101_104.out _).trans (((cell_far (p := ⟨gb104, _, none⟩) NB101_104.out _).trans (((cell_far (p := ⟨gb104, _, none⟩) NB101_104.out _).trans (((cell_far (p := ⟨gb104, _, none⟩) NB101_104.out _).trans (((cell_far (p := ⟨gb104, _, none⟩) NB101_104.out _).trans (((cell_far (p := ⟨gb104, _, none⟩) NB101_104.out _).trans (hHeld.2.2.2.2.2.2.2.2.1)))))))))))))))))), ((cell_far (p := ⟨gb104, _, none⟩) NB101_104.out _).trans (((cell_far (p := ⟨gb104, _, none⟩) NB101_104.out _).trans (((cell_far (p := ⟨gb104, _, none⟩) NB101_104.out _).trans (((cell_far (p := ⟨gb104, _, none⟩) NB101_104.out _).trans (((cell_far (p := ⟨gb104, _, none⟩) NB101_104.out _).trans (((cell_far (p := ⟨gb104, _, none⟩) NB101_104.out _).trans (((cell_far (p := ⟨gb104, _, none⟩) NB101_104.out _).trans (((cell_far (p := ⟨gb104, _, none⟩) NB101_104.out _).trans (((cell_far (p := ⟨gb104, _, none⟩) NB101_104.out _).trans (hHeld.2.2.2.2.2.2.2.2.2.1)))))))))))))))))), ((cell_far (p := ⟨gb104, _, none⟩) NB101_104.out _).trans (((cell_far (p := ⟨gb104, _, none⟩) NB101_104.out _).trans (((cell_far (p := ⟨gb104, _, none⟩) NB101_104.out _).trans (((cell_far (p := ⟨gb104, _, none⟩) NB101_104.out _).trans (((cell_far (p := ⟨gb104, _, none⟩) NB101_104.out _).trans (((cell_far (p := ⟨gb104, _, none⟩) NB101_104.out _).trans (((cell_far (p := ⟨gb104, _, none⟩) NB101_104.out _).trans (((cell_far (p := ⟨gb104, _, none⟩) NB101_104.out _).trans (((cell_far (p := ⟨gb104, _, none⟩) NB101_104.out _).trans (hHeld.2.2.2.2.2.2.2.2.2.2.1)))))))))))))))))), ((cell_far (p := ⟨gb104, _, none⟩) NB101_104.out _).trans (((cell_far (p := ⟨gb104, _, none⟩) NB101_104.out _).trans (((cell_far (p := ⟨gb104, _, none⟩) NB101_104.out _).trans (((cell_far (p := ⟨gb104, _, none⟩) NB101_104.out _).trans (((cell_far (p := ⟨gb104, _, none⟩) NB101_104.out _).trans (((cell_far (p := ⟨gb104, _, none⟩) NB101_104.out _).trans (((cell_far (p := ⟨gb104, _, none⟩) NB101_104.out _).trans (((cell_far (p := ⟨gb104, _, none⟩) NB101_104.out _).trans (((cell_far (p := ⟨gb104, _, none⟩) NB101_104.out _).trans (hHeld.2.2.2.2.2.2.2.2.2.2.2.1)))))))))))))))))), ((cell_far (p := ⟨gb104, _, none⟩) NB101_104.out _).trans (((cell_far (p := ⟨gb104, _, none⟩) NB101_104.out _).trans (((cell_far (p := ⟨gb104, _, none⟩) NB101_104.out _).trans (((cell_far (p := ⟨gb104, _, none⟩) NB101_104.out _).trans (((cell_far (p := ⟨gb104, _, none⟩) NB101_104.out _).trans (((cell_far (p := ⟨gb104, _, none⟩) NB101_104.out _).trans (((cell_far (p := ⟨gb104, _, none⟩) NB101_104.out _).trans (((cell_far (p := ⟨gb104, _, none⟩) NB101_104.out _).trans (((cell_far (p := ⟨gb104, _, none⟩) NB101_104.out _).trans (hHeld.2.2.2.2.2.2.2.2.2.2.2.2.1)))))))))))))))))), ((cell_far (p := ⟨gb104, _, none⟩) NB101_104.out _).trans (((cell_far (p := ⟨gb104, _, none⟩) NB101_104.out _).trans (((cell_far (p := ⟨gb104, _, none⟩) NB101_104.out _).trans (((cell_far (p := ⟨gb104, _, none⟩) NB101_104.out _).trans (((cell_far (p := ⟨gb104, _, none⟩) NB101_104.out _).trans (((cell_far (p := ⟨gb104, _, none⟩) NB101_104.out _).trans (((cell_far (p := ⟨gb104, _, none⟩) NB101_104.out _).trans (((cell_far (p := ⟨gb104, _, none⟩) NB101_104.out _).trans (((cell_far (p := ⟨gb104, _, none⟩) NB101_104.out _).trans (hHeld.2.2.2.2.2.2.2.2.2.2.2.2.2.1)))))))))))))))))), ((cell_far (p := ⟨gb104, _, none⟩) NB101_104.out _).trans (((cell_far (p := ⟨gb104, _, none⟩) NB101_104.out _).trans (((cell_far (p := ⟨gb104, _, none⟩) NB101_104.out _).trans (((cell_far (p := ⟨gb104, _, none⟩) NB101_104.out _).trans (((cell_far (p := ⟨gb104, _, none⟩) NB101_104.out _).trans (((cell_far (p := ⟨gb104, _, none⟩) NB101_104.out _).trans (((cell_far (p := ⟨gb104, _, none⟩) NB101_104.out _).trans (((cell_far (p := ⟨gb104, _, none⟩) NB101_104.out _).trans (((cell_far (p := ⟨gb104, _, none⟩) NB101_104.out _).trans (hHeld.2.2.2.2.2.2.2.2.2.2.2.2.2.2.1)))))))))))))))))), ((cell_far (p := ⟨gb104, _, none⟩) NB102_104.out _).trans (((cell_far (p := ⟨gb104, _, none⟩) NB102_104.out _).trans (((cell_far (p := ⟨gb104, _, none⟩) NB102_104.out _).trans (((cell_far (p := ⟨gb104, _, none⟩) NB102_104.out _).trans (((cell_far (p := ⟨gb104, _, none⟩) NB102_104.out _).trans (((cell_far (p := ⟨gb104, _, none⟩) NB102_104.out _).trans (((cell_far (p := ⟨gb104, _, none⟩) NB102_104.out _).trans (((cell_far (p := ⟨gb104, _, none⟩) NB102_104.out _).trans (((cell_far (p := ⟨gb104, _, none⟩) NB102_104.out _).trans (hHeld.2.2.2.2.2.2.2.2.2.2.2.2.2.2.2.1)))))))))))))))))), ((cell_far (p := ⟨gb104, _, none⟩) NB102_104.out _).trans (((cell_far (p := ⟨gb104, _, none⟩) NB102_104.out _).trans (((cell_far (p := ⟨gb104, _, none⟩) NB102_104.out _).trans (((cell_far (p := ⟨gb104, _, none⟩) NB102_104.out _).trans (((cell_far (p := ⟨gb104, _, none⟩) NB102_104.out _).trans (((cell_far (p := ⟨gb104, _, none⟩) NB102_104.out _).trans (((cell_far (p := ⟨gb104, _, none⟩) NB102_104.out _).trans (((cell_far (p := ⟨gb104, _, none⟩) NB102_104.out _).trans (((cell_far (p := ⟨gb104, _, none⟩) NB102_104.out _).trans (hHeld.2.2.2.2.2.2.2.2.2.2.2.2.2.2.2.2.1)))))))))))))))))), ((cell_far (p := ⟨gb104, _, none⟩) NB102_104.out _).trans (((cell_far (p := ⟨gb104, _, none⟩) NB102_104.out _).trans (((cell_far (p := ⟨gb104, _, none⟩) NB102_104.out _).trans (((cell_far (p := ⟨gb104, _, none⟩) NB102_104.out _).trans (((cell_far (p := ⟨gb104, _, none⟩) NB102_104.out _).trans (((cell_far (p := ⟨gb104, _, none⟩) NB102_104.out _).trans (((cell_far (p := ⟨gb104, _, none⟩) NB102_104.out _).trans (((cell_far (p := ⟨gb104, _, none⟩) NB102_104.out _).trans (((cell_far (p := ⟨gb104, _, none⟩) NB102_104.out _).trans (hHeld.2.2.2.2.2.2.2.2.2.2.2.2.2.2.2.2.2.1)))))))))))))))))), ((cell_far (p := ⟨gb104, _, none⟩) NB102_104.out _).trans (((cell_far (p := ⟨gb104, _, none⟩) NB102_104.out _).trans (((cell_far (p := ⟨gb104, _, none⟩) NB102_104.out _).trans (((cell_far (p := ⟨gb104, _, none⟩) NB102_104.out _).trans (((cell_far (p := ⟨gb104, _, none⟩) NB102_104.out _).trans (((cell_far (p := ⟨gb104, _, none⟩) NB102_104.out _).trans (((cell_far (p := ⟨gb104, _, none⟩) NB102_104.out _).trans (((cell_far (p := ⟨gb104, _, none⟩) NB102_104.out _).trans (((cell_far (p := ⟨gb104, _, none⟩) NB102_104.out _).trans (hHeld.2.2.2.2.2.2.2.2.2.2.2.2.2.2.2.2.2.2.1)))))))))))))))))), ((cell_far (p := ⟨gb104, _, none⟩) NB102_104.out _).trans (((cell_far (p := ⟨gb104, _, none⟩) NB102_104.out _).trans (((cell_far (p := ⟨gb104, _, none⟩) NB102_104.out _).trans (((cell_far (p := ⟨gb104, _, none⟩) NB102_104.out _).trans (((cell_far (p := ⟨gb104, _, none⟩) NB102_104.out _).trans (((cell_far (p := ⟨gb104, _, none⟩) NB102_104.out _).trans (((cell_far (p := ⟨gb104, _, none⟩) NB102_104.out _).trans (((cell_far (p := ⟨gb104, _, none⟩) NB102_104.out _).trans (((cell_far (p := ⟨gb104, _, none⟩) NB102_104.out _).trans (hHeld.2.2.2.2.2.2.2.2.2.2.2.2.2.2.2.2.2.2.2.1)))))))))))))))))), ((cell_far (p := ⟨gb104, _, none⟩) NB102_104.out _).trans (((cell_far (p := ⟨gb104, _, none⟩) NB102_104.out _).trans (((cell_far (p := ⟨gb104, _, none⟩) NB102_104.out _).trans (((cell_far (p := ⟨gb104, _, none⟩) NB102_104.out _).trans (((cell_far (p := ⟨gb104, _, none⟩) NB102_104.out _).trans (((cell_far (p := ⟨gb104, _, none⟩) NB102_104.out _).trans (((cell_far (p := ⟨gb104, _, none⟩) NB102_104.out _).trans (((cell_far (p := ⟨gb104, _, none⟩) NB102_104.out _).trans (((cell_far (p := ⟨gb104, _, none⟩) NB102_104.out _).trans (hHeld.2.2.2.2.2.2.2.2.2.2.2.2.2.2.2.2.2.2.2.2.1)))))))))))))))))), ((cell_far (p := ⟨gb104, _, none⟩) NB102_104.out _).trans (((cell_far (p := ⟨gb104, _, none⟩) NB102_104.out _).trans (((cell_far (p := ⟨gb104, _, none⟩) NB102_104.out _).trans (((cell_far (p := ⟨gb104, _, none⟩) NB102_104.out _).trans (((cell_far (p := ⟨gb104, _, none⟩) NB102_104.out _).trans (((cell_far (p := ⟨gb104, _, none⟩) NB102_104.out _).trans (((cell_far (p := ⟨gb104, _, none⟩) NB102_104.out _).trans (((cell_far (p := ⟨gb104, _, none⟩) NB102_104.out _).trans (((cell_far (p := ⟨gb104, _, none⟩) NB102_104.out _).trans (hHeld.2.2.2.2.2.2.2.2.2.2.2.2.2.2.2.2.2.2.2.2.2.1)))))))))))))))))), ((cell_far (p := ⟨gb104, _, none⟩) NB102_104.out _).trans (((cell_far (p := ⟨gb104, _, none⟩) NB102_104.out _).trans (((cell_far (p := ⟨gb104, _, none⟩) NB102_104.out _).trans (((cell_far (p := ⟨gb104, _, none⟩) NB102_104.out _).trans (((cell_far (p := ⟨gb104, _, none⟩) NB102_104.out _).trans (((cell_far (p := ⟨gb104, _, none⟩) NB102_104.out _).trans (((cell_far (p := ⟨gb104, _, none⟩) NB102_104.out _).trans (((cell_far (p := ⟨gb104, _, none⟩) NB102_104.out _).trans (((cell_far (p := ⟨gb104, _, none⟩) NB102_104.out _).trans (hHeld.2.2.2.2.2.2.2.2.2.2.2.2.2.2.2.2.2.2.2.2.2.2.1)))))))))))))))))), ((cell_far (p := ⟨gb104, _, none⟩) NB102_104.out _).trans (((cell_far (p := ⟨gb104, _, none⟩) NB102_104.out _).trans (((cell_far (p := ⟨gb104, _, none⟩) NB102_104.out _).trans (((cell_far (p := ⟨gb104, _, none⟩) NB102_104.out _).trans (((cell_far (p := ⟨gb104, _, none⟩) NB102_104.out _).trans (((cell_far (p := ⟨gb104, _, none⟩) NB102_104.out _).trans (((cell_far (p := ⟨gb104, _, none⟩) NB102_104.out _).trans (((cell_far (p := ⟨gb104, _, none⟩) NB102_104.out _).trans (((cell_far (p := ⟨gb104, _, none⟩) NB102_104.out _).trans (hHeld.2.2.2.2.2.2.2.2.2.2.2.2.2.2.2.2.2.2.2.2.2.2.2.1)))))))))))))))))), ((cell_far (p := ⟨gb104, _, none⟩) NB102_104.out _).trans (((cell_far (p := ⟨gb104, _, none⟩) NB102_104.out _).trans (((cell_far (p := ⟨gb104, _, none⟩) NB102_104.out _).trans (((cell_far (p := ⟨gb104, _, none⟩) NB102_104.out _).trans (((cell_far (p := ⟨gb104, _, none⟩) NB102_104.out _).trans (((cell_far (p := ⟨gb104, _, none⟩) NB102_104.out _).trans (((cell_far (p := ⟨gb104, _, none⟩) NB102_104.out _).trans (((cell_far (p := ⟨gb104, _, none⟩) NB102_104.out _).trans (((cell_far (p := ⟨gb104, _, none⟩) NB102_104.out _).trans (hHeld.2.2.2.2.2.2.2.2.2.2.2.2.2.2.2.2.2.2.2.2.2.2.2.2.1)))))))))))))))))), ((cell_far (p := ⟨gb104, _, none⟩) NB102_104.out _).trans (((cell_far (p := ⟨gb104, _, none⟩) NB102_104.out _).trans (((cell_far (p := ⟨gb104, _, none⟩) NB102_104.out _).trans (((cell_far (p := ⟨gb104, _, none⟩) NB102_104.out _).trans (((cell_far (p := ⟨gb104, _, none⟩) NB102_104.out _).trans (((cell_far (p := ⟨gb104, _, none⟩) NB102_104.out _).trans (((cell_far (p := ⟨gb104, _, none⟩) NB102_104.out _).trans (((cell_far (p := ⟨gb104, _, none⟩) NB102_104.out _).trans (((cell_far (p := ⟨gb104, _, none⟩) NB102_104.out _).trans (hHeld.2.2.2.2.2.2.2.2.2.2.2.2.2.2.2.2.2.2.2.2.2.2.2.2.2.1)))))))))))))))))), ((cell_far (p := ⟨gb104, _, none⟩) NB102_104.out _).trans (((cell_far (p := ⟨gb104, _, none⟩) NB102_104.out _).trans (((cell_far (p := ⟨gb104, _, none⟩) NB102_104.out _).trans (((cell_far (p := ⟨gb104, _, none⟩) NB102_104.out _).trans (((cell_far (p := ⟨gb104, _, none⟩) NB102_104.out _).trans (((cell_far (p := ⟨gb104, _, none⟩) NB102_104.out _).trans (((cell_far (p := ⟨gb104, _, none⟩) NB102_104.out _).trans (((cell_far (p := ⟨gb104, _, none⟩) NB102_104.out _).trans (((cell_far (p := ⟨gb104, _, none⟩) NB102_104.out _).trans (hHeld.2.2.2.2.2.2.2.2.2.2.2.2.2.2.2.2.2.2.2.2.2.2.2.2.2.2.1)))))))))))))))))), ((cell_far (p := ⟨gb104, _, none⟩) NB102_104.out _).trans (((cell_far (p := ⟨gb104, _, none⟩) NB102_104.out _).trans (((cell_far (p := ⟨gb104, _, none⟩) NB102_104.out _).trans (((cell_far (p := ⟨gb104, _, none⟩) NB102_104.out _).trans (((cell_far (p := ⟨gb104, _, none⟩) NB102_104.out _).trans (((cell_far (p := ⟨gb104, _, none⟩) NB102_104.out _).trans (((cell_far (p := ⟨gb104, _, none⟩) NB102_104.out _).trans (((cell_far (p := ⟨gb104, _, none⟩) NB102_104.out _).trans (((cell_far (p := ⟨gb104, _, none⟩) NB102_104.out _).trans (hHeld.2.2.2.2.2.2.2.2.2.2.2.2.2.2.2.2.2.2.2.2.2.2.2.2.2.2.2.1)))))))))))))))))), ((cell_far (p := ⟨gb104, _, none⟩) NB102_104.out _).trans (((cell_far (p := ⟨gb104, _, none⟩) NB102_104.out _).trans (((cell_far (p := ⟨gb104, _, none⟩) NB102_104.out _).trans (((cell_far (p := ⟨gb104, _, none⟩) NB102_104.out _).trans (((cell_far (p := ⟨gb104, _, none⟩) NB102_104.out _).trans (((cell_far (p := ⟨gb104, _, none⟩) NB102_104.out _).trans (((cell_far (p := ⟨gb104, _, none⟩) NB102_104.out _).trans (((cell_far (p := ⟨gb104, _, none⟩) NB102_104.out _).trans (((cell_far (p := ⟨gb104, _, none⟩) NB102_104.out _).trans (hHeld.2.2.2.2.2.2.2.2.2.2.2.2.2.2.2.2.2.2.2.2.2.2.2.2.2.2.2.2.1)))))))))))))))))), ((cell_far (p := ⟨gb104, _, none⟩) NB102_104.out _).trans (((cell_far (p := ⟨gb104, _, none⟩) NB102_104.out _).trans (((cell_far (p := ⟨gb104, _, none⟩) NB102_104.out _).trans (((cell_far (p := ⟨gb104, _, none⟩) NB102_104.out _).trans (((cell_far (p := ⟨gb104, _, none⟩) NB102_104.out _).trans (((cell_far (p := ⟨gb104, _, none⟩) NB102_104.out _).trans (((cell_far (p := ⟨gb104, _, none⟩) NB102_104.out _).trans (((cell_far (p := ⟨gb104, _, none⟩) NB102_104.out _).trans (((cell_far (p := ⟨gb104, _, none⟩) NB102_104.out _).trans (hHeld.2.2.2.2.2.2.2.2.2.2.2.2.2.2.2.2.2.2.2.2.2.2.2.2.2.2.2.2.2))))))))))))))))))⟩ (fun hHeld => ?_)
               clear hK K
               refine done_ (done_of HT_.out (by kernel_rfl)) ?_
               have hnb43 := NB103_101.out; have hnc43 := NB101_103.out; have hnb44 := NB103_102.out; have hnc44 := NB102_103.out; have hnb45 := NB103_104.out; have hnc45 := NB104_103.out; obtain ⟨hcz46_0, hcz46_1, hcz46_2, hcz46_3, hcz46_4, hcz46_5, hcz46_6, hcz46_7, hcz46_8⟩ := blkc9_ BK103.out; obtain ⟨hfz46_0, hfz46_1, hfz46_2, hfz46_3, hfz46_4, hfz46_5, hfz46_6, hfz46_7, hfz46_8⟩ := blkf9_ BK103.out; have hnb47 := NB104_101.out; have hnc47 := NB101_104.out; have hnb48 := NB104_102.out; have hnc48 := NB102_104.out; obtain ⟨hcz49_0, hcz49_1, hcz49_2, hcz49_3, hcz49_4, hcz49_5, hcz49_6, hcz49_7, hcz49_8⟩ := blkc9_ BK104.out; obtain ⟨hfz49_0, hfz49_1, hfz49_2, hfz49_3, hfz49_4, hfz49_5, hfz49_6, hfz49_7, hfz49_8⟩ := blkf9_ BK104.out
               try go_wp2_with (first | (go_at_call 14; (fail_if_success (have z_ := U_1)); have U_1 := trivial; (with_reducible refine (pursuivantref09_Same.calls k _ _ l0_9 _ _ l1_9 true _ ?gw1_ ?side1 ?side2 ?side3 ?side4 A11.out).mono ?_); (case gw1_ => first | (with_reducible exact hG_) | ((with_reducible refine GW.below hG_ ?_); (repeat (first | (with_reducible exact HB.out) | (with_reducible apply below_alloc) | (with_reducible apply pw_below_drewN) | (with_reducible apply below_drew1) | (with_reducible apply below_drew) | (with_reducible exact Below.refl _ _) | (with_reducible refine below_set ?_ GE101.out) | (with_reducible refine below_set ?_ GE102.out) | (with_reducible refine below_set ?_ GE103.out) | (with_reducible refine below_set ?_ GE104.out))); done) | exact hG_ | (refine GW.below hG_ ?_; first | (with_reducible exact HB.out) | (repeat (first | (with_reducible first | exact HB.out | apply below_alloc | apply pw_below_drewN | apply below_drew1 | apply below_drew | exact Below.refl _ _) | exact HB.out))) | (apply GW.drewN; exact hG_) | (apply GW.drew; exact hG_)); (case side1 => exact Kd.C_below HR0_9.out z6_); (case side2 => exact HC0_9.out); (case side3 => exact Kd.C_below HR1_9.out z6_); (case side4 => exact HC1_9.out); rintro e w' ⟨rfl, ⟨nd, rfl⟩⟩; have hnb50 := NB101_102.out; have hnc50 := NB102_101.out; have hcz51_0 : w24.cell? ⟨gb101, 0, none⟩ = some (.int .i64 a0_0) := (blk_cell BK101.out 0).trans rfl; have hcz51_1 : w24.cell? ⟨gb101, 1, none⟩ = some (.int .i64 a0_1) := (blk_cell BK101.out 1).trans rfl; have hcz51_2 : w24.cell? ⟨gb101, 2, none⟩ = some (.string a0_2) := (blk_cell BK101.out 2).trans rfl; have hcz51_3 : w24.cell? ⟨gb101, 3, none⟩ = some (.string a0_3) := (blk_cell BK101.out 3).trans rfl; have hcz51_4 : w24.cell? ⟨gb101, 4, none⟩ = some (.int .i64 a0_4) := (blk_cell BK101.out 4).trans rfl; have hcz51_5 : w24.cell? ⟨gb101, 5, none⟩ = some (.int .i64 a0_5) := (blk_cell BK101.out 5).trans rfl; have hcz51_6 : w24.cell? ⟨gb101, 6, none⟩ = some (.int .i64 a0_6) := (blk_cell BK101.out 6).trans rfl; have hcz51_7 : w24.cell? ⟨gb101, 7, none⟩ = some (.int .i64 a0_7) := (blk_cell BK101.out 7).trans rfl; have hcz51_8 : w24.cell? ⟨gb101, 8, none⟩ = some (.string a0_8) := (blk_cell BK101.out 8).trans rfl; have hcz51_9 : w24.cell? ⟨gb101, 9, none⟩ = some (.slice A0_9 l0_9.length c0_9) := (blk_cell BK101.out 9).trans rfl; have hcz51_10 : w24.cell? ⟨gb101, 10, none⟩ = some (.string a0_10) := (blk_cell BK101.out 10).trans rfl; have hcz51_11 : w24.cell? ⟨gb101, 11, none⟩ = some (.int .i64 a0_11) := (blk_cell BK101.out 11).trans rfl; have hcz51_12 : w24.cell? ⟨gb101, 12, none⟩ = some (.slice A0_12 l0_12.length c0_12) := (blk_cell BK101.out 12).trans rfl; have hcz51_13 : w24.cell? ⟨gb101, 13, none⟩ = some (.string a0_13) := (blk_cell BK101.out 13).trans rfl; have hcz51_14 : w24.cell? ⟨gb101, 14, none⟩ = some (.int .u64 a0_14) := (blk_cell BK101.out 14).trans rfl; have hfz51_0 := blk_frozen BK101.out 0; have hfz51_1 := blk_frozen BK101.out 1; have hfz51_2 := blk_frozen BK101.out 2; have hfz51_3 := blk_frozen BK101.out 3; have hfz51_4 := blk_frozen BK101.out 4; have hfz51_5 := blk_frozen BK101.out 5; have hfz51_6 := blk_frozen BK101.out 6; have hfz51_7 := blk_frozen BK101.out 7; have hfz51_8 := blk_frozen BK101.out 8; have hfz51_9 := blk_frozen BK101.out 9; have hfz51_10 := blk_frozen BK101.out 10; have hfz51_11 := blk_frozen BK101.out 11; have hfz51_12 := blk_frozen BK101.out 12; have hfz51_13 := blk_frozen BK101.out 13; have hfz51_14 := blk_frozen BK101.out 14; have hcz52_0 : w24.cell? ⟨gb102, 0, none⟩ = some (.int .i64 a1_0) := (blk_cell BK102.out 0).trans rfl; have hcz52_1 : w24.cell? ⟨gb102, 1, none⟩ = some (.int .i64 a1_1) := (blk_cell BK102.out 1).trans rfl; have hcz52_2 : w24.cell? ⟨gb102, 2, none⟩ = some (.string a1_2) := (blk_cell BK102.out 2).trans rfl; have hcz52_3 : w24.cell? ⟨gb102, 3, none⟩ = some (.string a1_3) := (blk_cell BK102.out 3).trans rfl; have hcz52_4 : w24.cell? ⟨gb102, 4, none⟩ = some (.int .i64 a1_4) := (blk_cell BK102.out 4).trans rfl; have hcz52_5 : w24.cell? ⟨gb102, 5, none⟩ = some (.int .i64 a1_5) := (blk_cell BK102.out 5).trans rfl; have hcz52_6 : w24.cell? ⟨gb102, 6, none⟩ = some (.int .i64 a1_6) := (blk_cell BK102.out 6).trans rfl; have hcz52_7 : w24.cell? ⟨gb102, 7, none⟩ = some (.int .i64 a1_7) := (blk_cell BK102.out 7).trans rfl; have hcz52_8 : w24.cell? ⟨gb102, 8, none⟩ = some (.string a1_8) := (blk_cell BK102.out 8).trans rfl; have hcz52_9 : w24.cell? ⟨gb102, 9, none⟩ = some (.slice A1_9 l1_9.length c1_9) := (blk_cell BK102.out 9).trans rfl; have hcz52_10 : w24.cell? ⟨gb102, 10, none⟩ = some (.string a1_10) := (blk_cell BK102.out 10).trans rfl; have hcz52_11 : w24.cell? ⟨gb102, 11, none⟩ = some (.int .i64 a1_11) := (blk_cell BK102.out 11).trans rfl; have hcz52_12 : w24.cell? ⟨gb102, 12, none⟩ = some (.slice A1_12 l1_12.length c1_12) := (blk_cell BK102.out 12).trans rfl; have hcz52_13 : w24.cell? ⟨gb102, 13, none⟩ = some (.string a1_13) := (blk_cell BK102.out 13).trans rfl; have hcz52_14 : w24.cell? ⟨gb102, 14, none⟩ = some (.int .u64 a1_14) := (blk_cell BK102.out 14).trans rfl; have hfz52_0 := blk_frozen BK102.out 0; have hfz52_1 := blk_frozen BK102.out 1; have hfz52_2 := blk_frozen BK102.out 2; have hfz52_3 := blk_frozen BK102.out 3; have hfz52_4 := blk_frozen BK102.out 4; have hfz52_5 := blk_frozen BK102.out 5; have hfz52_6 := blk_frozen BK102.out 6; have hfz52_7 := blk_frozen BK102.out 7; have hfz52_8 := blk_frozen BK102.out 8; have hfz52_9 := blk_frozen BK102.out 9; have hfz52_10 := blk_frozen BK102.out 10; have hfz52_11 := blk_frozen BK102.out 11; have hfz52_12 := blk_frozen BK102.out 12; have hfz52_13 := blk_frozen BK102.out 13; have hfz52_14 := blk_frozen BK102.out 14) | (go_at_call 14; (fail_if_success (have z_ := U_2)); have U_2 := trivial; (with_reducible refine (pursuivantref09_Same.calls k _ _ l0_12 _ _ l1_12 t106 _ ?gw2_ ?side1 ?side2 ?side3 ?side4 A18.out).mono ?_); (case gw2_ => first | (with_reducible exact hG_) | ((with_reducible refine GW.below hG_ ?_); (repeat (first | (with_reducible exact HB.out) | (with_reducible apply below_alloc) | (with_reducible apply pw_below_drewN) | (with_reducible apply below_drew1) | (with_reducible apply below_drew) | (with_reducible exact Below.refl _ _) | (with_reducible refine below_set ?_ GE101.out) | (with_reducible refine below_set ?_ GE102.out) | (with_reducible refine below_set ?_ GE103.out) | (with_reducible refine below_set ?_ GE104.out))); done) | exact hG_ | (refine GW.below hG_ ?_; first | (with_reducible exact HB.out) | (repeat (first | (with_reducible first | exact HB.out | apply below_alloc | apply pw_below_drewN | apply below_drew1 | apply below_drew | exact Below.refl _ _) | exact HB.out))) | (apply GW.drewN; exact hG_) | (apply GW.drew; exact hG_)); (case side1 => exact Kd.C_below HR0_12.out z6_); (case side2 => exact HC0_12.out); (case side3 => exact Kd.C_below HR1_12.out z6_); (case side4 => exact HC1_12.out); rintro e w' ⟨rfl, ⟨nd, rfl⟩⟩))
               go_ret
               exact ⟨z25_, z6_⟩
              ·rw [if_neg c17] at H
               have c17b0 : (a0_13.toList == a1_13.toList) = false := beq_eq_false_iff_ne.mpr c17
               have c17b1 : (a0_13.toList != a1_13.toList) = true := bne_iff_ne.mpr c17
               exact absurd ((Option.some.inj H).trans hr_) Bool.false_ne_true
             ·rw [if_neg c16] at H
              have c16b0 : (a0_11 == a1_11) = false := beq_eq_false_iff_ne.mpr c16
              have c16b1 : (a0_11 != a1_11) = true := bne_iff_ne.mpr c16
              exact absurd ((Option.some.inj H).trans hr_) Bool.false_ne_true
            ·rw [if_neg c15] at H
             have c15b0 : (a0_14 == a1_14) = false := beq_eq_false_iff_ne.mpr c15
             have c15b1 : (a0_14 != a1_14) = true := bne_iff_ne.mpr c15
             exact absurd ((Option.some.inj H).trans hr_) Bool.false_ne_true
           ·rw [if_neg c14] at H
            have c14b0 : (a0_1 == a1_1) = false := beq_eq_false_iff_ne.mpr c14
            have c14b1 : (a0_1 != a1_1) = true := bne_iff_ne.mpr c14
            exact absurd ((Option.some.inj H).trans hr_) Bool.false_ne_true
          ·rw [if_neg c13] at H
           have c13b0 : (a0_0 == a1_0) = false := beq_eq_false_iff_ne.mpr c13
           have c13b1 : (a0_0 != a1_0) = true := bne_iff_ne.mpr c13
           exact absurd ((Option.some.inj H).trans hr_) Bool.false_ne_true
         ·replace c12 := Bool.eq_false_iff.mpr c12
          subst c12
          have H1 : (some false) = some r := by rw [if_neg (show ¬ (false = true) by decide)] at H; exact H
          clear H
          have H := H1
          clear H1
          exact absurd ((Option.some.inj H).trans hr_) Bool.false_ne_true
        ·rw [if_neg c10] at H
         have c10b0 : (a0_10.toList == a1_10.toList) = false := beq_eq_false_iff_ne.mpr c10
         have c10b1 : (a0_10.toList != a1_10.toList) = true := bne_iff_ne.mpr c10
         exact absurd ((Option.some.inj H).trans hr_) Bool.false_ne_true
       ·rw [if_neg c9] at H
        have c9b0 : (a0_8.toList == a1_8.toList) = false := beq_eq_false_iff_ne.mpr c9
        have c9b1 : (a0_8.toList != a1_8.toList) = true := bne_iff_ne.mpr c9
        exact absurd ((Option.some.inj H).trans hr_) Bool.false_ne_true
      ·rw [if_neg c8] at H
       have c8b0 : (a0_7 == a1_7) = false := beq_eq_false_iff_ne.mpr c8
       have c8b1 : (a0_7 != a1_7) = true := bne_iff_ne.mpr c8
       exact absurd ((Option.some.inj H).trans hr_) Bool.false_ne_true
     ·rw [if_neg c7] at H
      have c7b0 : (a0_6 == a1_6) = false := beq_eq_false_iff_ne.mpr c7
      have c7b1 : (a0_6 != a1_6) = true := bne_iff_ne.mpr c7
      exact absurd ((Option.some.inj H).trans hr_) Bool.false_ne_true
    ·rw [if_neg c6] at H
     have c6b0 : (a0_5 == a1_5) = false := beq_eq_false_iff_ne.mpr c6
     have c6b1 : (a0_5 != a1_5) = true := bne_iff_ne.mpr c6
     exact absurd ((Option.some.inj H).trans hr_) Bool.false_ne_true
   ·rw [if_neg c5] at H
    have c5b0 : (a0_4 == a1_4) = false := beq_eq_false_iff_ne.mpr c5
    have c5b1 : (a0_4 != a1_4) = true := bne_iff_ne.mpr c5
    exact absurd ((Option.some.inj H).trans hr_) Bool.false_ne_true
  ·rw [if_neg c4] at H
   have c4b0 : (a0_3.toList == a1_3.toList) = false := beq_eq_false_iff_ne.mpr c4
   have c4b1 : (a0_3.toList != a1_3.toList) = true := bne_iff_ne.mpr c4
   exact absurd ((Option.some.inj H).trans hr_) Bool.false_ne_true
 ·rw [if_neg c3] at H
  have c3b0 : (a0_2.toList == a1_2.toList) = false := beq_eq_false_iff_ne.mpr c3
  have c3b1 : (a0_2.toList != a1_2.toList) = true := bne_iff_ne.mpr c3
  exact absurd ((Option.some.inj H).trans hr_) Bool.false_ne_true

def pursuivantref18_SameEvent.f (k : Nat) (a0_0 a0_1 a0_2 : Int) (a0_3 a0_4 : ByteArray) (l0_5 : List (S58)) (a0_6 : ByteArray) (a0_7 : Int) (a0_8 : Int) (a0_9 : Bool) (a0_10 : ByteArray) (a0_11 : Int) (a1_0 : Int) (a1_1 : Int) (a1_2 : Int) (a1_3 : ByteArray) (a1_4 : ByteArray) (l1_5 : List (S58)) (a1_6 : ByteArray) (a1_7 : Int) (a1_8 : Int) (a1_9 : Bool) (a1_10 : ByteArray) (a1_11 : Int) : Option (Bool) := if a0_0 = a1_0 then (if a0_1 = a1_1 then (if a0_2 = a1_2 then (if a0_3.toList = a1_3.toList then (if a0_4.toList = a1_4.toList then ((pursuivantref09_Same.f k l0_5 l1_5).bind fun t109 => (if t109 = true then (if a0_6.toList = a1_6.toList then (if a0_7 = a1_7 then (if a0_8 = a1_8 then (if (a0_9 == a1_9) = true then (if a0_10.toList = a1_10.toList then (some (a0_11 == a1_11)) else (some false)) else (some false)) else (some false)) else (some false)) else (some false)) else (some false))) else (some false)) else (some false)) else (some false)) else (some false)) else (some false)
set_option maxHeartbeats 8000000 in
set_option maxRecDepth 100000 in
theorem pursuivantref18_SameEvent.calls (k : Nat) (a0_0 a0_1 a0_2 : Int) (a0_3 a0_4 : ByteArray) (A0_5 : Option Addr) (c0_5 : Nat) (l0_5 : List (S58)) (a0_6 : ByteArray) (a0_7 : Int) (a0_8 : Int) (a0_9 : Bool) (a0_10 : ByteArray) (a0_11 : Int) (a1_0 : Int) (a1_1 : Int) (a1_2 : Int) (a1_3 : ByteArray) (a1_4 : ByteArray) (A1_5 : Option Addr) (c1_5 : Nat) (l1_5 : List (S58)) (a1_6 : ByteArray) (a1_7 : Int) (a1_8 : Int) (a1_9 : Bool) (a1_10 : ByteArray) (a1_11 : Int) (r : Bool) (w : World) (hG_ : GW w) (hr0_5 : Kd.C k58 w A0_5 l0_5.length l0_5) (hc0_5 : l0_5.length ≤ c0_5) (hr1_5 : Kd.C k58 w A1_5 l1_5.length l1_5) (hc1_5 : l1_5.length ≤ c1_5) (h : pursuivantref18_SameEvent.f k a0_0 a0_1 a0_2 a0_3 a0_4 l0_5 a0_6 a0_7 a0_8 a0_9 a0_10 a0_11 a1_0 a1_1 a1_2 a1_3 a1_4 l1_5 a1_6 a1_7 a1_8 a1_9 a1_10 a1_11 = some r) (hr_ : r = true) :
  Calls Tryz.prog 17 #[.agg #[.int .i64 a0_0, .int .i64 a0_1, .int .i64 a0_2, .string a0_3, .string a0_4, .slice A0_5 l0_5.length c0_5, .string a0_6, .int .i64 a0_7, .int .i64 a0_8, .bool a0_9, .string a0_10, .int .u64 a0_11], .agg #[.int .i64 a1_0, .int .i64 a1_1, .int .i64 a1_2, .string a1_3, .string a1_4, .slice A1_5 l1_5.length c1_5, .string a1_6, .int .i64 a1_7, .int .i64 a1_8, .bool a1_9, .string a1_10, .int .u64 a1_11]] w fun e w' => e = .returned (.bool r) ∧ Below w.heap.size w w' := by
 have hu36 := Tryz.underlying36
 have HR0_5 := Aside0.mk hr0_5; have HC0_5 := Aside0.mk hc0_5; clear hr0_5 hc0_5; have HR1_5 := Aside0.mk hr1_5; have HC1_5 := Aside0.mk hc1_5; clear hr1_5 hc1_5
 have HB := Aside0.mk (Below.refl w.heap.size w)
 have H : (if a0_0 = a1_0 then (if a0_1 = a1_1 then (if a0_2 = a1_2 then (if a0_3.toList = a1_3.toList then (if a0_4.toList = a1_4.toList then ((pursuivantref09_Same.f k l0_5 l1_5).bind fun t109 => (if t109 = true then (if a0_6.toList = a1_6.toList then (if a0_7 = a1_7 then (if a0_8 = a1_8 then (if (a0_9 == a1_9) = true then (if a0_10.toList = a1_10.toList then (some (a0_11 == a1_11)) else (some false)) else (some false)) else (some false)) else (some false)) else (some false)) else (some false))) else (some false)) else (some false)) else (some false)) else (some false)) else (some false)) = some r := h
 clear h
 by_cases c3 : a0_0 = a1_0
 ·rw [if_pos c3] at H
  have c3b0 : (a0_0 == a1_0) = true := beq_iff_eq.mpr c3
  have c3b1 : (a0_0 != a1_0) = false := bne_eq_false_iff_eq.mpr c3
  clear c3
  by_cases c4 : a0_1 = a1_1
  ·rw [if_pos c4] at H
   have c4b0 : (a0_1 == a1_1) = true := beq_iff_eq.mpr c4
   have c4b1 : (a0_1 != a1_1) = false := bne_eq_false_iff_eq.mpr c4
   clear c4
   by_cases c5 : a0_2 = a1_2
   ·rw [if_pos c5] at H
    have c5b0 : (a0_2 == a1_2) = true := beq_iff_eq.mpr c5
    have c5b1 : (a0_2 != a1_2) = false := bne_eq_false_iff_eq.mpr c5
    clear c5
    by_cases c6 : a0_3.toList = a1_3.toList
    ·rw [if_pos c6] at H
     have c6b0 : (a0_3.toList == a1_3.toList) = true := beq_iff_eq.mpr c6
     have c6b1 : (a0_3.toList != a1_3.toList) = false := bne_eq_false_iff_eq.mpr c6
     clear c6
     by_cases c7 : a0_4.toList = a1_4.toList
     ·rw [if_pos c7] at H
      have c7b0 : (a0_4.toList == a1_4.toList) = true := beq_iff_eq.mpr c7
      have c7b1 : (a0_4.toList != a1_4.toList) = false := bne_eq_false_iff_eq.mpr c7
      clear c7
      replace H := Option.bind_eq_some_iff.mp H
      obtain ⟨t109, A80, H⟩ := H
      replace H : (if t109 = true then (if a0_6.toList = a1_6.toList then (if a0_7 = a1_7 then (if a0_8 = a1_8 then (if (a0_9 == a1_9) = true then (if a0_10.toList = a1_10.toList then (some (a0_11 == a1_11)) else (some false)) else (some false)) else (some false)) else (some false)) else (some false)) else (some false)) = some r := H
      have A8 := Aside0.mk A80; clear A80
      by_cases c9 : t109 = true
      ·subst c9
       have H1 : (if a0_6.toList = a1_6.toList then (if a0_7 = a1_7 then (if a0_8 = a1_8 then (if (a0_9 == a1_9) = true then (if a0_10.toList = a1_10.toList then (some (a0_11 == a1_11)) else (some false)) else (some false)) else (some false)) else (some false)) else (some false)) = some r := by rw [if_pos rfl] at H; exact H
       clear H
       have H := H1
       clear H1
       by_cases c10 : a0_6.toList = a1_6.toList
       ·rw [if_pos c10] at H
        have c10b0 : (a0_6.toList == a1_6.toList) = true := beq_iff_eq.mpr c10
        have c10b1 : (a0_6.toList != a1_6.toList) = false := bne_eq_false_iff_eq.mpr c10
        clear c10
        by_cases c11 : a0_7 = a1_7
        ·rw [if_pos c11] at H
         have c11b0 : (a0_7 == a1_7) = true := beq_iff_eq.mpr c11
         have c11b1 : (a0_7 != a1_7) = false := bne_eq_false_iff_eq.mpr c11
         clear c11
         by_cases c12 : a0_8 = a1_8
         ·rw [if_pos c12] at H
          have c12b0 : (a0_8 == a1_8) = true := beq_iff_eq.mpr c12
          have c12b1 : (a0_8 != a1_8) = false := bne_eq_false_iff_eq.mpr c12
          clear c12
          by_cases c13 : (a0_9 == a1_9) = true
          ·rw [if_pos c13] at H
           have c13b0 : (a0_9 == a1_9) = true := c13
           (try (have c13b1 : decide (a0_9 = a1_9) = true := by simpa using c13))
           (try (have c13b2 : (a0_9 == a1_9) = true := by simpa using c13))
           clear c13
           by_cases c14 : a0_10.toList = a1_10.toList
           ·rw [if_pos c14] at H
            have c14b0 : (a0_10.toList == a1_10.toList) = true := beq_iff_eq.mpr c14
            have c14b1 : (a0_10.toList != a1_10.toList) = false := bne_eq_false_iff_eq.mpr c14
            clear c14
            obtain rfl := Option.some.inj H
            go_enter Tryz.func17, Tryz.ntmps17
            go_wp2_with (first | ((with_reducible refine gate_dst (N := 2) rfl ?_); refine box_event ?hg (N := 2) ?hd (cs := #[.int .i64 a0_0, .int .i64 a0_1, .int .i64 a0_2, .string a0_3, .string a0_4, .slice A0_5 l0_5.length c0_5, .string a0_6, .int .i64 a0_7, .int .i64 a0_8, .bool a0_9, .string a0_10, .int .u64 a0_11]) (t := 36) ?hr ?_; (case hd => rfl); (case hg => rfl); (case hr => first | (go_simp; done) | (go_simp; rfl)); intro gb107 hg w15 hbox hb; have n0_ := Aside0.mk (below_step z23_ hb); have n1_ := Aside0.mk (hbox); have n2_ := Aside0.mk ((by rw [hg]; exact (below_size z23_) : w.heap.size ≤ gb107)); have n3_ := Aside0.mk ((by rw [hg]; exact (below_size z23_) : w.heap.size ≤ gb107)); clear HB; have HB := n0_; have BK107 := n1_; have GW107 := n2_; have GE107 := n3_; clear n0_ n1_ n2_ n3_; clear hb hbox hg) | ((with_reducible refine gate_dst (N := 3) rfl ?_); refine box_event ?hg (N := 3) ?hd (cs := #[.int .i64 a1_0, .int .i64 a1_1, .int .i64 a1_2, .string a1_3, .string a1_4, .slice A1_5 l1_5.length c1_5, .string a1_6, .int .i64 a1_7, .int .i64 a1_8, .bool a1_9, .string a1_10, .int .u64 a1_11]) (t := 36) ?hr ?_; (case hd => rfl); (case hg => rfl); (case hr => first | (go_simp; done) | (go_simp; rfl)); intro gb108 hg w16 hbox hb; have n0_ := Aside0.mk (blk_below (g := gb107) (o := .cells #[.int .i64 a0_0, .int .i64 a0_1, .int .i64 a0_2, .string a0_3, .string a0_4, .slice A0_5 l0_5.length c0_5, .string a0_6, .int .i64 a0_7, .int .i64 a0_8, .bool a0_9, .string a0_10, .int .u64 a0_11] 36 (0, 0)) z36_ hb); have n1_ := Aside0.mk (below_step z18_ hb); have n2_ := Aside0.mk (hbox); have n3_ := Aside0.mk ((by rw [hg]; exact (below_size z18_) : w.heap.size ≤ gb108)); have n4_ := Aside0.mk ((by rw [hg]; exact (below_size z18_) : w.heap.size ≤ gb108)); have n5_ := Aside0.mk ((by rw [hg]; exact Nat.ne_of_lt (blk_lt (g := gb107) (o := .cells #[.int .i64 a0_0, .int .i64 a0_1, .int .i64 a0_2, .string a0_3, .string a0_4, .slice A0_5 l0_5.length c0_5, .string a0_6, .int .i64 a0_7, .int .i64 a0_8, .bool a0_9, .string a0_10, .int .u64 a0_11] 36 (0, 0)) z36_) : gb107 ≠ gb108)); have n6_ := Aside0.mk ((by rw [hg]; exact Nat.ne_of_gt (blk_lt (g := gb107) (o := .cells #[.int .i64 a0_0, .int .i64 a0_1, .int .i64 a0_2, .string a0_3, .string a0_4, .slice A0_5 l0_5.length c0_5, .string a0_6, .int .i64 a0_7, .int .i64 a0_8, .bool a0_9, .string a0_10, .int .u64 a0_11] 36 (0, 0)) z36_) : gb108 ≠ gb107)); clear BK107; clear HB; have BK107 := n0_; have HB := n1_; have BK108 := n2_; have GW108 := n3_; have GE108 := n4_; have NB107_108 := n5_; have NB108_107 := n6_; clear n0_ n1_ n2_ n3_ n4_ n5_ n6_; clear hb hbox hg; have hnb17 := NB107_108.out; have hnc17 := NB108_107.out; have hcz18_0 : w16.cell? ⟨gb107, 0, none⟩ = some (.int .i64 a0_0) := (blk_cell BK107.out 0).trans rfl; have hcz18_1 : w16.cell? ⟨gb107, 1, none⟩ = some (.int .i64 a0_1) := (blk_cell BK107.out 1).trans rfl; have hcz18_2 : w16.cell? ⟨gb107, 2, none⟩ = some (.int .i64 a0_2) := (blk_cell BK107.out 2).trans rfl; have hcz18_3 : w16.cell? ⟨gb107, 3, none⟩ = some (.string a0_3) := (blk_cell BK107.out 3).trans rfl; have hcz18_4 : w16.cell? ⟨gb107, 4, none⟩ = some (.string a0_4) := (blk_cell BK107.out 4).trans rfl; have hcz18_5 : w16.cell? ⟨gb107, 5, none⟩ = some (.slice A0_5 l0_5.length c0_5) := (blk_cell BK107.out 5).trans rfl; have hcz18_6 : w16.cell? ⟨gb107, 6, none⟩ = some (.string a0_6) := (blk_cell BK107.out 6).trans rfl; have hcz18_7 : w16.cell? ⟨gb107, 7, none⟩ = some (.int .i64 a0_7) := (blk_cell BK107.out 7).trans rfl; have hcz18_8 : w16.cell? ⟨gb107, 8, none⟩ = some (.int .i64 a0_8) := (blk_cell BK107.out 8).trans rfl; have hcz18_9 : w16.cell? ⟨gb107, 9, none⟩ = some (.bool a0_9) := (blk_cell BK107.out 9).trans rfl; have hcz18_10 : w16.cell? ⟨gb107, 10, none⟩ = some (.string a0_10) := (blk_cell BK107.out 10).trans rfl; have hcz18_11 : w16.cell? ⟨gb107, 11, none⟩ = some (.int .u64 a0_11) := (blk_cell BK107.out 11).trans rfl; have hfz18_0 := blk_frozen BK107.out 0; have hfz18_1 := blk_frozen BK107.out 1; have hfz18_2 := blk_frozen BK107.out 2; have hfz18_3 := blk_frozen BK107.out 3; have hfz18_4 := blk_frozen BK107.out 4; have hfz18_5 := blk_frozen BK107.out 5; have hfz18_6 := blk_frozen BK107.out 6; have hfz18_7 := blk_frozen BK107.out 7; have hfz18_8 := blk_frozen BK107.out 8; have hfz18_9 := blk_frozen BK107.out 9; have hfz18_10 := blk_frozen BK107.out 10; have hfz18_11 := blk_frozen BK107.out 11; have hcz19_0 : w16.cell? ⟨gb108, 0, none⟩ = some (.int .i64 a1_0) := (blk_cell BK108.out 0).trans rfl; have hcz19_1 : w16.cell? ⟨gb108, 1, none⟩ = some (.int .i64 a1_1) := (blk_cell BK108.out 1).trans rfl; have hcz19_2 : w16.cell? ⟨gb108, 2, none⟩ = some (.int .i64 a1_2) := (blk_cell BK108.out 2).trans rfl; have hcz19_3 : w16.cell? ⟨gb108, 3, none⟩ = some (.string a1_3) := (blk_cell BK108.out 3).trans rfl; have hcz19_4 : w16.cell? ⟨gb108, 4, none⟩ = some (.string a1_4) := (blk_cell BK108.out 4).trans rfl; have hcz19_5 : w16.cell? ⟨gb108, 5, none⟩ = some (.slice A1_5 l1_5.length c1_5) := (blk_cell BK108.out 5).trans rfl; have hcz19_6 : w16.cell? ⟨gb108, 6, none⟩ = some (.string a1_6) := (blk_cell BK108.out 6).trans rfl; have hcz19_7 : w16.cell? ⟨gb108, 7, none⟩ = some (.int .i64 a1_7) := (blk_cell BK108.out 7).trans rfl; have hcz19_8 : w16.cell? ⟨gb108, 8, none⟩ = some (.int .i64 a1_8) := (blk_cell BK108.out 8).trans rfl; have hcz19_9 : w16.cell? ⟨gb108, 9, none⟩ = some (.bool a1_9) := (blk_cell BK108.out 9).trans rfl; have hcz19_10 : w16.cell? ⟨gb108, 10, none⟩ = some (.string a1_10) := (blk_cell BK108.out 10).trans rfl; have hcz19_11 : w16.cell? ⟨gb108, 11, none⟩ = some (.int .u64 a1_11) := (blk_cell BK108.out 11).trans rfl; have hfz19_0 := blk_frozen BK108.out 0; have hfz19_1 := blk_frozen BK108.out 1; have hfz19_2 := blk_frozen BK108.out 2; have hfz19_3 := blk_frozen BK108.out 3; have hfz19_4 := blk_frozen BK108.out 4; have hfz19_5 := blk_frozen BK108.out 5; have hfz19_6 := blk_frozen BK108.out 6; have hfz19_7 := blk_frozen BK108.out 7; have hfz19_8 := blk_frozen BK108.out 8; have hfz19_9 := blk_frozen BK108.out 9; have hfz19_10 := blk_frozen BK108.out 10; have hfz19_11 := blk_frozen BK108.out 11) | (go_at_call 14; (fail_if_success (have z_ := U_3)); have U_3 := trivial; (with_reducible refine (pursuivantref09_Same.calls k _ _ l0_5 _ _ l1_5 true _ ?gw3_ ?side1 ?side2 ?side3 ?side4 A8.out).mono ?_); (case gw3_ => exact z0_); (case side1 => repeat (first | exact (Kd.C_below HR0_5.out HB.out) | (with_reducible refine Kd.C_alloc ?_ _) | (with_reducible refine Kd.C_drewN ?_ _) | (with_reducible refine Kd.C_drew ?_))); (case side2 => exact HC0_5.out); (case side3 => repeat (first | exact (Kd.C_below HR1_5.out HB.out) | (with_reducible refine Kd.C_alloc ?_ _) | (with_reducible refine Kd.C_drewN ?_ _) | (with_reducible refine Kd.C_drew ?_))); (case side4 => exact HC1_5.out); rintro e w' ⟨rfl, ⟨nd, rfl⟩⟩))
            go_ret
            exact ⟨z25_, z11_⟩
           ·rw [if_neg c14] at H
            have c14b0 : (a0_10.toList == a1_10.toList) = false := beq_eq_false_iff_ne.mpr c14
            have c14b1 : (a0_10.toList != a1_10.toList) = true := bne_iff_ne.mpr c14
            exact absurd ((Option.some.inj H).trans hr_) Bool.false_ne_true
          ·rw [if_neg c13] at H
           have c13b0 : (a0_9 == a1_9) = false := by simpa using c13
           (try (have c13b1 : decide (a0_9 = a1_9) = false := by simpa using c13))
           (try (have c13b2 : (a0_9 == a1_9) = false := by simpa using c13))
           (try (have c13b3 : ¬ (a0_9 = a1_9) := by simpa using c13))
           clear c13
           exact absurd ((Option.some.inj H).trans hr_) Bool.false_ne_true
         ·rw [if_neg c12] at H
          have c12b0 : (a0_8 == a1_8) = false := beq_eq_false_iff_ne.mpr c12
          have c12b1 : (a0_8 != a1_8) = true := bne_iff_ne.mpr c12
          exact absurd ((Option.some.inj H).trans hr_) Bool.false_ne_true
        ·rw [if_neg c11] at H
         have c11b0 : (a0_7 == a1_7) = false := beq_eq_false_iff_ne.mpr c11
         have c11b1 : (a0_7 != a1_7) = true := bne_iff_ne.mpr c11
         exact absurd ((Option.some.inj H).trans hr_) Bool.false_ne_true
       ·rw [if_neg c10] at H
        have c10b0 : (a0_6.toList == a1_6.toList) = false := beq_eq_false_iff_ne.mpr c10
        have c10b1 : (a0_6.toList != a1_6.toList) = true := bne_iff_ne.mpr c10
        exact absurd ((Option.some.inj H).trans hr_) Bool.false_ne_true
      ·replace c9 := Bool.eq_false_iff.mpr c9
       subst c9
       have H1 : (some false) = some r := by rw [if_neg (show ¬ (false = true) by decide)] at H; exact H
       clear H
       have H := H1
       clear H1
       exact absurd ((Option.some.inj H).trans hr_) Bool.false_ne_true
     ·rw [if_neg c7] at H
      have c7b0 : (a0_4.toList == a1_4.toList) = false := beq_eq_false_iff_ne.mpr c7
      have c7b1 : (a0_4.toList != a1_4.toList) = true := bne_iff_ne.mpr c7
      exact absurd ((Option.some.inj H).trans hr_) Bool.false_ne_true
    ·rw [if_neg c6] at H
     have c6b0 : (a0_3.toList == a1_3.toList) = false := beq_eq_false_iff_ne.mpr c6
     have c6b1 : (a0_3.toList != a1_3.toList) = true := bne_iff_ne.mpr c6
     exact absurd ((Option.some.inj H).trans hr_) Bool.false_ne_true
   ·rw [if_neg c5] at H
    have c5b0 : (a0_2 == a1_2) = false := beq_eq_false_iff_ne.mpr c5
    have c5b1 : (a0_2 != a1_2) = true := bne_iff_ne.mpr c5
    exact absurd ((Option.some.inj H).trans hr_) Bool.false_ne_true
  ·rw [if_neg c4] at H
   have c4b0 : (a0_1 == a1_1) = false := beq_eq_false_iff_ne.mpr c4
   have c4b1 : (a0_1 != a1_1) = true := bne_iff_ne.mpr c4
   exact absurd ((Option.some.inj H).trans hr_) Bool.false_ne_true
 ·rw [if_neg c3] at H
  have c3b0 : (a0_0 == a1_0) = false := beq_eq_false_iff_ne.mpr c3
  have c3b1 : (a0_0 != a1_0) = true := bne_iff_ne.mpr c3
  exact absurd ((Option.some.inj H).trans hr_) Bool.false_ne_true

end Go.Proofs.YtoaleclnilbjcaaGreatDoor.Hand
