/- What each Go function here computes, and that its call computes it, over contracts proved by hand (written by this project's xprint.py, which drives the kit's print). -/
import Derived.Test.YtindkgcbglonhaaDoorZ
import Derived.Test.YtindkgcbglonhaaDoorK
import Derived.Test.YtindkgcbglonhaaDoorLib
import Derived.Test.YtindkgcbglonhaaDoorLow
import Derived.Test.YtindkgcbglonhaaDoorFA1
namespace Go.Proofs.YtindkgcbglonhaaDoor.Hand
open Go.RowKit Go.Proofs.YtindkgcbglonhaaDoorW.PrintWords Go.Proofs.YtindkgcbglonhaaDoorW.PrintLast Go.Proofs.YtindkgcbglonhaaDoorW.PrintMore
attribute [local go_sem] max2_int min2_int max_two min_two max_three min_three max_four min_four   -- for this text's walks alone
set_option linter.unusedVariables false
set_option linter.unusedSimpArgs false

/-! ### pursuivantref10_Method: function 26 -/
/-! ### pursuivantref10_Bad: function 28 -/
/-! ### pursuivantref10_Simple: function 30 -/
/-! ### pursuivantref04_Lower: function 71 -/
/-! ### pursuivantref10_language: function 72 -/
/-! ### pursuivantref10_unsafe: function 73 -/
/-! ### pursuivantref04_Trim: function 74 -/
/-! ### pursuivantref10_Header: function 32 -/
/-! ### pursuivantref10_Forbidden: function 34 -/
/-! ### pursuivantref06_Port: function 46 -/
def pursuivantref06_Port.f (a0_0 : ByteArray) (a0_1 : ByteArray) (a0_2 : ByteArray) (a0_3 : Int) (a0_4 : ByteArray) (a0_5 : Bool) (a0_6 : ByteArray) (a0_7 : Bool) (a0_8 : ByteArray) : Option (Int) := if a0_3 = 0 then ((pursuivantref05_Default.f a0_0).bind fun t200 => (some t200)) else (some a0_3)
set_option maxHeartbeats 8000000 in
set_option maxRecDepth 100000 in
theorem pursuivantref06_Port.calls (a0_0 : ByteArray) (a0_1 : ByteArray) (a0_2 : ByteArray) (a0_3 : Int) (a0_4 : ByteArray) (a0_5 : Bool) (a0_6 : ByteArray) (a0_7 : Bool) (a0_8 : ByteArray) (r : Int) (w : World) (hG_ : GW w) (h : pursuivantref06_Port.f a0_0 a0_1 a0_2 a0_3 a0_4 a0_5 a0_6 a0_7 a0_8 = some r) :
  Calls Tryd.prog 46 #[.agg #[.string a0_0, .string a0_1, .string a0_2, .int .i64 a0_3, .string a0_4, .bool a0_5, .string a0_6, .bool a0_7, .string a0_8]] w fun e w' => e = .returned (.int .i64 r) ∧ Below w.heap.size w w' := by
 have hu39 := Tryd.underlying39
 have HB := Aside0.mk (Below.refl w.heap.size w)
 have H : (if a0_3 = 0 then ((pursuivantref05_Default.f a0_0).bind fun t200 => (some t200)) else (some a0_3)) = some r := h
 clear h
 by_cases c2 : a0_3 = 0
 ·rw [if_pos c2] at H
  have c2b0 : (a0_3 == 0) = true := beq_iff_eq.mpr c2
  have c2b1 : (a0_3 != 0) = false := bne_eq_false_iff_eq.mpr c2
  clear c2
  replace H := Option.bind_eq_some_iff.mp H
  obtain ⟨t200, A30, H⟩ := H
  replace H : (some t200) = some r := H
  have A3 := Aside0.mk A30
  clear A30
  obtain rfl := Option.some.inj H
  go_enter Tryd.func46, Tryd.ntmps46
  go_wp2_with (first | ((with_reducible refine gate_dst (N := 1) rfl ?_); refine box_event ?hg (N := 1) ?hd (cs := #[.string a0_0, .string a0_1, .string a0_2, .int .i64 a0_3, .string a0_4, .bool a0_5, .string a0_6, .bool a0_7, .string a0_8]) (t := 39) ?hr ?_; (case hd => rfl); (case hg => rfl); (case hr => first | (go_simp; done) | (go_simp; rfl)); intro gb199 hg w4 hbox hb; have n0_ := Aside0.mk (below_step z33_ hb); have n1_ := Aside0.mk (hbox); have n2_ := Aside0.mk ((by rw [hg]; exact (below_size z33_) : w.heap.size ≤ gb199)); have n3_ := Aside0.mk ((by rw [hg]; exact (below_size z33_) : w.heap.size ≤ gb199)); clear HB; have HB := n0_; have BK199 := n1_; have GW199 := n2_; have GE199 := n3_; clear n0_ n1_ n2_ n3_; clear hb hbox hg; have hcz5_0 : w4.cell? ⟨gb199, 0, none⟩ = some (.string a0_0) := (blk_cell BK199.out 0).trans rfl; have hcz5_1 : w4.cell? ⟨gb199, 1, none⟩ = some (.string a0_1) := (blk_cell BK199.out 1).trans rfl; have hcz5_2 : w4.cell? ⟨gb199, 2, none⟩ = some (.string a0_2) := (blk_cell BK199.out 2).trans rfl; have hcz5_3 : w4.cell? ⟨gb199, 3, none⟩ = some (.int .i64 a0_3) := (blk_cell BK199.out 3).trans rfl; have hcz5_4 : w4.cell? ⟨gb199, 4, none⟩ = some (.string a0_4) := (blk_cell BK199.out 4).trans rfl; have hcz5_5 : w4.cell? ⟨gb199, 5, none⟩ = some (.bool a0_5) := (blk_cell BK199.out 5).trans rfl; have hcz5_6 : w4.cell? ⟨gb199, 6, none⟩ = some (.string a0_6) := (blk_cell BK199.out 6).trans rfl; have hcz5_7 : w4.cell? ⟨gb199, 7, none⟩ = some (.bool a0_7) := (blk_cell BK199.out 7).trans rfl; have hcz5_8 : w4.cell? ⟨gb199, 8, none⟩ = some (.string a0_8) := (blk_cell BK199.out 8).trans rfl; have hfz5_0 := blk_frozen BK199.out 0; have hfz5_1 := blk_frozen BK199.out 1; have hfz5_2 := blk_frozen BK199.out 2; have hfz5_3 := blk_frozen BK199.out 3; have hfz5_4 := blk_frozen BK199.out 4; have hfz5_5 := blk_frozen BK199.out 5; have hfz5_6 := blk_frozen BK199.out 6; have hfz5_7 := blk_frozen BK199.out 7; have hfz5_8 := blk_frozen BK199.out 8) | ((with_reducible refine gate_callee (f := 23) rfl ?_); refine goesL_ (some 8) rfl rfl Tryd.func23 (by kernel_rfl) rfl #[.string a0_0] rfl z32_ ?_; (with_reducible refine (pursuivantref05_Default.calls a0_0 t200 _ ?gw84_ A3.out).mono ?_); (case gw84_ => first | exact hG_ | (refine GW.below hG_ ?_; first | (with_reducible exact HB.out) | (repeat (first | (with_reducible first | exact HB.out | apply below_alloc | apply pw_below_drewN | apply below_drew1 | apply below_drew | exact Below.refl _ _) | exact HB.out))) | (apply GW.drewN; exact hG_) | (apply GW.drew; exact hG_)); rintro e w' ⟨rfl, ⟨nd, rfl⟩⟩; refine ⟨_, rfl, ?_⟩))
  go_ret
  exact ⟨z34_, by repeat (first | (with_reducible first | exact HB.out | apply below_alloc | apply pw_below_drewN | apply below_drew1 | refine below_set ?_ GE199.out) | exact HB.out)⟩
 ·rw [if_neg c2] at H
  have c2b0 : (a0_3 == 0) = false := beq_eq_false_iff_ne.mpr c2
  have c2b1 : (a0_3 != 0) = true := bne_iff_ne.mpr c2
  obtain rfl := Option.some.inj H
  go_enter Tryd.func46, Tryd.ntmps46
  go_wp2_with (first | ((with_reducible refine gate_dst (N := 1) rfl ?_); refine box_event ?hg (N := 1) ?hd (cs := #[.string a0_0, .string a0_1, .string a0_2, .int .i64 a0_3, .string a0_4, .bool a0_5, .string a0_6, .bool a0_7, .string a0_8]) (t := 39) ?hr ?_; (case hd => rfl); (case hg => rfl); (case hr => first | (go_simp; done) | (go_simp; rfl)); intro gb199 hg w6 hbox hb; have n0_ := Aside0.mk (below_step z33_ hb); have n1_ := Aside0.mk (hbox); have n2_ := Aside0.mk ((by rw [hg]; exact (below_size z33_) : w.heap.size ≤ gb199)); have n3_ := Aside0.mk ((by rw [hg]; exact (below_size z33_) : w.heap.size ≤ gb199)); clear HB; have HB := n0_; have BK199 := n1_; have GW199 := n2_; have GE199 := n3_; clear n0_ n1_ n2_ n3_; clear hb hbox hg; have hcz7_0 : w6.cell? ⟨gb199, 0, none⟩ = some (.string a0_0) := (blk_cell BK199.out 0).trans rfl; have hcz7_1 : w6.cell? ⟨gb199, 1, none⟩ = some (.string a0_1) := (blk_cell BK199.out 1).trans rfl; have hcz7_2 : w6.cell? ⟨gb199, 2, none⟩ = some (.string a0_2) := (blk_cell BK199.out 2).trans rfl; have hcz7_3 : w6.cell? ⟨gb199, 3, none⟩ = some (.int .i64 a0_3) := (blk_cell BK199.out 3).trans rfl; have hcz7_4 : w6.cell? ⟨gb199, 4, none⟩ = some (.string a0_4) := (blk_cell BK199.out 4).trans rfl; have hcz7_5 : w6.cell? ⟨gb199, 5, none⟩ = some (.bool a0_5) := (blk_cell BK199.out 5).trans rfl; have hcz7_6 : w6.cell? ⟨gb199, 6, none⟩ = some (.string a0_6) := (blk_cell BK199.out 6).trans rfl; have hcz7_7 : w6.cell? ⟨gb199, 7, none⟩ = some (.bool a0_7) := (blk_cell BK199.out 7).trans rfl; have hcz7_8 : w6.cell? ⟨gb199, 8, none⟩ = some (.string a0_8) := (blk_cell BK199.out 8).trans rfl; have hfz7_0 := blk_frozen BK199.out 0; have hfz7_1 := blk_frozen BK199.out 1; have hfz7_2 := blk_frozen BK199.out 2; have hfz7_3 := blk_frozen BK199.out 3; have hfz7_4 := blk_frozen BK199.out 4; have hfz7_5 := blk_frozen BK199.out 5; have hfz7_6 := blk_frozen BK199.out 6; have hfz7_7 := blk_frozen BK199.out 7; have hfz7_8 := blk_frozen BK199.out 8))
  go_ret
  exact ⟨z34_, by repeat (first | (with_reducible first | exact HB.out | apply below_alloc | apply pw_below_drewN | apply below_drew1 | refine below_set ?_ GE199.out) | exact HB.out)⟩

/-! ### pursuivantref08_Nobody: function 88 -/
def pursuivantref08_Nobody.f (a0_0 : ByteArray) (a0_1 : ByteArray) (a0_2 : Int) : Option (Bool) := if a0_0.toList = ([] : List UInt8) then (if a0_1.toList = ([] : List UInt8) then (some (a0_2 == 0)) else (some false)) else (some false)
set_option maxHeartbeats 8000000 in
set_option maxRecDepth 100000 in
theorem pursuivantref08_Nobody.calls (a0_0 : ByteArray) (a0_1 : ByteArray) (a0_2 : Int) (r : Bool) (w : World) (hG_ : GW w) (h : pursuivantref08_Nobody.f a0_0 a0_1 a0_2 = some r) :
  Calls Tryd.prog 88 #[.agg #[.string a0_0, .string a0_1, .int .i64 a0_2]] w fun e w' => e = .returned (.bool r) ∧ Below w.heap.size w w' := by
 have hu50 := Tryd.underlying50
 have HB := Aside0.mk (Below.refl w.heap.size w)
 have H : (if a0_0.toList = ([] : List UInt8) then (if a0_1.toList = ([] : List UInt8) then (some (a0_2 == 0)) else (some false)) else (some false)) = some r := h
 clear h
 by_cases c2 : a0_0.toList = ([] : List UInt8)
 ·rw [if_pos c2] at H
  have c2b0 : (a0_0.toList == ([] : List UInt8)) = true := beq_iff_eq.mpr c2
  try have c2e0 : a0_0.toList.isEmpty = true := by rw [← nil_beq]; exact c2b0
  have c2b1 : (a0_0.toList != ([] : List UInt8)) = false := bne_eq_false_iff_eq.mpr c2
  clear c2
  by_cases c3 : a0_1.toList = ([] : List UInt8)
  ·rw [if_pos c3] at H
   have c3b0 : (a0_1.toList == ([] : List UInt8)) = true := beq_iff_eq.mpr c3
   try have c3e0 : a0_1.toList.isEmpty = true := by rw [← nil_beq]; exact c3b0
   have c3b1 : (a0_1.toList != ([] : List UInt8)) = false := bne_eq_false_iff_eq.mpr c3
   clear c3
   obtain rfl := Option.some.inj H
   go_enter Tryd.func88, Tryd.ntmps88
   go_wp2_with (first | ((with_reducible refine gate_dst (N := 1) rfl ?_); refine box_event ?hg (N := 1) ?hd (cs := #[.string a0_0, .string a0_1, .int .i64 a0_2]) (t := 50) ?hr ?_; (case hd => rfl); (case hg => rfl); (case hr => first | (go_simp; done) | (go_simp; rfl)); intro gb201 hg w4 hbox hb; have n0_ := Aside0.mk (below_step z33_ hb); have n1_ := Aside0.mk (hbox); have n2_ := Aside0.mk ((by rw [hg]; exact (below_size z33_) : w.heap.size ≤ gb201)); have n3_ := Aside0.mk ((by rw [hg]; exact (below_size z33_) : w.heap.size ≤ gb201)); clear HB; have HB := n0_; have BK201 := n1_; have GW201 := n2_; have GE201 := n3_; clear n0_ n1_ n2_ n3_; clear hb hbox hg; have hcz5_0 : w4.cell? ⟨gb201, 0, none⟩ = some (.string a0_0) := (blk_cell BK201.out 0).trans rfl; have hcz5_1 : w4.cell? ⟨gb201, 1, none⟩ = some (.string a0_1) := (blk_cell BK201.out 1).trans rfl; have hcz5_2 : w4.cell? ⟨gb201, 2, none⟩ = some (.int .i64 a0_2) := (blk_cell BK201.out 2).trans rfl; have hfz5_0 := blk_frozen BK201.out 0; have hfz5_1 := blk_frozen BK201.out 1; have hfz5_2 := blk_frozen BK201.out 2))
   go_ret
   exact ⟨z34_, z15_⟩
  ·rw [if_neg c3] at H
   have c3b0 : (a0_1.toList == ([] : List UInt8)) = false := beq_eq_false_iff_ne.mpr c3
   try have c3e0 : a0_1.toList.isEmpty = false := by rw [← nil_beq]; exact c3b0
   have c3b1 : (a0_1.toList != ([] : List UInt8)) = true := bne_iff_ne.mpr c3
   obtain rfl := Option.some.inj H
   go_enter Tryd.func88, Tryd.ntmps88
   go_wp2_with (first | ((with_reducible refine gate_dst (N := 1) rfl ?_); refine box_event ?hg (N := 1) ?hd (cs := #[.string a0_0, .string a0_1, .int .i64 a0_2]) (t := 50) ?hr ?_; (case hd => rfl); (case hg => rfl); (case hr => first | (go_simp; done) | (go_simp; rfl)); intro gb201 hg w6 hbox hb; have n0_ := Aside0.mk (below_step z33_ hb); have n1_ := Aside0.mk (hbox); have n2_ := Aside0.mk ((by rw [hg]; exact (below_size z33_) : w.heap.size ≤ gb201)); have n3_ := Aside0.mk ((by rw [hg]; exact (below_size z33_) : w.heap.size ≤ gb201)); clear HB; have HB := n0_; have BK201 := n1_; have GW201 := n2_; have GE201 := n3_; clear n0_ n1_ n2_ n3_; clear hb hbox hg; have hcz7_0 : w6.cell? ⟨gb201, 0, none⟩ = some (.string a0_0) := (blk_cell BK201.out 0).trans rfl; have hcz7_1 : w6.cell? ⟨gb201, 1, none⟩ = some (.string a0_1) := (blk_cell BK201.out 1).trans rfl; have hcz7_2 : w6.cell? ⟨gb201, 2, none⟩ = some (.int .i64 a0_2) := (blk_cell BK201.out 2).trans rfl; have hfz7_0 := blk_frozen BK201.out 0; have hfz7_1 := blk_frozen BK201.out 1; have hfz7_2 := blk_frozen BK201.out 2))
   go_ret
   exact ⟨z34_, z15_⟩
 ·rw [if_neg c2] at H
  have c2b0 : (a0_0.toList == ([] : List UInt8)) = false := beq_eq_false_iff_ne.mpr c2
  try have c2e0 : a0_0.toList.isEmpty = false := by rw [← nil_beq]; exact c2b0
  have c2b1 : (a0_0.toList != ([] : List UInt8)) = true := bne_iff_ne.mpr c2
  obtain rfl := Option.some.inj H
  go_enter Tryd.func88, Tryd.ntmps88
  go_wp2_with (first | ((with_reducible refine gate_dst (N := 1) rfl ?_); refine box_event ?hg (N := 1) ?hd (cs := #[.string a0_0, .string a0_1, .int .i64 a0_2]) (t := 50) ?hr ?_; (case hd => rfl); (case hg => rfl); (case hr => first | (go_simp; done) | (go_simp; rfl)); intro gb201 hg w8 hbox hb; have n0_ := Aside0.mk (below_step z33_ hb); have n1_ := Aside0.mk (hbox); have n2_ := Aside0.mk ((by rw [hg]; exact (below_size z33_) : w.heap.size ≤ gb201)); have n3_ := Aside0.mk ((by rw [hg]; exact (below_size z33_) : w.heap.size ≤ gb201)); clear HB; have HB := n0_; have BK201 := n1_; have GW201 := n2_; have GE201 := n3_; clear n0_ n1_ n2_ n3_; clear hb hbox hg; have hcz9_0 : w8.cell? ⟨gb201, 0, none⟩ = some (.string a0_0) := (blk_cell BK201.out 0).trans rfl; have hcz9_1 : w8.cell? ⟨gb201, 1, none⟩ = some (.string a0_1) := (blk_cell BK201.out 1).trans rfl; have hcz9_2 : w8.cell? ⟨gb201, 2, none⟩ = some (.int .i64 a0_2) := (blk_cell BK201.out 2).trans rfl; have hfz9_0 := blk_frozen BK201.out 0; have hfz9_1 := blk_frozen BK201.out 1; have hfz9_2 := blk_frozen BK201.out 2))
  go_ret
  exact ⟨z34_, z15_⟩

end Go.Proofs.YtindkgcbglonhaaDoor.Hand
