/- What each Go function here computes, and that its call computes it, over contracts proved by hand (written by this project's xprint.py, which drives the kit's print). -/
import Derived.Test.YtfibkgmbgdaeoaaDoorZ
import Derived.Test.YtfibkgmbgdaeoaaDoorK
import Derived.Test.YtfibkgmbgdaeoaaDoorRefG
import Derived.Test.YtfibkgmbgdaeoaaDoorFA1
import Derived.Test.YtfibkgmbgdaeoaaDoorFA2
import Derived.Test.YtfibkgmbgdaeoaaDoorFA3
import Derived.Test.YtfibkgmbgdaeoaaDoorFU1
import Derived.Test.YtfibkgmbgdaeoaaDoorFS2
namespace Go.Proofs.YtfibkgmbgdaeoaaDoor.Hand
open Go.RowKit Go.Proofs.YtfibkgmbgdaeoaaDoorW.PrintWords Go.Proofs.YtfibkgmbgdaeoaaDoorW.PrintLast Go.Proofs.YtfibkgmbgdaeoaaDoorW.PrintMore
attribute [local go_sem] Instr.field asAgg max2_int min2_int max_two min_two max_three min_three max_four min_four   -- for this text's walks alone
set_option linter.unusedVariables false
set_option linter.unusedSimpArgs false

mutual
def source_hosted.j0 : Nat → ByteArray → ByteArray → ByteArray → Bool → Int → ByteArray → Bool → ByteArray → Int → ByteArray → ByteArray → Option (Int × ByteArray × Bool × ByteArray × Int × ByteArray × ByteArray × Bool)
 | 0, _, _, _, _, _, _, _, _, _, _, _ => none
 | k + 1, x0, x5, x6, x26, x131000, x131001, x131002, x131003, x131004, x131005, x131006 => if x26 = true then ((ascii_Lower.f x5).bind fun t136 => (source_hosted.j1 k x6 x131000 t136 x131002 x131003 x131004 x131005 x131006)) else (source_hosted.j1 k x0 x131000 x131001 x131002 x131003 x131004 x131005 x131006)
def source_hosted.j1 : Nat → ByteArray → Int → ByteArray → Bool → ByteArray → Int → ByteArray → ByteArray → Option (Int × ByteArray × Bool × ByteArray × Int × ByteArray × ByteArray × Bool)
 | 0, _, _, _, _, _, _, _, _ => none
 | k + 1, x0, x131000, x131001, x131002, x131003, x131004, x131005, x131006 => (strings_IndexByte.f x0 47).bind fun t137 => (if t137 ≥ 0 then (if 0 ≤ t137 then (if t137 ≤ (x0.size : Int) then (source_hosted.j2 k (x0.extract 0 (t137 : Int).toNat) x131000 x131001 x131002 x131003 x131004 (x0.extract (t137 : Int).toNat x0.size) x131006) else (none)) else (none)) else (source_hosted.j2 k x0 x131000 x131001 x131002 x131003 x131004 x131005 x131006))
def source_hosted.j2 : Nat → ByteArray → Int → ByteArray → Bool → ByteArray → Int → ByteArray → ByteArray → Option (Int × ByteArray × Bool × ByteArray × Int × ByteArray × ByteArray × Bool)
 | 0, _, _, _, _, _, _, _, _ => none
 | k + 1, x0, x131000, x131001, x131002, x131003, x131004, x131005, x131006 => (strings_Cut.f x0 (⟨#[58]⟩ : ByteArray)).bind fun bt138 => ((ascii_Lower.f bt138.1).bind fun t141 => ((strings_CutPrefix.f t141 (⟨#[42, 46]⟩ : ByteArray)).bind fun bt142 => (if bt138.2.2 = true then ((host_Port.f bt138.2.1).bind fun bt144 => (if bt138.2.1.toList = ([42] : List UInt8) then (source_hosted.j3 k (-1) true x131000 x131001 bt142.2 bt142.1 x131004 x131005 x131006) else (source_hosted.j3 k bt144.1 bt144.2 x131000 x131001 bt142.2 bt142.1 x131004 x131005 x131006))) else ((source_Good.f k x131000 x131001 bt142.2 bt142.1 x131004 x131005 x131006).bind fun t147 => (if t147 = true then (some (x131000, x131001, bt142.2, bt142.1, x131004, x131005, x131006, true)) else (some (0, (⟨#[]⟩ : ByteArray), false, (⟨#[]⟩ : ByteArray), 0, (⟨#[]⟩ : ByteArray), (⟨#[]⟩ : ByteArray), false)))))))
def source_hosted.j3 : Nat → Int → Bool → Int → ByteArray → Bool → ByteArray → Int → ByteArray → ByteArray → Option (Int × ByteArray × Bool × ByteArray × Int × ByteArray × ByteArray × Bool)
 | 0, _, _, _, _, _, _, _, _, _ => none
 | k + 1, x11, x12, x131000, x131001, x131002, x131003, x131004, x131005, x131006 => if x12 = true then ((source_Good.f k x131000 x131001 x131002 x131003 x11 x131005 x131006).bind fun t146 => (if t146 = true then (some (x131000, x131001, x131002, x131003, x11, x131005, x131006, true)) else (some (0, (⟨#[]⟩ : ByteArray), false, (⟨#[]⟩ : ByteArray), 0, (⟨#[]⟩ : ByteArray), (⟨#[]⟩ : ByteArray), false)))) else (some (0, (⟨#[]⟩ : ByteArray), false, (⟨#[]⟩ : ByteArray), 0, (⟨#[]⟩ : ByteArray), (⟨#[]⟩ : ByteArray), false))
end
def source_hosted.f (k : Nat) (a0 : ByteArray) : Option (Int × ByteArray × Bool × ByteArray × Int × ByteArray × ByteArray × Bool) := (strings_Cut.f a0 (⟨#[58, 47, 47]⟩ : ByteArray)).bind fun bt131 => (if bt131.2.2 = true then ((ascii_Lower.f bt131.1).bind fun t134 => ((host_Default.f t134).bind fun t135 => (source_hosted.j0 k a0 bt131.1 bt131.2.1 (decide (t135 > 0)) 4 (⟨#[]⟩ : ByteArray) false (⟨#[]⟩ : ByteArray) 0 (⟨#[]⟩ : ByteArray) (⟨#[]⟩ : ByteArray)))) else (source_hosted.j0 k a0 bt131.1 bt131.2.1 false 4 (⟨#[]⟩ : ByteArray) false (⟨#[]⟩ : ByteArray) 0 (⟨#[]⟩ : ByteArray) (⟨#[]⟩ : ByteArray)))
def source_hosted.T7 : Bool × List (List Nat × List Nat) := (true, [([], []), ([], []), ([0, 1], [0, 1]), ([], []), ([], []), ([3, 4], [3, 4]), ([2, 0, 1, 2, 3], [0, 2, 3]), ([0, 1, 2, 3, 4, 5, 6], []), ([7, 5, 6, 0, 1, 2, 3, 4, 5, 6], [5, 7])])
def source_hosted.B7 : List Nat := [0, 0, 3, 0, 0, 24, 15, 127, 255]
theorem source_hosted.tab7 : rtab .any (opsOf Tryd.f27 7) = source_hosted.T7 := by kernel_rfl
theorem source_hosted.bits7 : waitsOk source_hosted.T7.2 source_hosted.B7 = true := by kernel_rfl
set_option maxHeartbeats 8000000 in
set_option maxRecDepth 100000 in
theorem source_hosted.calls (k : Nat) (a0 : ByteArray) (r1 : Int) (r2 : ByteArray) (r3 : Bool) (r4 : ByteArray) (r5 : Int) (r6 r7 : ByteArray) (r8 : Bool) (w : World) (hG_ : GW w) (h : source_hosted.f k a0 = some (r1, r2, r3, r4, r5, r6, r7, r8)) :
  Calls Tryd.prog 27 #[.string a0] w fun e w' => e = .returned (.tuple #[.agg #[.int .i64 r1, .string r2, .bool r3, .string r4, .int .i64 r5, .string r6, .string r7], .bool r8]) ∧ Below w.heap.size w w' := by
 have hu23 := Tryd.underlying23
 have HB := Aside0.mk (Below.refl w.heap.size w)
 have H : ((strings_Cut.f a0 (⟨#[58, 47, 47]⟩ : ByteArray)).bind fun bt131 => (if bt131.2.2 = true then ((ascii_Lower.f bt131.1).bind fun t134 => ((host_Default.f t134).bind fun t135 => (source_hosted.j0 k a0 bt131.1 bt131.2.1 (decide (t135 > 0)) 4 (⟨#[]⟩ : ByteArray) false (⟨#[]⟩ : ByteArray) 0 (⟨#[]⟩ : ByteArray) (⟨#[]⟩ : ByteArray)))) else (source_hosted.j0 k a0 bt131.1 bt131.2.1 false 4 (⟨#[]⟩ : ByteArray) false (⟨#[]⟩ : ByteArray) 0 (⟨#[]⟩ : ByteArray) (⟨#[]⟩ : ByteArray)))) = some (r1, r2, r3, r4, r5, r6, r7, r8) := h
 clear h
 replace H := Option.bind_eq_some_iff.mp H
 obtain ⟨⟨t131, t132, t133⟩, A20, H⟩ := H
 replace H : (if t133 = true then ((ascii_Lower.f t131).bind fun t134 => ((host_Default.f t134).bind fun t135 => (source_hosted.j0 k a0 t131 t132 (decide (t135 > 0)) 4 (⟨#[]⟩ : ByteArray) false (⟨#[]⟩ : ByteArray) 0 (⟨#[]⟩ : ByteArray) (⟨#[]⟩ : ByteArray)))) else (source_hosted.j0 k a0 t131 t132 false 4 (⟨#[]⟩ : ByteArray) false (⟨#[]⟩ : ByteArray) 0 (⟨#[]⟩ : ByteArray) (⟨#[]⟩ : ByteArray))) = some (r1, r2, r3, r4, r5, r6, r7, r8) := H
 have A2 := Aside0.mk A20; clear A20; have HC3 := Aside0.mk H; clear H
 go_enter Tryd.func27, Tryd.ntmps27
 go_upto_region 3 with (first | ((with_reducible refine gate_dst (N := 2) rfl ?_); refine box_event ?hg (N := 2) ?hd (cs := #[.int .i64 0, .string (⟨#[]⟩ : ByteArray), .bool false, .string (⟨#[]⟩ : ByteArray), .int .i64 0, .string (⟨#[]⟩ : ByteArray), .string (⟨#[]⟩ : ByteArray)]) (t := 23) ?hr ?_; (case hd => rfl); (case hg => rfl); (case hr => first | (go_simp; done) | (go_simp; rfl)); intro gb129 hg w4 hbox hb; have n0_ := Aside0.mk (below_step z40_ hb); have n1_ := Aside0.mk (hbox); have n2_ := Aside0.mk ((by rw [hg]; exact (below_size z40_) : w.heap.size ≤ gb129)); have n3_ := Aside0.mk ((by rw [hg]; exact (below_size z40_) : w.heap.size ≤ gb129)); clear HB; have HB := n0_; have BK129 := n1_; have GW129 := n2_; have GE129 := n3_; clear n0_ n1_ n2_ n3_; clear hb hbox hg) | ((with_reducible refine gate_dst (N := 4) rfl ?_); refine box_event ?hg (N := 4) ?hd (cs := #[.int .i64 0, .string (⟨#[]⟩ : ByteArray), .bool false, .string (⟨#[]⟩ : ByteArray), .int .i64 0, .string (⟨#[]⟩ : ByteArray), .string (⟨#[]⟩ : ByteArray)]) (t := 23) ?hr ?_; (case hd => rfl); (case hg => rfl); (case hr => first | (go_simp; done) | (go_simp; rfl)); intro gb130 hg w5 hbox hb; have n0_ := Aside0.mk (blk_below (g := gb129) (o := .cells #[.int .i64 0, .string (⟨#[]⟩ : ByteArray), .bool false, .string (⟨#[]⟩ : ByteArray), .int .i64 0, .string (⟨#[]⟩ : ByteArray), .string (⟨#[]⟩ : ByteArray)] 23 (0, 0)) z52_ hb); have n1_ := Aside0.mk (below_step z33_ hb); have n2_ := Aside0.mk (hbox); have n3_ := Aside0.mk ((by rw [hg]; exact (below_size z33_) : w.heap.size ≤ gb130)); have n4_ := Aside0.mk ((by rw [hg]; exact (below_size z33_) : w.heap.size ≤ gb130)); have n5_ := Aside0.mk ((by rw [hg]; exact Nat.ne_of_lt (blk_lt (g := gb129) (o := .cells #[.int .i64 0, .string (⟨#[]⟩ : ByteArray), .bool false, .string (⟨#[]⟩ : ByteArray), .int .i64 0, .string (⟨#[]⟩ : ByteArray), .string (⟨#[]⟩ : ByteArray)] 23 (0, 0)) z52_) : gb129 ≠ gb130)); have n6_ := Aside0.mk ((by rw [hg]; exact Nat.ne_of_gt (blk_lt (g := gb129) (o := .cells #[.int .i64 0, .string (⟨#[]⟩ : ByteArray), .bool false, .string (⟨#[]⟩ : ByteArray), .int .i64 0, .string (⟨#[]⟩ : ByteArray), .string (⟨#[]⟩ : ByteArray)] 23 (0, 0)) z52_) : gb130 ≠ gb129)); clear BK129; clear HB; have BK129 := n0_; have HB := n1_; have BK130 := n2_; have GW130 := n3_; have GE130 := n4_; have NB129_130 := n5_; have NB130_129 := n6_; clear n0_ n1_ n2_ n3_ n4_ n5_ n6_; clear hb hbox hg; have hnb6 := NB130_129.out; have hnc6 := NB129_130.out; have hcz7_0 : w5.cell? ⟨gb130, 0, none⟩ = some (.int .i64 0) := (blk_cell BK130.out 0).trans rfl; have hcz7_1 : w5.cell? ⟨gb130, 1, none⟩ = some (.string (⟨#[]⟩ : ByteArray)) := (blk_cell BK130.out 1).trans rfl; have hcz7_2 : w5.cell? ⟨gb130, 2, none⟩ = some (.bool false) := (blk_cell BK130.out 2).trans rfl; have hcz7_3 : w5.cell? ⟨gb130, 3, none⟩ = some (.string (⟨#[]⟩ : ByteArray)) := (blk_cell BK130.out 3).trans rfl; have hcz7_4 : w5.cell? ⟨gb130, 4, none⟩ = some (.int .i64 0) := (blk_cell BK130.out 4).trans rfl; have hcz7_5 : w5.cell? ⟨gb130, 5, none⟩ = some (.string (⟨#[]⟩ : ByteArray)) := (blk_cell BK130.out 5).trans rfl; have hcz7_6 : w5.cell? ⟨gb130, 6, none⟩ = some (.string (⟨#[]⟩ : ByteArray)) := (blk_cell BK130.out 6).trans rfl; have hfz7_0 := blk_frozen BK130.out 0; have hfz7_1 := blk_frozen BK130.out 1; have hfz7_2 := blk_frozen BK130.out 2; have hfz7_3 := blk_frozen BK130.out 3; have hfz7_4 := blk_frozen BK130.out 4; have hfz7_5 := blk_frozen BK130.out 5; have hfz7_6 := blk_frozen BK130.out 6) | ((with_reducible refine gate_callee (f := 44) rfl ?_); refine goesL_ (some 16) rfl rfl Tryd.func44 (by kernel_rfl) rfl #[.string a0, .string (⟨#[58, 47, 47]⟩ : ByteArray)] rfl z39_ ?_; (with_reducible refine (strings_Cut.calls a0 (⟨#[58, 47, 47]⟩ : ByteArray) t131 t132 t133 _ ?gw39_ A2.out).mono ?_); (case gw39_ => exact z6_); rintro e w' ⟨rfl, ⟨nd, rfl⟩⟩; refine ⟨_, rfl, ?_⟩))
 (try simp only [Act.put, List.setIfInBounds_toArray, List.set_cons_zero, List.set_cons_succ])
 go_cut [26] (fun v26 wc => ∃ (kq : Nat) (x26_2 : Bool), v26 = .bool x26_2 ∧ Aside0 (source_hosted.j0 kq a0 t131 t132 x26_2 4 (⟨#[]⟩ : ByteArray) false (⟨#[]⟩ : ByteArray) 0 (⟨#[]⟩ : ByteArray) (⟨#[]⟩ : ByteArray) = some (r1, r2, r3, r4, r5, r6, r7, r8)) ∧ Aside0 (kq ≤ k) ∧ Aside0 (wc.heap[gb129]? = some (.cells #[.int .i64 0, .string (⟨#[]⟩ : ByteArray), .bool false, .string (⟨#[]⟩ : ByteArray), .int .i64 0, .string (⟨#[]⟩ : ByteArray), .string (⟨#[]⟩ : ByteArray)] 23 (0, 0))) ∧ Aside0 (wc.heap[gb130]? = some (.cells #[.int .i64 4, .string (⟨#[]⟩ : ByteArray), .bool false, .string (⟨#[]⟩ : ByteArray), .int .i64 0, .string (⟨#[]⟩ : ByteArray), .string (⟨#[]⟩ : ByteArray)] 23 (0, 0))) ∧ Aside0 (Below w.heap.size w wc))
 case first =>
  have H := HC3.out
  clear HC3
  by_cases c8 : t133 = true
  ·subst c8
   have H1 : ((ascii_Lower.f t131).bind fun t134 => ((host_Default.f t134).bind fun t135 => (source_hosted.j0 k a0 t131 t132 (decide (t135 > 0)) 4 (⟨#[]⟩ : ByteArray) false (⟨#[]⟩ : ByteArray) 0 (⟨#[]⟩ : ByteArray) (⟨#[]⟩ : ByteArray)))) = some (r1, r2, r3, r4, r5, r6, r7, r8) := by rw [if_pos rfl] at H; exact H
   clear H
   have H := H1
   clear H1
   replace H := Option.bind_eq_some_iff.mp H
   obtain ⟨t134, A90, H⟩ := H
   replace H : ((host_Default.f t134).bind fun t135 => (source_hosted.j0 k a0 t131 t132 (decide (t135 > 0)) 4 (⟨#[]⟩ : ByteArray) false (⟨#[]⟩ : ByteArray) 0 (⟨#[]⟩ : ByteArray) (⟨#[]⟩ : ByteArray))) = some (r1, r2, r3, r4, r5, r6, r7, r8) := H
   have A9 := Aside0.mk A90; clear A90
   replace H := Option.bind_eq_some_iff.mp H
   obtain ⟨t135, A100, H⟩ := H
   replace H : (source_hosted.j0 k a0 t131 t132 (decide (t135 > 0)) 4 (⟨#[]⟩ : ByteArray) false (⟨#[]⟩ : ByteArray) 0 (⟨#[]⟩ : ByteArray) (⟨#[]⟩ : ByteArray)) = some (r1, r2, r3, r4, r5, r6, r7, r8) := H
   have A10 := Aside0.mk A100; clear A100
   have H' := Aside0.mk H
   clear H
   go_wp2_with (first | (go_at_call 23; (fail_if_success (have z_ := U_16)); have U_16 := trivial; (with_reducible refine (ascii_Lower.calls t131 t134 _ ?gw40_ A9.out).mono ?_); (case gw40_ => exact z6_); rintro e w11 ⟨rfl, hb⟩; have n0_ := Aside0.mk (blk_below (g := gb129) (o := .cells #[.int .i64 0, .string (⟨#[]⟩ : ByteArray), .bool false, .string (⟨#[]⟩ : ByteArray), .int .i64 0, .string (⟨#[]⟩ : ByteArray), .string (⟨#[]⟩ : ByteArray)] 23 (0, 0)) (by (with_reducible repeat (first | refine blk_drewN ?_ _ | refine blk_drew ?_ | refine blk_alloc ?_ _)); refine blk_far ?_ NB129_130.out _; (with_reducible repeat (first | refine blk_drewN ?_ _ | refine blk_drew ?_ | refine blk_alloc ?_ _)); refine blk_far ?_ NB129_130.out _; (with_reducible repeat (first | refine blk_drewN ?_ _ | refine blk_drew ?_ | refine blk_alloc ?_ _)); refine blk_far ?_ NB129_130.out _; (with_reducible repeat (first | refine blk_drewN ?_ _ | refine blk_drew ?_ | refine blk_alloc ?_ _)); refine blk_far ?_ NB129_130.out _; (with_reducible repeat (first | refine blk_drewN ?_ _ | refine blk_drew ?_ | refine blk_alloc ?_ _)); refine blk_far ?_ NB129_130.out _; (with_reducible repeat (first | refine blk_drewN ?_ _ | refine blk_drew ?_ | refine blk_alloc ?_ _)); refine blk_far ?_ NB129_130.out _; (with_reducible repeat (first | refine blk_drewN ?_ _ | refine blk_drew ?_ | refine blk_alloc ?_ _)); refine blk_far ?_ NB129_130.out _; (with_reducible repeat (first | refine blk_drewN ?_ _ | refine blk_drew ?_ | refine blk_alloc ?_ _)); exact BK129.out) hb); have n1_ := Aside0.mk (blk_below (g := gb130) (o := .cells #[.int .i64 4, .string (⟨#[]⟩ : ByteArray), .bool false, .string (⟨#[]⟩ : ByteArray), .int .i64 0, .string (⟨#[]⟩ : ByteArray), .string (⟨#[]⟩ : ByteArray)] 23 (0, 0)) (by (with_reducible repeat (first | refine blk_drewN ?_ _ | refine blk_drew ?_ | refine blk_alloc ?_ _)); refine blk_put (cs := #[.int .i64 4, .string (⟨#[]⟩ : ByteArray), .bool false, .string (⟨#[]⟩ : ByteArray), .int .i64 0, .string (⟨#[]⟩ : ByteArray), .string (⟨#[]⟩ : ByteArray)]) ?_ 6 _ rfl; (with_reducible repeat (first | refine blk_drewN ?_ _ | refine blk_drew ?_ | refine blk_alloc ?_ _)); refine blk_put (cs := #[.int .i64 4, .string (⟨#[]⟩ : ByteArray), .bool false, .string (⟨#[]⟩ : ByteArray), .int .i64 0, .string (⟨#[]⟩ : ByteArray), .string (⟨#[]⟩ : ByteArray)]) ?_ 5 _ rfl; (with_reducible repeat (first | refine blk_drewN ?_ _ | refine blk_drew ?_ | refine blk_alloc ?_ _)); refine blk_put (cs := #[.int .i64 4, .string (⟨#[]⟩ : ByteArray), .bool false, .string (⟨#[]⟩ : ByteArray), .int .i64 0, .string (⟨#[]⟩ : ByteArray), .string (⟨#[]⟩ : ByteArray)]) ?_ 4 _ rfl; (with_reducible repeat (first | refine blk_drewN ?_ _ | refine blk_drew ?_ | refine blk_alloc ?_ _)); refine blk_put (cs := #[.int .i64 4, .string (⟨#[]⟩ : ByteArray), .bool false, .string (⟨#[]⟩ : ByteArray), .int .i64 0, .string (⟨#[]⟩ : ByteArray), .string (⟨#[]⟩ : ByteArray)]) ?_ 3 _ rfl; (with_reducible repeat (first | refine blk_drewN ?_ _ | refine blk_drew ?_ | refine blk_alloc ?_ _)); refine blk_put (cs := #[.int .i64 4, .string (⟨#[]⟩ : ByteArray), .bool false, .string (⟨#[]⟩ : ByteArray), .int .i64 0, .string (⟨#[]⟩ : ByteArray), .string (⟨#[]⟩ : ByteArray)]) ?_ 2 _ rfl; (with_reducible repeat (first | refine blk_drewN ?_ _ | refine blk_drew ?_ | refine blk_alloc ?_ _)); refine blk_put (cs := #[.int .i64 4, .string (⟨#[]⟩ : ByteArray), .bool false, .string (⟨#[]⟩ : ByteArray), .int .i64 0, .string (⟨#[]⟩ : ByteArray), .string (⟨#[]⟩ : ByteArray)]) ?_ 1 _ rfl; (with_reducible repeat (first | refine blk_drewN ?_ _ | refine blk_drew ?_ | refine blk_alloc ?_ _)); refine blk_put (cs := #[.int .i64 0, .string (⟨#[]⟩ : ByteArray), .bool false, .string (⟨#[]⟩ : ByteArray), .int .i64 0, .string (⟨#[]⟩ : ByteArray), .string (⟨#[]⟩ : ByteArray)]) ?_ 0 _ rfl; (with_reducible repeat (first | refine blk_drewN ?_ _ | refine blk_drew ?_ | refine blk_alloc ?_ _)); exact BK130.out) hb); have n2_ := Aside0.mk (below_step z21_ hb); clear BK129; clear BK130; clear HB; have BK129 := n0_; have BK130 := n1_; have HB := n2_; clear n0_ n1_ n2_; (try clear hb); (try clear hb2); (try clear hk); (try clear hi)) | (go_at_call 13; (fail_if_success (have z_ := U_17)); have U_17 := trivial; (with_reducible refine (host_Default.calls t134 t135 _ ?gw41_ A10.out).mono ?_); (case gw41_ => exact z6_); rintro e w' ⟨rfl, ⟨nd, rfl⟩⟩))
   go_meet
   case rel => exact ⟨_, (decide (t135 > 0)), z59_, H', ⟨z65_⟩, ⟨z52_⟩, ⟨z53_⟩, ⟨z21_⟩⟩
  ·replace c8 := Bool.eq_false_iff.mpr c8
   subst c8
   have H1 : (source_hosted.j0 k a0 t131 t132 false 4 (⟨#[]⟩ : ByteArray) false (⟨#[]⟩ : ByteArray) 0 (⟨#[]⟩ : ByteArray) (⟨#[]⟩ : ByteArray)) = some (r1, r2, r3, r4, r5, r6, r7, r8) := by rw [if_neg (show ¬ (false = true) by decide)] at H; exact H
   clear H
   have H := H1
   clear H1
   have H' := Aside0.mk H
   clear H; go_wp2; go_meet
   case rel => exact ⟨_, (false), z59_, H', ⟨z65_⟩, ⟨by (with_reducible repeat (first | refine blk_drewN ?_ _ | refine blk_drew ?_ | refine blk_alloc ?_ _)); refine blk_far ?_ NB129_130.out _; (with_reducible repeat (first | refine blk_drewN ?_ _ | refine blk_drew ?_ | refine blk_alloc ?_ _)); refine blk_far ?_ NB129_130.out _; (with_reducible repeat (first | refine blk_drewN ?_ _ | refine blk_drew ?_ | refine blk_alloc ?_ _)); refine blk_far ?_ NB129_130.out _; (with_reducible repeat (first | refine blk_drewN ?_ _ | refine blk_drew ?_ | refine blk_alloc ?_ _)); refine blk_far ?_ NB129_130.out _; (with_reducible repeat (first | refine blk_drewN ?_ _ | refine blk_drew ?_ | refine blk_alloc ?_ _)); refine blk_far ?_ NB129_130.out _; (with_reducible repeat (first | refine blk_drewN ?_ _ | refine blk_drew ?_ | refine blk_alloc ?_ _)); refine blk_far ?_ NB129_130.out _; (with_reducible repeat (first | refine blk_drewN ?_ _ | refine blk_drew ?_ | refine blk_alloc ?_ _)); refine blk_far ?_ NB129_130.out _; (with_reducible repeat (first | refine blk_drewN ?_ _ | refine blk_drew ?_ | refine blk_alloc ?_ _)); exact BK129.out⟩, ⟨by (with_reducible repeat (first | refine blk_drewN ?_ _ | refine blk_drew ?_ | refine blk_alloc ?_ _)); refine blk_put (cs := #[.int .i64 4, .string (⟨#[]⟩ : ByteArray), .bool false, .string (⟨#[]⟩ : ByteArray), .int .i64 0, .string (⟨#[]⟩ : ByteArray), .string (⟨#[]⟩ : ByteArray)]) ?_ 6 _ rfl; (with_reducible repeat (first | refine blk_drewN ?_ _ | refine blk_drew ?_ | refine blk_alloc ?_ _)); refine blk_put (cs := #[.int .i64 4, .string (⟨#[]⟩ : ByteArray), .bool false, .string (⟨#[]⟩ : ByteArray), .int .i64 0, .string (⟨#[]⟩ : ByteArray), .string (⟨#[]⟩ : ByteArray)]) ?_ 5 _ rfl; (with_reducible repeat (first | refine blk_drewN ?_ _ | refine blk_drew ?_ | refine blk_alloc ?_ _)); refine blk_put (cs := #[.int .i64 4, .string (⟨#[]⟩ : ByteArray), .bool false, .string (⟨#[]⟩ : ByteArray), .int .i64 0, .string (⟨#[]⟩ : ByteArray), .string (⟨#[]⟩ : ByteArray)]) ?_ 4 _ rfl; (with_reducible repeat (first | refine blk_drewN ?_ _ | refine blk_drew ?_ | refine blk_alloc ?_ _)); refine blk_put (cs := #[.int .i64 4, .string (⟨#[]⟩ : ByteArray), .bool false, .string (⟨#[]⟩ : ByteArray), .int .i64 0, .string (⟨#[]⟩ : ByteArray), .string (⟨#[]⟩ : ByteArray)]) ?_ 3 _ rfl; (with_reducible repeat (first | refine blk_drewN ?_ _ | refine blk_drew ?_ | refine blk_alloc ?_ _)); refine blk_put (cs := #[.int .i64 4, .string (⟨#[]⟩ : ByteArray), .bool false, .string (⟨#[]⟩ : ByteArray), .int .i64 0, .string (⟨#[]⟩ : ByteArray), .string (⟨#[]⟩ : ByteArray)]) ?_ 2 _ rfl; (with_reducible repeat (first | refine blk_drewN ?_ _ | refine blk_drew ?_ | refine blk_alloc ?_ _)); refine blk_put (cs := #[.int .i64 4, .string (⟨#[]⟩ : ByteArray), .bool false, .string (⟨#[]⟩ : ByteArray), .int .i64 0, .string (⟨#[]⟩ : ByteArray), .string (⟨#[]⟩ : ByteArray)]) ?_ 1 _ rfl; (with_reducible repeat (first | refine blk_drewN ?_ _ | refine blk_drew ?_ | refine blk_alloc ?_ _)); refine blk_put (cs := #[.int .i64 0, .string (⟨#[]⟩ : ByteArray), .bool false, .string (⟨#[]⟩ : ByteArray), .int .i64 0, .string (⟨#[]⟩ : ByteArray), .string (⟨#[]⟩ : ByteArray)]) ?_ 0 _ rfl; (with_reducible repeat (first | refine blk_drewN ?_ _ | refine blk_drew ?_ | refine blk_alloc ?_ _)); exact BK130.out⟩, ⟨z21_⟩⟩
 case rest =>
  clear HC3; (try clear hcz7_0 hcz7_1 hcz7_2 hcz7_3 hcz7_4 hcz7_5 hcz7_6); (try clear hfz7_0 hfz7_1 hfz7_2 hfz7_3 hfz7_4 hfz7_5 hfz7_6)
  obtain ⟨kq, x26_2, rfl, HA, HJ2, BK129, BK130, HB⟩ := hcut
  cases kq with
  | zero => exact absurd HA.out (by simp [source_hosted.j0])
  | succ kj2 =>
   have H := HA.out
   clear HA
   simp only [source_hosted.j0] at H
   have HC12 := Aside0.mk H; clear H
   go_upto_if 26 with (fail)
   go_cut [0] (fun v0 wc => ∃ (kq : Nat) (x0_11 x131001_11 : ByteArray), v0 = .string x0_11 ∧ Aside0 (source_hosted.j1 kq x0_11 4 x131001_11 false (⟨#[]⟩ : ByteArray) 0 (⟨#[]⟩ : ByteArray) (⟨#[]⟩ : ByteArray) = some (r1, r2, r3, r4, r5, r6, r7, r8)) ∧ Aside0 (kq ≤ kj2) ∧ Aside0 (wc.heap[gb129]? = some (.cells #[.int .i64 0, .string (⟨#[]⟩ : ByteArray), .bool false, .string (⟨#[]⟩ : ByteArray), .int .i64 0, .string (⟨#[]⟩ : ByteArray), .string (⟨#[]⟩ : ByteArray)] 23 (0, 0))) ∧ Aside0 (wc.heap[gb130]? = some (.cells #[.int .i64 4, .string x131001_11, .bool false, .string (⟨#[]⟩ : ByteArray), .int .i64 0, .string (⟨#[]⟩ : ByteArray), .string (⟨#[]⟩ : ByteArray)] 23 (0, 0))) ∧ Aside0 (Below w.heap.size w wc))
   case first =>
    have H := HC12.out
    clear HC12
    by_cases c13 : x26_2 = true
    ·subst c13
     have H1 : ((ascii_Lower.f t131).bind fun t136 => (source_hosted.j1 kj2 t132 4 t136 false (⟨#[]⟩ : ByteArray) 0 (⟨#[]⟩ : ByteArray) (⟨#[]⟩ : ByteArray))) = some (r1, r2, r3, r4, r5, r6, r7, r8) := by rw [if_pos rfl] at H; exact H
     clear H
     have H := H1
     clear H1
     replace H := Option.bind_eq_some_iff.mp H
     obtain ⟨t136, A140, H⟩ := H
     replace H : (source_hosted.j1 kj2 t132 4 t136 false (⟨#[]⟩ : ByteArray) 0 (⟨#[]⟩ : ByteArray) (⟨#[]⟩ : ByteArray)) = some (r1, r2, r3, r4, r5, r6, r7, r8) := H
     have A14 := Aside0.mk A140; clear A140
     have H' := Aside0.mk H
     clear H
     go_wp2_with (first | ((with_reducible refine gate_callee (f := 23) rfl ?_); refine goesL_ (some 28) rfl rfl Tryd.func23 (by kernel_rfl) rfl #[.string t131] rfl z39_ ?_; (with_reducible refine (ascii_Lower.calls t131 t136 _ ?gw42_ A14.out).mono ?_); (case gw42_ => exact z6_); rintro e w15 ⟨rfl, hb⟩; refine ⟨_, rfl, ?_⟩; have n0_ := Aside0.mk (blk_below (g := gb129) (o := .cells #[.int .i64 0, .string (⟨#[]⟩ : ByteArray), .bool false, .string (⟨#[]⟩ : ByteArray), .int .i64 0, .string (⟨#[]⟩ : ByteArray), .string (⟨#[]⟩ : ByteArray)] 23 (0, 0)) z52_ hb); have n1_ := Aside0.mk (blk_below (g := gb130) (o := .cells #[.int .i64 4, .string (⟨#[]⟩ : ByteArray), .bool false, .string (⟨#[]⟩ : ByteArray), .int .i64 0, .string (⟨#[]⟩ : ByteArray), .string (⟨#[]⟩ : ByteArray)] 23 (0, 0)) z53_ hb); have n2_ := Aside0.mk (below_step z21_ hb); clear BK129; clear BK130; clear HB; have BK129 := n0_; have BK130 := n1_; have HB := n2_; clear n0_ n1_ n2_; (try clear hb); (try clear hb2); (try clear hk); (try clear hi); have hnb16 := NB130_129.out; have hnc16 := NB129_130.out; have hcz17_0 : w15.cell? ⟨gb130, 0, none⟩ = some (.int .i64 4) := (blk_cell BK130.out 0).trans rfl; have hcz17_1 : w15.cell? ⟨gb130, 1, none⟩ = some (.string (⟨#[]⟩ : ByteArray)) := (blk_cell BK130.out 1).trans rfl; have hcz17_2 : w15.cell? ⟨gb130, 2, none⟩ = some (.bool false) := (blk_cell BK130.out 2).trans rfl; have hcz17_3 : w15.cell? ⟨gb130, 3, none⟩ = some (.string (⟨#[]⟩ : ByteArray)) := (blk_cell BK130.out 3).trans rfl; have hcz17_4 : w15.cell? ⟨gb130, 4, none⟩ = some (.int .i64 0) := (blk_cell BK130.out 4).trans rfl; have hcz17_5 : w15.cell? ⟨gb130, 5, none⟩ = some (.string (⟨#[]⟩ : ByteArray)) := (blk_cell BK130.out 5).trans rfl; have hcz17_6 : w15.cell? ⟨gb130, 6, none⟩ = some (.string (⟨#[]⟩ : ByteArray)) := (blk_cell BK130.out 6).trans rfl; have hfz17_0 := blk_frozen BK130.out 0; have hfz17_1 := blk_frozen BK130.out 1; have hfz17_2 := blk_frozen BK130.out 2; have hfz17_3 := blk_frozen BK130.out 3; have hfz17_4 := blk_frozen BK130.out 4; have hfz17_5 := blk_frozen BK130.out 5; have hfz17_6 := blk_frozen BK130.out 6))
     go_meet
     case rel => exact ⟨_, (t132), (t136), z59_, H', ⟨z62_⟩, ⟨z16_⟩, ⟨by (with_reducible repeat (first | refine blk_drewN ?_ _ | refine blk_drew ?_ | refine blk_alloc ?_ _)); refine blk_put (cs := #[.int .i64 4, .string (⟨#[]⟩ : ByteArray), .bool false, .string (⟨#[]⟩ : ByteArray), .int .i64 0, .string (⟨#[]⟩ : ByteArray), .string (⟨#[]⟩ : ByteArray)]) ?_ 1 _ rfl; (with_reducible repeat (first | refine blk_drewN ?_ _ | refine blk_drew ?_ | refine blk_alloc ?_ _)); exact BK130.out⟩, ⟨z21_⟩⟩
    ·replace c13 := Bool.eq_false_iff.mpr c13
     subst c13
     have H1 : (source_hosted.j1 kj2 a0 4 (⟨#[]⟩ : ByteArray) false (⟨#[]⟩ : ByteArray) 0 (⟨#[]⟩ : ByteArray) (⟨#[]⟩ : ByteArray)) = some (r1, r2, r3, r4, r5, r6, r7, r8) := by rw [if_neg (show ¬ (false = true) by decide)] at H; exact H
     clear H
     have H := H1
     clear H1
     have H' := Aside0.mk H
     clear H; go_wp2; go_meet
     case rel => exact ⟨_, (a0), ((⟨#[]⟩ : ByteArray)), z59_, H', ⟨z62_⟩, ⟨z52_⟩, ⟨z53_⟩, ⟨z21_⟩⟩
   case rest =>
    clear HC12; (try clear hcz7_0 hcz7_1 hcz7_2 hcz7_3 hcz7_4 hcz7_5 hcz7_6); (try clear hfz7_0 hfz7_1 hfz7_2 hfz7_3 hfz7_4 hfz7_5 hfz7_6)
    obtain ⟨kq, x0_11, x131001_11, rfl, HA, HJ11, BK129, BK130, HB⟩ := hcut
    cases kq with
    | zero => exact absurd HA.out (by simp [source_hosted.j1])
    | succ kj11 =>
     have H := HA.out
     clear HA
     simp only [source_hosted.j1] at H
     replace H := Option.bind_eq_some_iff.mp H
     obtain ⟨t137, A180, H⟩ := H
     replace H : (if t137 ≥ 0 then (if 0 ≤ t137 then (if t137 ≤ (x0_11.size : Int) then (source_hosted.j2 kj11 (x0_11.extract 0 (t137 : Int).toNat) 4 x131001_11 false (⟨#[]⟩ : ByteArray) 0 (x0_11.extract (t137 : Int).toNat x0_11.size) (⟨#[]⟩ : ByteArray)) else (none)) else (none)) else (source_hosted.j2 kj11 x0_11 4 x131001_11 false (⟨#[]⟩ : ByteArray) 0 (⟨#[]⟩ : ByteArray) (⟨#[]⟩ : ByteArray))) = some (r1, r2, r3, r4, r5, r6, r7, r8) := H
     have A18 := Aside0.mk A180; clear A180; have HC19 := Aside0.mk H; clear H
     go_upto_if 34 with (first | ((with_reducible refine gate_callee (f := 33) rfl ?_); refine goesL_ (some 32) rfl rfl Tryd.func33 (by kernel_rfl) rfl #[.string x0_11, .int .u8 47] rfl z39_ ?_; (with_reducible refine (strings_IndexByte.calls x0_11 47 t137 _ ?gw43_ A18.out).mono ?_); (case gw43_ => exact z6_); rintro e w' ⟨rfl, ⟨nd, rfl⟩⟩; refine ⟨_, rfl, ?_⟩))
     (try simp only [Act.put, List.setIfInBounds_toArray, List.set_cons_zero, List.set_cons_succ])
     go_cut [0] (fun v0 wc => ∃ (kq : Nat) (x0_18 x131005_18 : ByteArray), v0 = .string x0_18 ∧ Aside0 (source_hosted.j2 kq x0_18 4 x131001_11 false (⟨#[]⟩ : ByteArray) 0 x131005_18 (⟨#[]⟩ : ByteArray) = some (r1, r2, r3, r4, r5, r6, r7, r8)) ∧ Aside0 (kq ≤ kj11) ∧ Aside0 (wc.heap[gb129]? = some (.cells #[.int .i64 0, .string (⟨#[]⟩ : ByteArray), .bool false, .string (⟨#[]⟩ : ByteArray), .int .i64 0, .string (⟨#[]⟩ : ByteArray), .string (⟨#[]⟩ : ByteArray)] 23 (0, 0))) ∧ Aside0 (wc.heap[gb130]? = some (.cells #[.int .i64 4, .string x131001_11, .bool false, .string (⟨#[]⟩ : ByteArray), .int .i64 0, .string x131005_18, .string (⟨#[]⟩ : ByteArray)] 23 (0, 0))) ∧ Aside0 (Below w.heap.size w wc))
     case first =>
      have H := HC19.out
      clear HC19
      by_cases c20 : t137 ≥ 0
      ·rw [if_pos c20] at H
       have c20b0 : decide (0 ≤ t137) = true := decide_eq_true c20; clear c20
       (first | rw [c20b0] | (simp only [i64_w, i32_w]; rw [c20b0]) | skip)
       by_cases c21 : 0 ≤ t137
       ·rw [if_pos c21] at H
        have c21b0 := eq_true c21; have c21b1 : decide (0 ≤ t137) = true := decide_eq_true c21; clear c21
        by_cases c22 : t137 ≤ (x0_11.size : Int)
        ·rw [if_pos c22] at H
         have c22b0 := eq_true c22; have c22b1 : decide (t137 ≤ (x0_11.size : Int)) = true := decide_eq_true c22; clear c22
         have c23b0 := eq_true (of_decide_eq_true z63_ : 0 ≤ t137)
         have c24b0 := eq_true (of_decide_eq_true z63_ : t137 ≤ (x0_11.size : Int))
         have H' := Aside0.mk H
         clear H
         try go_wp2
         have n0_ := Aside0.mk (blk_drew (blk_drewN BK129.out nd))
         have n1_ := Aside0.mk (blk_drew (blk_drewN BK130.out nd))
         have n2_ := Aside0.mk (below_drew1 (pw_below_drewN HB.out nd))
         clear BK129; clear BK130; clear HB
         have BK129 := n0_
         have BK130 := n1_
         have HB := n2_
         clear n0_ n1_ n2_
         refine start_ (n := 9) (S := fun w' => True) (ds := []) #[false, false, false, false, false, false, false, false, false] (by kernel_rfl) rfl rfl trivial (fun hHeld => ?_); refine with_tabW source_hosted.tab7 source_hosted.bits7 (fun HT_ HW_ => ?_)
         generalize (wc.drewN nd).drew = w25 at BK129 BK130 HB hHeld ⊢
         refine pure_ (i := 0) (N := some 35) (v := ?_) (a' := ?_) #[true, false, false, false, false, false, false, false, false] rfl rfl (any_of HT_.out (by kernel_rfl)) (fun _ _ _ h => h) (Or.inl ⟨by rfl, ?_⟩) ?_ ?_
         rotate_left
         ·intro w'
          go_simp
          with_reducible rfl
         rotate_left
         ·simp only [Act.put, List.setIfInBounds_toArray, List.set_cons_zero, List.set_cons_succ, i64_w, i32_w]
          rfl
         refine pure_ (i := 1) (N := some 36) (v := ?_) (a' := ?_) #[true, true, false, false, false, false, false, false, false] rfl rfl (any_of HT_.out (by kernel_rfl)) (fun _ _ _ h => h) (Or.inl ⟨by rfl, ?_⟩) ?_ ?_
         rotate_left
         ·intro w'
          go_simp
          with_reducible rfl
         rotate_left
         ·simp only [Act.put, List.setIfInBounds_toArray, List.set_cons_zero, List.set_cons_succ, i64_w, i32_w]
          rfl
         refine pure_ (i := 2) (N := some 37) (v := ?_) (a' := ?_) #[true, true, true, false, false, false, false, false, false] rfl rfl (any_of HT_.out (by kernel_rfl)) (fun _ _ _ h => h) (Or.inl ⟨by rfl, ?_⟩) ?_ ?_
         rotate_left
         ·intro w'
          go_simp
          with_reducible rfl
         rotate_left
         ·simp only [Act.put, List.setIfInBounds_toArray, List.set_cons_zero, List.set_cons_succ, i64_w, i32_w]
          rfl
         refine pure_ (i := 3) (N := some 38) (v := ?_) (a' := ?_) #[true, true, true, true, false, false, false, false, false] rfl rfl (any_of HT_.out (by kernel_rfl)) (fun _ _ _ h => h) (Or.inl ⟨by rfl, ?_⟩) ?_ ?_
         rotate_left
         ·intro w'
          go_simp
          with_reducible rfl
         rotate_left
         ·simp only [Act.put, List.setIfInBounds_toArray, List.set_cons_zero, List.set_cons_succ, i64_w, i32_w]
          rfl
         refine pure_ (i := 4) (N := some 39) (v := ?_) (a' := ?_) #[true, true, true, true, true, false, false, false, false] rfl rfl (any_of HT_.out (by kernel_rfl)) (fun _ _ _ h => h) (Or.inl ⟨by rfl, ?_⟩) ?_ ?_
         rotate_left
         ·intro w'
          go_simp
          with_reducible rfl
         rotate_left
         ·simp only [Act.put, List.setIfInBounds_toArray, List.set_cons_zero, List.set_cons_succ, i64_w, i32_w]
          rfl
         refine pure_ (i := 5) (N := some 40) (v := ?_) (a' := ?_) #[true, true, true, true, true, true, false, false, false] rfl rfl (any_of HT_.out (by kernel_rfl)) (fun _ _ _ h => h) (Or.inl ⟨by rfl, ?_⟩) ?_ ?_
         rotate_left
         ·intro w'
          go_simp
          with_reducible rfl
         rotate_left
         ·simp only [Act.put, List.setIfInBounds_toArray, List.set_cons_zero, List.set_cons_succ, i64_w, i32_w]
          rfl
         refine pure_ (i := 6) (N := some 0) (v := ?_) (a' := ?_) #[true, true, true, true, true, true, true, false, false] rfl rfl (any_of HT_.out (by kernel_rfl)) (fun _ _ _ h => h) (Or.inl ⟨by rfl, ?_⟩) ?_ ?_
         rotate_left
         ·intro w'
          go_simp
          with_reducible rfl
         rotate_left
         ·simp only [Act.put, List.setIfInBounds_toArray, List.set_cons_zero, List.set_cons_succ, i64_w, i32_w]
          rfl
         refine pure_ (i := 7) (N := some 41) (v := ?_) (a' := ?_) #[true, true, true, true, true, true, true, true, false] rfl rfl (any_of HT_.out (by kernel_rfl)) (fun _ _ _ h => h) (Or.inl ⟨by rfl, ?_⟩) ?_ ?_
         rotate_left
         ·intro w'
          go_simp
          with_reducible rfl
         rotate_left
         ·simp only [Act.put, List.setIfInBounds_toArray, List.set_cons_zero, List.set_cons_succ, i64_w, i32_w]
          rfl
         refine one_ (i := 8) (N := none) #[true, true, true, true, true, true, true, true, true] rfl rfl (one_of HT_.out (by kernel_rfl)) (by decide) (fun K hK => ?_)
         have hs26 : w25.cell? ⟨gb130, 5, none⟩ = some (.string (⟨#[]⟩ : ByteArray)) := (blk_cell BK130.out 5).trans rfl
         have hfs26 := blk_frozen BK130.out 5; have hns26_0 := NB129_130.out
         have hms26_0 := NB130_129.out
         refine skip_ (w1 := ?_) (by rfl) rfl ?_ ?_
         rotate_left
         ·go_simp
          rfl
         refine hK.out _ _ trivial (fun hHeld => ?_)
         clear hK K
         refine done_ (done_of HT_.out (by kernel_rfl)) ?_
         try go_wp2
         go_meet
         case rel => exact ⟨_, (x0_11.extract 0 (t137 : Int).toNat), (x0_11.extract (t137 : Int).toNat x0_11.size), z59_, H', ⟨by have := HJ2.out; have := HJ11.out; first | omega | exact Nat.le_refl _⟩, ⟨z16_⟩, ⟨by (with_reducible repeat (first | refine blk_drewN ?_ _ | refine blk_drew ?_ | refine blk_alloc ?_ _)); refine blk_put (cs := #[.int .i64 4, .string x131001_11, .bool false, .string (⟨#[]⟩ : ByteArray), .int .i64 0, .string (⟨#[]⟩ : ByteArray), .string (⟨#[]⟩ : ByteArray)]) ?_ 5 _ rfl; (with_reducible repeat (first | refine blk_drewN ?_ _ | refine blk_drew ?_ | refine blk_alloc ?_ _)); exact BK130.out⟩, ⟨z21_⟩⟩
        ·rw [if_neg c22] at H
         exact absurd H (by simp)
       ·rw [if_neg c21] at H
        exact absurd H (by simp)
      ·rw [if_neg c20] at H
       have c20b0 : decide (0 ≤ t137) = false := decide_eq_false c20; clear c20
       (first | rw [c20b0] | (simp only [i64_w, i32_w]; rw [c20b0]) | skip)
       have H' := Aside0.mk H
       clear H; go_wp2; go_meet
       case rel => exact ⟨_, (x0_11), ((⟨#[]⟩ : ByteArray)), z59_, H', ⟨by have := HJ2.out; have := HJ11.out; first | omega | exact Nat.le_refl _⟩, ⟨z52_⟩, ⟨z53_⟩, ⟨z21_⟩⟩
     case rest =>
      clear HC19; (try clear hcz7_0 hcz7_1 hcz7_2 hcz7_3 hcz7_4 hcz7_5 hcz7_6); (try clear hfz7_0 hfz7_1 hfz7_2 hfz7_3 hfz7_4 hfz7_5 hfz7_6)
      obtain ⟨kq, x0_18, x131005_18, rfl, HA, HJ18, BK129, BK130, HB⟩ := hcut
      cases kq with
      | zero => exact absurd HA.out (by simp [source_hosted.j2])
      | succ kj18 =>
       have H := HA.out
       clear HA
       simp only [source_hosted.j2] at H
       replace H := Option.bind_eq_some_iff.mp H
       obtain ⟨⟨t138, t139, t140⟩, A270, H⟩ := H
       replace H : ((ascii_Lower.f t138).bind fun t141 => ((strings_CutPrefix.f t141 (⟨#[42, 46]⟩ : ByteArray)).bind fun bt142 => (if t140 = true then ((host_Port.f t139).bind fun bt144 => (if t139.toList = ([42] : List UInt8) then (source_hosted.j3 kj18 (-1) true 4 x131001_11 bt142.2 bt142.1 0 x131005_18 (⟨#[]⟩ : ByteArray)) else (source_hosted.j3 kj18 bt144.1 bt144.2 4 x131001_11 bt142.2 bt142.1 0 x131005_18 (⟨#[]⟩ : ByteArray)))) else ((source_Good.f kj18 4 x131001_11 bt142.2 bt142.1 0 x131005_18 (⟨#[]⟩ : ByteArray)).bind fun t147 => (if t147 = true then (some (4, x131001_11, bt142.2, bt142.1, 0, x131005_18, (⟨#[]⟩ : ByteArray), true)) else (some (0, (⟨#[]⟩ : ByteArray), false, (⟨#[]⟩ : ByteArray), 0, (⟨#[]⟩ : ByteArray), (⟨#[]⟩ : ByteArray), false))))))) = some (r1, r2, r3, r4, r5, r6, r7, r8) := H
       have A27 := Aside0.mk A270; clear A270
       replace H := Option.bind_eq_some_iff.mp H
       obtain ⟨t141, A280, H⟩ := H
       replace H : ((strings_CutPrefix.f t141 (⟨#[42, 46]⟩ : ByteArray)).bind fun bt142 => (if t140 = true then ((host_Port.f t139).bind fun bt144 => (if t139.toList = ([42] : List UInt8) then (source_hosted.j3 kj18 (-1) true 4 x131001_11 bt142.2 bt142.1 0 x131005_18 (⟨#[]⟩ : ByteArray)) else (source_hosted.j3 kj18 bt144.1 bt144.2 4 x131001_11 bt142.2 bt142.1 0 x131005_18 (⟨#[]⟩ : ByteArray)))) else ((source_Good.f kj18 4 x131001_11 bt142.2 bt142.1 0 x131005_18 (⟨#[]⟩ : ByteArray)).bind fun t147 => (if t147 = true then (some (4, x131001_11, bt142.2, bt142.1, 0, x131005_18, (⟨#[]⟩ : ByteArray), true)) else (some (0, (⟨#[]⟩ : ByteArray), false, (⟨#[]⟩ : ByteArray), 0, (⟨#[]⟩ : ByteArray), (⟨#[]⟩ : ByteArray), false)))))) = some (r1, r2, r3, r4, r5, r6, r7, r8) := H
       have A28 := Aside0.mk A280; clear A280
       replace H := Option.bind_eq_some_iff.mp H
       obtain ⟨⟨t142, t143⟩, A290, H⟩ := H
       replace H : (if t140 = true then ((host_Port.f t139).bind fun bt144 => (if t139.toList = ([42] : List UInt8) then (source_hosted.j3 kj18 (-1) true 4 x131001_11 t143 t142 0 x131005_18 (⟨#[]⟩ : ByteArray)) else (source_hosted.j3 kj18 bt144.1 bt144.2 4 x131001_11 t143 t142 0 x131005_18 (⟨#[]⟩ : ByteArray)))) else ((source_Good.f kj18 4 x131001_11 t143 t142 0 x131005_18 (⟨#[]⟩ : ByteArray)).bind fun t147 => (if t147 = true then (some (4, x131001_11, t143, t142, 0, x131005_18, (⟨#[]⟩ : ByteArray), true)) else (some (0, (⟨#[]⟩ : ByteArray), false, (⟨#[]⟩ : ByteArray), 0, (⟨#[]⟩ : ByteArray), (⟨#[]⟩ : ByteArray), false))))) = some (r1, r2, r3, r4, r5, r6, r7, r8) := H
       have A29 := Aside0.mk A290; clear A290
       by_cases c30 : t140 = true
       ·subst c30
        have H1 : ((host_Port.f t139).bind fun bt144 => (if t139.toList = ([42] : List UInt8) then (source_hosted.j3 kj18 (-1) true 4 x131001_11 t143 t142 0 x131005_18 (⟨#[]⟩ : ByteArray)) else (source_hosted.j3 kj18 bt144.1 bt144.2 4 x131001_11 t143 t142 0 x131005_18 (⟨#[]⟩ : ByteArray)))) = some (r1, r2, r3, r4, r5, r6, r7, r8) := by rw [if_pos rfl] at H; exact H
        clear H
        have H := H1
        clear H1
        replace H := Option.bind_eq_some_iff.mp H
        obtain ⟨⟨t144, t145⟩, A310, H⟩ := H
        replace H : (if t139.toList = ([42] : List UInt8) then (source_hosted.j3 kj18 (-1) true 4 x131001_11 t143 t142 0 x131005_18 (⟨#[]⟩ : ByteArray)) else (source_hosted.j3 kj18 t144 t145 4 x131001_11 t143 t142 0 x131005_18 (⟨#[]⟩ : ByteArray))) = some (r1, r2, r3, r4, r5, r6, r7, r8) := H
        have A31 := Aside0.mk A310; clear A310; have HC32 := Aside0.mk H; clear H
        go_upto_if 63 with (first | ((with_reducible refine gate_callee (f := 44) rfl ?_); refine goesL_ (some 44) rfl rfl Tryd.func44 (by kernel_rfl) rfl #[.string x0_18, .string (⟨#[58]⟩ : ByteArray)] rfl z39_ ?_; (with_reducible refine (strings_Cut.calls x0_18 (⟨#[58]⟩ : ByteArray) t138 t139 true _ ?gw44_ A27.out).mono ?_); (case gw44_ => exact z6_); rintro e w' ⟨rfl, ⟨nd, rfl⟩⟩; refine ⟨_, rfl, ?_⟩; (try (rw [drewN_self wc]; generalize hq_ : World.drewN wc _ = wc; have n0_ : Aside0 (wc.heap[gb129]? = some (.cells #[.int .i64 0, .string (⟨#[]⟩ : ByteArray), .bool false, .string (⟨#[]⟩ : ByteArray), .int .i64 0, .string (⟨#[]⟩ : ByteArray), .string (⟨#[]⟩ : ByteArray)] 23 (0, 0))) := ⟨z37_⟩; have n1_ : Aside0 (wc.heap[gb130]? = some (.cells #[.int .i64 4, .string x131001_11, .bool false, .string (⟨#[]⟩ : ByteArray), .int .i64 0, .string x131005_18, .string (⟨#[]⟩ : ByteArray)] 23 (0, 0))) := ⟨z38_⟩; have n2_ : Aside0 (Below w.heap.size w wc) := ⟨z18_⟩; clear BK129 BK130 HB hq_; have BK129 := n0_; have BK130 := n1_; have HB := n2_; clear n0_ n1_ n2_))) | ((with_reducible refine gate_callee (f := 23) rfl ?_); refine goesL_ (some 50) rfl rfl Tryd.func23 (by kernel_rfl) rfl #[.string t138] rfl z39_ ?_; (with_reducible refine (ascii_Lower.calls t138 t141 _ ?gw45_ A28.out).mono ?_); (case gw45_ => exact z6_); rintro e w33 ⟨rfl, hb⟩; refine ⟨_, rfl, ?_⟩; have n0_ := Aside0.mk (blk_below (g := gb129) (o := .cells #[.int .i64 0, .string (⟨#[]⟩ : ByteArray), .bool false, .string (⟨#[]⟩ : ByteArray), .int .i64 0, .string (⟨#[]⟩ : ByteArray), .string (⟨#[]⟩ : ByteArray)] 23 (0, 0)) z52_ hb); have n1_ := Aside0.mk (blk_below (g := gb130) (o := .cells #[.int .i64 4, .string x131001_11, .bool false, .string (⟨#[]⟩ : ByteArray), .int .i64 0, .string x131005_18, .string (⟨#[]⟩ : ByteArray)] 23 (0, 0)) z53_ hb); have n2_ := Aside0.mk (below_step z21_ hb); clear BK129; clear BK130; clear HB; have BK129 := n0_; have BK130 := n1_; have HB := n2_; clear n0_ n1_ n2_; (try clear hb); (try clear hb2); (try clear hk); (try clear hi)) | ((with_reducible refine gate_callee (f := 45) rfl ?_); refine goesL_ (some 51) rfl rfl Tryd.func45 (by kernel_rfl) rfl #[.string t141, .string (⟨#[42, 46]⟩ : ByteArray)] rfl z39_ ?_; (with_reducible refine (strings_CutPrefix.calls t141 (⟨#[42, 46]⟩ : ByteArray) t142 t143 _ ?gw46_ A29.out).mono ?_); (case gw46_ => exact z6_); rintro e w' ⟨rfl, ⟨nd, rfl⟩⟩; refine ⟨_, rfl, ?_⟩; (try (rw [drewN_self w33]; generalize hq_ : World.drewN w33 _ = w33; have n0_ : Aside0 (w33.heap[gb129]? = some (.cells #[.int .i64 0, .string (⟨#[]⟩ : ByteArray), .bool false, .string (⟨#[]⟩ : ByteArray), .int .i64 0, .string (⟨#[]⟩ : ByteArray), .string (⟨#[]⟩ : ByteArray)] 23 (0, 0))) := ⟨z37_⟩; have n1_ : Aside0 (w33.heap[gb130]? = some (.cells #[.int .i64 4, .string x131001_11, .bool false, .string (⟨#[]⟩ : ByteArray), .int .i64 0, .string x131005_18, .string (⟨#[]⟩ : ByteArray)] 23 (0, 0))) := ⟨z38_⟩; have n2_ : Aside0 (Below w.heap.size w w33) := ⟨z18_⟩; clear BK129 BK130 HB hq_; have BK129 := n0_; have BK130 := n1_; have HB := n2_; clear n0_ n1_ n2_)); have hnb34 := NB130_129.out; have hnc34 := NB129_130.out; have hcz35_0 : w33.cell? ⟨gb130, 0, none⟩ = some (.int .i64 4) := (blk_cell BK130.out 0).trans rfl; have hcz35_1 : w33.cell? ⟨gb130, 1, none⟩ = some (.string x131001_11) := (blk_cell BK130.out 1).trans rfl; have hcz35_2 : w33.cell? ⟨gb130, 2, none⟩ = some (.bool false) := (blk_cell BK130.out 2).trans rfl; have hcz35_3 : w33.cell? ⟨gb130, 3, none⟩ = some (.string (⟨#[]⟩ : ByteArray)) := (blk_cell BK130.out 3).trans rfl; have hcz35_4 : w33.cell? ⟨gb130, 4, none⟩ = some (.int .i64 0) := (blk_cell BK130.out 4).trans rfl; have hcz35_5 : w33.cell? ⟨gb130, 5, none⟩ = some (.string x131005_18) := (blk_cell BK130.out 5).trans rfl; have hcz35_6 : w33.cell? ⟨gb130, 6, none⟩ = some (.string (⟨#[]⟩ : ByteArray)) := (blk_cell BK130.out 6).trans rfl; have hfz35_0 := blk_frozen BK130.out 0; have hfz35_1 := blk_frozen BK130.out 1; have hfz35_2 := blk_frozen BK130.out 2; have hfz35_3 := blk_frozen BK130.out 3; have hfz35_4 := blk_frozen BK130.out 4; have hfz35_5 := blk_frozen BK130.out 5; have hfz35_6 := blk_frozen BK130.out 6) | ((with_reducible refine gate_callee (f := 46) rfl ?_); refine goesL_ (some 59) rfl rfl Tryd.func46 (by kernel_rfl) rfl #[.string t139] rfl z39_ ?_; (with_reducible refine (host_Port.calls t139 t144 t145 _ ?gw47_ A31.out).mono ?_); (case gw47_ => exact z6_); rintro e w36 ⟨rfl, hb⟩; refine ⟨_, rfl, ?_⟩; have n0_ := Aside0.mk (blk_below (g := gb129) (o := .cells #[.int .i64 0, .string (⟨#[]⟩ : ByteArray), .bool false, .string (⟨#[]⟩ : ByteArray), .int .i64 0, .string (⟨#[]⟩ : ByteArray), .string (⟨#[]⟩ : ByteArray)] 23 (0, 0)) z15_ hb); have n1_ := Aside0.mk (blk_below (g := gb130) (o := .cells #[.int .i64 4, .string x131001_11, .bool t143, .string t142, .int .i64 0, .string x131005_18, .string (⟨#[]⟩ : ByteArray)] 23 (0, 0)) z13_ hb); have n2_ := Aside0.mk (below_step z21_ hb); clear BK129; clear BK130; clear HB; have BK129 := n0_; have BK130 := n1_; have HB := n2_; clear n0_ n1_ n2_; (try clear hb); (try clear hb2); (try clear hk); (try clear hi)))
        (try simp only [Act.put, List.setIfInBounds_toArray, List.set_cons_zero, List.set_cons_succ])
        go_cut [11, 12] (fun v11 v12 wc => ∃ (kq : Nat) (x11_31 : Int) (x12_31 : Bool), v11 = .int .i64 x11_31 ∧ v12 = .bool x12_31 ∧ Aside0 (source_hosted.j3 kq x11_31 x12_31 4 x131001_11 t143 t142 0 x131005_18 (⟨#[]⟩ : ByteArray) = some (r1, r2, r3, r4, r5, r6, r7, r8)) ∧ Aside0 (kq ≤ kj18) ∧ Aside0 (wc.heap[gb129]? = some (.cells #[.int .i64 0, .string (⟨#[]⟩ : ByteArray), .bool false, .string (⟨#[]⟩ : ByteArray), .int .i64 0, .string (⟨#[]⟩ : ByteArray), .string (⟨#[]⟩ : ByteArray)] 23 (0, 0))) ∧ Aside0 (wc.heap[gb130]? = some (.cells #[.int .i64 4, .string x131001_11, .bool t143, .string t142, .int .i64 0, .string x131005_18, .string (⟨#[]⟩ : ByteArray)] 23 (0, 0))) ∧ Aside0 (Below w.heap.size w wc))
        case first =>
         have H := HC32.out
         clear HC32
         by_cases c37 : t139.toList = ([42] : List UInt8)
         ·rw [if_pos c37] at H
          have c37b0 : (t139.toList == ([42] : List UInt8)) = true := beq_iff_eq.mpr c37
          have c37b1 : (t139.toList != ([42] : List UInt8)) = false := bne_eq_false_iff_eq.mpr c37
          clear c37
          (first | rw [c37b0] | (simp only [i64_w, i32_w]; rw [c37b0]) | skip)
          have H' := Aside0.mk H
          clear H; go_wp2; go_meet
          case rel => exact ⟨_, ((-1)), (true), z59_, z59_, H', ⟨by have := HJ2.out; have := HJ11.out; have := HJ18.out; first | omega | exact Nat.le_refl _⟩, ⟨z52_⟩, ⟨z53_⟩, ⟨z21_⟩⟩
         ·rw [if_neg c37] at H
          have c37b0 : (t139.toList == ([42] : List UInt8)) = false := beq_eq_false_iff_ne.mpr c37
          have c37b1 : (t139.toList != ([42] : List UInt8)) = true := bne_iff_ne.mpr c37
          (first | rw [c37b0] | (simp only [i64_w, i32_w]; rw [c37b0]) | skip)
          have H' := Aside0.mk H
          clear H; go_wp2; go_meet
          case rel => exact ⟨_, (t144), (t145), z59_, z59_, H', ⟨by have := HJ2.out; have := HJ11.out; have := HJ18.out; first | omega | exact Nat.le_refl _⟩, ⟨z52_⟩, ⟨z53_⟩, ⟨z21_⟩⟩
        case rest =>
         clear HC32; (try clear c30); (try clear hcz35_0 hcz35_1 hcz35_2 hcz35_3 hcz35_4 hcz35_5 hcz35_6); (try clear hcz7_0 hcz7_1 hcz7_2 hcz7_3 hcz7_4 hcz7_5 hcz7_6); (try clear hfz35_0 hfz35_1 hfz35_2 hfz35_3 hfz35_4 hfz35_5 hfz35_6); (try clear hfz7_0 hfz7_1 hfz7_2 hfz7_3 hfz7_4 hfz7_5 hfz7_6)
         obtain ⟨kq, x11_31, x12_31, rfl, rfl, HA, HJ31, BK129, BK130, HB⟩ := hcut
         cases kq with
         | zero => exact absurd HA.out (by simp [source_hosted.j3])
         | succ kj31 =>
          have H := HA.out
          clear HA
          simp only [source_hosted.j3] at H
          by_cases c38 : x12_31 = true
          ·subst c38
           have H1 : ((source_Good.f kj31 4 x131001_11 t143 t142 x11_31 x131005_18 (⟨#[]⟩ : ByteArray)).bind fun t146 => (if t146 = true then (some (4, x131001_11, t143, t142, x11_31, x131005_18, (⟨#[]⟩ : ByteArray), true)) else (some (0, (⟨#[]⟩ : ByteArray), false, (⟨#[]⟩ : ByteArray), 0, (⟨#[]⟩ : ByteArray), (⟨#[]⟩ : ByteArray), false)))) = some (r1, r2, r3, r4, r5, r6, r7, r8) := by rw [if_pos rfl] at H; exact H
           clear H
           have H := H1
           clear H1
           replace H := Option.bind_eq_some_iff.mp H
           obtain ⟨t146, A390, H⟩ := H
           replace H : (if t146 = true then (some (4, x131001_11, t143, t142, x11_31, x131005_18, (⟨#[]⟩ : ByteArray), true)) else (some (0, (⟨#[]⟩ : ByteArray), false, (⟨#[]⟩ : ByteArray), 0, (⟨#[]⟩ : ByteArray), (⟨#[]⟩ : ByteArray), false))) = some (r1, r2, r3, r4, r5, r6, r7, r8) := H
           have A39 := Aside0.mk A390; clear A390
           by_cases c40 : t146 = true
           ·subst c40
            have H1 : (some (4, x131001_11, t143, t142, x11_31, x131005_18, (⟨#[]⟩ : ByteArray), true)) = some (r1, r2, r3, r4, r5, r6, r7, r8) := by rw [if_pos rfl] at H; exact H
            clear H
            have H := H1
            clear H1
            simp only [Option.some.injEq, Prod.mk.injEq] at H
            obtain ⟨rfl, rfl, rfl, rfl, rfl, rfl, rfl, rfl⟩ := H
            have hnb41 := NB130_129.out; have hnc41 := NB129_130.out; obtain ⟨hcz42_0, hcz42_1, hcz42_2, hcz42_3, hcz42_4, hcz42_5, hcz42_6⟩ := blkc7_ BK130.out; obtain ⟨hfz42_0, hfz42_1, hfz42_2, hfz42_3, hfz42_4, hfz42_5, hfz42_6⟩ := blkf7_ BK130.out
            go_wp2_with (first | ((with_reducible refine gate_callee (f := 5) rfl ?_); refine goesL_ (some 70) rfl rfl Tryd.func5 (by kernel_rfl) rfl #[.agg #[.int .i64 4, .string x131001_11, .bool t143, .string t142, .int .i64 x11_31, .string x131005_18, .string (⟨#[]⟩ : ByteArray)]] rfl z39_ ?_; (with_reducible refine (source_Good.calls kj31 4 x131001_11 t143 t142 x11_31 x131005_18 (⟨#[]⟩ : ByteArray) true _ ?gw48_ A39.out).mono ?_); (case gw48_ => exact z6_); rintro e w43 ⟨rfl, hb⟩; refine ⟨_, rfl, ?_⟩; have n0_ := Aside0.mk (blk_below (g := gb129) (o := .cells #[.int .i64 0, .string (⟨#[]⟩ : ByteArray), .bool false, .string (⟨#[]⟩ : ByteArray), .int .i64 0, .string (⟨#[]⟩ : ByteArray), .string (⟨#[]⟩ : ByteArray)] 23 (0, 0)) z16_ hb); have n1_ := Aside0.mk (blk_below (g := gb130) (o := .cells #[.int .i64 4, .string x131001_11, .bool t143, .string t142, .int .i64 x11_31, .string x131005_18, .string (⟨#[]⟩ : ByteArray)] 23 (0, 0)) (by (with_reducible repeat (first | refine blk_drewN ?_ _ | refine blk_drew ?_ | refine blk_alloc ?_ _)); refine blk_put (cs := #[.int .i64 4, .string x131001_11, .bool t143, .string t142, .int .i64 0, .string x131005_18, .string (⟨#[]⟩ : ByteArray)]) ?_ 4 _ rfl; (with_reducible repeat (first | refine blk_drewN ?_ _ | refine blk_drew ?_ | refine blk_alloc ?_ _)); exact BK130.out) hb); have n2_ := Aside0.mk (below_step z21_ hb); clear BK129; clear BK130; clear HB; have BK129 := n0_; have BK130 := n1_; have HB := n2_; clear n0_ n1_ n2_; (try clear hb); (try clear hb2); (try clear hk); (try clear hi); have hcz44_0 : w43.cell? ⟨gb130, 0, none⟩ = some (.int .i64 4) := (blk_cell BK130.out 0).trans rfl; have hcz44_1 : w43.cell? ⟨gb130, 1, none⟩ = some (.string x131001_11) := (blk_cell BK130.out 1).trans rfl; have hcz44_2 : w43.cell? ⟨gb130, 2, none⟩ = some (.bool t143) := (blk_cell BK130.out 2).trans rfl; have hcz44_3 : w43.cell? ⟨gb130, 3, none⟩ = some (.string t142) := (blk_cell BK130.out 3).trans rfl; have hcz44_4 : w43.cell? ⟨gb130, 4, none⟩ = some (.int .i64 x11_31) := (blk_cell BK130.out 4).trans rfl; have hcz44_5 : w43.cell? ⟨gb130, 5, none⟩ = some (.string x131005_18) := (blk_cell BK130.out 5).trans rfl; have hcz44_6 : w43.cell? ⟨gb130, 6, none⟩ = some (.string (⟨#[]⟩ : ByteArray)) := (blk_cell BK130.out 6).trans rfl; have hfz44_0 := blk_frozen BK130.out 0; have hfz44_1 := blk_frozen BK130.out 1; have hfz44_2 := blk_frozen BK130.out 2; have hfz44_3 := blk_frozen BK130.out 3; have hfz44_4 := blk_frozen BK130.out 4; have hfz44_5 := blk_frozen BK130.out 5; have hfz44_6 := blk_frozen BK130.out 6; have hcz45_0 : w43.cell? ⟨gb129, 0, none⟩ = some (.int .i64 0) := (blk_cell BK129.out 0).trans rfl; have hcz45_1 : w43.cell? ⟨gb129, 1, none⟩ = some (.string (⟨#[]⟩ : ByteArray)) := (blk_cell BK129.out 1).trans rfl; have hcz45_2 : w43.cell? ⟨gb129, 2, none⟩ = some (.bool false) := (blk_cell BK129.out 2).trans rfl; have hcz45_3 : w43.cell? ⟨gb129, 3, none⟩ = some (.string (⟨#[]⟩ : ByteArray)) := (blk_cell BK129.out 3).trans rfl; have hcz45_4 : w43.cell? ⟨gb129, 4, none⟩ = some (.int .i64 0) := (blk_cell BK129.out 4).trans rfl; have hcz45_5 : w43.cell? ⟨gb129, 5, none⟩ = some (.string (⟨#[]⟩ : ByteArray)) := (blk_cell BK129.out 5).trans rfl; have hcz45_6 : w43.cell? ⟨gb129, 6, none⟩ = some (.string (⟨#[]⟩ : ByteArray)) := (blk_cell BK129.out 6).trans rfl; have hfz45_0 := blk_frozen BK129.out 0; have hfz45_1 := blk_frozen BK129.out 1; have hfz45_2 := blk_frozen BK129.out 2; have hfz45_3 := blk_frozen BK129.out 3; have hfz45_4 := blk_frozen BK129.out 4; have hfz45_5 := blk_frozen BK129.out 5; have hfz45_6 := blk_frozen BK129.out 6))
            refine bodyPost_ret (results_ct rfl _ _ gb129 23 #[.int .i64 4, .string x131001_11, .bool t143, .string t142, .int .i64 x11_31, .string x131005_18, .string (⟨#[]⟩ : ByteArray)] (0, 0) _ rfl (by (with_reducible repeat (first | refine blk_drewN ?_ _ | refine blk_drew ?_ | refine blk_alloc ?_ _)); refine blk_put (cs := #[.int .i64 4, .string x131001_11, .bool t143, .string t142, .int .i64 x11_31, .string x131005_18, .string (⟨#[]⟩ : ByteArray)]) ?_ 6 _ rfl; (with_reducible repeat (first | refine blk_drewN ?_ _ | refine blk_drew ?_ | refine blk_alloc ?_ _)); refine blk_put (cs := #[.int .i64 4, .string x131001_11, .bool t143, .string t142, .int .i64 x11_31, .string (⟨#[]⟩ : ByteArray), .string (⟨#[]⟩ : ByteArray)]) ?_ 5 _ rfl; (with_reducible repeat (first | refine blk_drewN ?_ _ | refine blk_drew ?_ | refine blk_alloc ?_ _)); refine blk_put (cs := #[.int .i64 4, .string x131001_11, .bool t143, .string t142, .int .i64 0, .string (⟨#[]⟩ : ByteArray), .string (⟨#[]⟩ : ByteArray)]) ?_ 4 _ rfl; (with_reducible repeat (first | refine blk_drewN ?_ _ | refine blk_drew ?_ | refine blk_alloc ?_ _)); refine blk_put (cs := #[.int .i64 4, .string x131001_11, .bool t143, .string (⟨#[]⟩ : ByteArray), .int .i64 0, .string (⟨#[]⟩ : ByteArray), .string (⟨#[]⟩ : ByteArray)]) ?_ 3 _ rfl; (with_reducible repeat (first | refine blk_drewN ?_ _ | refine blk_drew ?_ | refine blk_alloc ?_ _)); refine blk_put (cs := #[.int .i64 4, .string x131001_11, .bool false, .string (⟨#[]⟩ : ByteArray), .int .i64 0, .string (⟨#[]⟩ : ByteArray), .string (⟨#[]⟩ : ByteArray)]) ?_ 2 _ rfl; (with_reducible repeat (first | refine blk_drewN ?_ _ | refine blk_drew ?_ | refine blk_alloc ?_ _)); refine blk_put (cs := #[.int .i64 4, .string (⟨#[]⟩ : ByteArray), .bool false, .string (⟨#[]⟩ : ByteArray), .int .i64 0, .string (⟨#[]⟩ : ByteArray), .string (⟨#[]⟩ : ByteArray)]) ?_ 1 _ rfl; (with_reducible repeat (first | refine blk_drewN ?_ _ | refine blk_drew ?_ | refine blk_alloc ?_ _)); refine blk_put (cs := #[.int .i64 0, .string (⟨#[]⟩ : ByteArray), .bool false, .string (⟨#[]⟩ : ByteArray), .int .i64 0, .string (⟨#[]⟩ : ByteArray), .string (⟨#[]⟩ : ByteArray)]) ?_ 0 _ rfl; (with_reducible repeat (first | refine blk_drewN ?_ _ | refine blk_drew ?_ | refine blk_alloc ?_ _)); exact BK129.out) Tryd.underlying23 rfl (by kernel_rfl)) rfl ?_
            exact ⟨z41_, z21_⟩
           ·replace c40 := Bool.eq_false_iff.mpr c40
            subst c40
            have H1 : (some (0, (⟨#[]⟩ : ByteArray), false, (⟨#[]⟩ : ByteArray), 0, (⟨#[]⟩ : ByteArray), (⟨#[]⟩ : ByteArray), false)) = some (r1, r2, r3, r4, r5, r6, r7, r8) := by rw [if_neg (show ¬ (false = true) by decide)] at H; exact H
            clear H
            have H := H1
            clear H1
            simp only [Option.some.injEq, Prod.mk.injEq] at H
            obtain ⟨rfl, rfl, rfl, rfl, rfl, rfl, rfl, rfl⟩ := H
            have hnb46 := NB130_129.out; have hnc46 := NB129_130.out; obtain ⟨hcz47_0, hcz47_1, hcz47_2, hcz47_3, hcz47_4, hcz47_5, hcz47_6⟩ := blkc7_ BK130.out; obtain ⟨hfz47_0, hfz47_1, hfz47_2, hfz47_3, hfz47_4, hfz47_5, hfz47_6⟩ := blkf7_ BK130.out
            go_wp2_with (first | ((with_reducible refine gate_callee (f := 5) rfl ?_); refine goesL_ (some 70) rfl rfl Tryd.func5 (by kernel_rfl) rfl #[.agg #[.int .i64 4, .string x131001_11, .bool t143, .string t142, .int .i64 x11_31, .string x131005_18, .string (⟨#[]⟩ : ByteArray)]] rfl z39_ ?_; (with_reducible refine (source_Good.calls kj31 4 x131001_11 t143 t142 x11_31 x131005_18 (⟨#[]⟩ : ByteArray) false _ ?gw49_ A39.out).mono ?_); (case gw49_ => exact z6_); rintro e w48 ⟨rfl, hb⟩; refine ⟨_, rfl, ?_⟩; have n0_ := Aside0.mk (blk_below (g := gb129) (o := .cells #[.int .i64 0, .string (⟨#[]⟩ : ByteArray), .bool false, .string (⟨#[]⟩ : ByteArray), .int .i64 0, .string (⟨#[]⟩ : ByteArray), .string (⟨#[]⟩ : ByteArray)] 23 (0, 0)) z16_ hb); have n1_ := Aside0.mk (blk_below (g := gb130) (o := .cells #[.int .i64 4, .string x131001_11, .bool t143, .string t142, .int .i64 x11_31, .string x131005_18, .string (⟨#[]⟩ : ByteArray)] 23 (0, 0)) (by (with_reducible repeat (first | refine blk_drewN ?_ _ | refine blk_drew ?_ | refine blk_alloc ?_ _)); refine blk_put (cs := #[.int .i64 4, .string x131001_11, .bool t143, .string t142, .int .i64 0, .string x131005_18, .string (⟨#[]⟩ : ByteArray)]) ?_ 4 _ rfl; (with_reducible repeat (first | refine blk_drewN ?_ _ | refine blk_drew ?_ | refine blk_alloc ?_ _)); exact BK130.out) hb); have n2_ := Aside0.mk (below_step z21_ hb); clear BK129; clear BK130; clear HB; have BK129 := n0_; have BK130 := n1_; have HB := n2_; clear n0_ n1_ n2_; (try clear hb); (try clear hb2); (try clear hk); (try clear hi); have hcz49_0 : w48.cell? ⟨gb129, 0, none⟩ = some (.int .i64 0) := (blk_cell BK129.out 0).trans rfl; have hcz49_1 : w48.cell? ⟨gb129, 1, none⟩ = some (.string (⟨#[]⟩ : ByteArray)) := (blk_cell BK129.out 1).trans rfl; have hcz49_2 : w48.cell? ⟨gb129, 2, none⟩ = some (.bool false) := (blk_cell BK129.out 2).trans rfl; have hcz49_3 : w48.cell? ⟨gb129, 3, none⟩ = some (.string (⟨#[]⟩ : ByteArray)) := (blk_cell BK129.out 3).trans rfl; have hcz49_4 : w48.cell? ⟨gb129, 4, none⟩ = some (.int .i64 0) := (blk_cell BK129.out 4).trans rfl; have hcz49_5 : w48.cell? ⟨gb129, 5, none⟩ = some (.string (⟨#[]⟩ : ByteArray)) := (blk_cell BK129.out 5).trans rfl; have hcz49_6 : w48.cell? ⟨gb129, 6, none⟩ = some (.string (⟨#[]⟩ : ByteArray)) := (blk_cell BK129.out 6).trans rfl; have hfz49_0 := blk_frozen BK129.out 0; have hfz49_1 := blk_frozen BK129.out 1; have hfz49_2 := blk_frozen BK129.out 2; have hfz49_3 := blk_frozen BK129.out 3; have hfz49_4 := blk_frozen BK129.out 4; have hfz49_5 := blk_frozen BK129.out 5; have hfz49_6 := blk_frozen BK129.out 6))
            refine bodyPost_ret (results_ct rfl _ _ gb129 23 #[.int .i64 0, .string (⟨#[]⟩ : ByteArray), .bool false, .string (⟨#[]⟩ : ByteArray), .int .i64 0, .string (⟨#[]⟩ : ByteArray), .string (⟨#[]⟩ : ByteArray)] (0, 0) _ rfl z0_ Tryd.underlying23 rfl (by kernel_rfl)) rfl ?_
            exact ⟨z41_, z21_⟩
          ·replace c38 := Bool.eq_false_iff.mpr c38
           subst c38
           have H1 : (some (0, (⟨#[]⟩ : ByteArray), false, (⟨#[]⟩ : ByteArray), 0, (⟨#[]⟩ : ByteArray), (⟨#[]⟩ : ByteArray), false)) = some (r1, r2, r3, r4, r5, r6, r7, r8) := by rw [if_neg (show ¬ (false = true) by decide)] at H; exact H
           clear H
           have H := H1
           clear H1
           simp only [Option.some.injEq, Prod.mk.injEq] at H
           obtain ⟨rfl, rfl, rfl, rfl, rfl, rfl, rfl, rfl⟩ := H
           have hnb50 := NB129_130.out; have hnc50 := NB130_129.out; obtain ⟨hcz51_0, hcz51_1, hcz51_2, hcz51_3, hcz51_4, hcz51_5, hcz51_6⟩ := blkc7_ BK129.out; obtain ⟨hfz51_0, hfz51_1, hfz51_2, hfz51_3, hfz51_4, hfz51_5, hfz51_6⟩ := blkf7_ BK129.out; go_wp2
           refine bodyPost_ret (results_ct rfl _ _ gb129 23 #[.int .i64 0, .string (⟨#[]⟩ : ByteArray), .bool false, .string (⟨#[]⟩ : ByteArray), .int .i64 0, .string (⟨#[]⟩ : ByteArray), .string (⟨#[]⟩ : ByteArray)] (0, 0) _ rfl z0_ Tryd.underlying23 rfl (by kernel_rfl)) rfl ?_
           exact ⟨z41_, z21_⟩
       ·replace c30 := Bool.eq_false_iff.mpr c30
        subst c30
        have H1 : ((source_Good.f kj18 4 x131001_11 t143 t142 0 x131005_18 (⟨#[]⟩ : ByteArray)).bind fun t147 => (if t147 = true then (some (4, x131001_11, t143, t142, 0, x131005_18, (⟨#[]⟩ : ByteArray), true)) else (some (0, (⟨#[]⟩ : ByteArray), false, (⟨#[]⟩ : ByteArray), 0, (⟨#[]⟩ : ByteArray), (⟨#[]⟩ : ByteArray), false)))) = some (r1, r2, r3, r4, r5, r6, r7, r8) := by rw [if_neg (show ¬ (false = true) by decide)] at H; exact H
        clear H
        have H := H1
        clear H1
        replace H := Option.bind_eq_some_iff.mp H
        obtain ⟨t147, A520, H⟩ := H
        replace H : (if t147 = true then (some (4, x131001_11, t143, t142, 0, x131005_18, (⟨#[]⟩ : ByteArray), true)) else (some (0, (⟨#[]⟩ : ByteArray), false, (⟨#[]⟩ : ByteArray), 0, (⟨#[]⟩ : ByteArray), (⟨#[]⟩ : ByteArray), false))) = some (r1, r2, r3, r4, r5, r6, r7, r8) := H
        have A52 := Aside0.mk A520; clear A520
        by_cases c53 : t147 = true
        ·subst c53
         have H1 : (some (4, x131001_11, t143, t142, 0, x131005_18, (⟨#[]⟩ : ByteArray), true)) = some (r1, r2, r3, r4, r5, r6, r7, r8) := by rw [if_pos rfl] at H; exact H
         clear H
         have H := H1
         clear H1
         simp only [Option.some.injEq, Prod.mk.injEq] at H
         obtain ⟨rfl, rfl, rfl, rfl, rfl, rfl, rfl, rfl⟩ := H
         go_wp2_with (first | ((with_reducible refine gate_callee (f := 44) rfl ?_); refine goesL_ (some 44) rfl rfl Tryd.func44 (by kernel_rfl) rfl #[.string x0_18, .string (⟨#[58]⟩ : ByteArray)] rfl z39_ ?_; (with_reducible refine (strings_Cut.calls x0_18 (⟨#[58]⟩ : ByteArray) t138 t139 false _ ?gw50_ A27.out).mono ?_); (case gw50_ => exact z6_); rintro e w' ⟨rfl, ⟨nd, rfl⟩⟩; refine ⟨_, rfl, ?_⟩; (try (rw [drewN_self wc]; generalize hq_ : World.drewN wc _ = wc; have n0_ : Aside0 (wc.heap[gb129]? = some (.cells #[.int .i64 0, .string (⟨#[]⟩ : ByteArray), .bool false, .string (⟨#[]⟩ : ByteArray), .int .i64 0, .string (⟨#[]⟩ : ByteArray), .string (⟨#[]⟩ : ByteArray)] 23 (0, 0))) := ⟨z37_⟩; have n1_ : Aside0 (wc.heap[gb130]? = some (.cells #[.int .i64 4, .string x131001_11, .bool false, .string (⟨#[]⟩ : ByteArray), .int .i64 0, .string x131005_18, .string (⟨#[]⟩ : ByteArray)] 23 (0, 0))) := ⟨z38_⟩; have n2_ : Aside0 (Below w.heap.size w wc) := ⟨z18_⟩; clear BK129 BK130 HB hq_; have BK129 := n0_; have BK130 := n1_; have HB := n2_; clear n0_ n1_ n2_))) | ((with_reducible refine gate_callee (f := 23) rfl ?_); refine goesL_ (some 50) rfl rfl Tryd.func23 (by kernel_rfl) rfl #[.string t138] rfl z39_ ?_; (with_reducible refine (ascii_Lower.calls t138 t141 _ ?gw51_ A28.out).mono ?_); (case gw51_ => exact z6_); rintro e w54 ⟨rfl, hb⟩; refine ⟨_, rfl, ?_⟩; have n0_ := Aside0.mk (blk_below (g := gb129) (o := .cells #[.int .i64 0, .string (⟨#[]⟩ : ByteArray), .bool false, .string (⟨#[]⟩ : ByteArray), .int .i64 0, .string (⟨#[]⟩ : ByteArray), .string (⟨#[]⟩ : ByteArray)] 23 (0, 0)) z52_ hb); have n1_ := Aside0.mk (blk_below (g := gb130) (o := .cells #[.int .i64 4, .string x131001_11, .bool false, .string (⟨#[]⟩ : ByteArray), .int .i64 0, .string x131005_18, .string (⟨#[]⟩ : ByteArray)] 23 (0, 0)) z53_ hb); have n2_ := Aside0.mk (below_step z21_ hb); clear BK129; clear BK130; clear HB; have BK129 := n0_; have BK130 := n1_; have HB := n2_; clear n0_ n1_ n2_; (try clear hb); (try clear hb2); (try clear hk); (try clear hi)) | ((with_reducible refine gate_callee (f := 45) rfl ?_); refine goesL_ (some 51) rfl rfl Tryd.func45 (by kernel_rfl) rfl #[.string t141, .string (⟨#[42, 46]⟩ : ByteArray)] rfl z39_ ?_; (with_reducible refine (strings_CutPrefix.calls t141 (⟨#[42, 46]⟩ : ByteArray) t142 t143 _ ?gw52_ A29.out).mono ?_); (case gw52_ => exact z6_); rintro e w' ⟨rfl, ⟨nd, rfl⟩⟩; refine ⟨_, rfl, ?_⟩; (try (rw [drewN_self w54]; generalize hq_ : World.drewN w54 _ = w54; have n0_ : Aside0 (w54.heap[gb129]? = some (.cells #[.int .i64 0, .string (⟨#[]⟩ : ByteArray), .bool false, .string (⟨#[]⟩ : ByteArray), .int .i64 0, .string (⟨#[]⟩ : ByteArray), .string (⟨#[]⟩ : ByteArray)] 23 (0, 0))) := ⟨z37_⟩; have n1_ : Aside0 (w54.heap[gb130]? = some (.cells #[.int .i64 4, .string x131001_11, .bool false, .string (⟨#[]⟩ : ByteArray), .int .i64 0, .string x131005_18, .string (⟨#[]⟩ : ByteArray)] 23 (0, 0))) := ⟨z38_⟩; have n2_ : Aside0 (Below w.heap.size w w54) := ⟨z18_⟩; clear BK129 BK130 HB hq_; have BK129 := n0_; have BK130 := n1_; have HB := n2_; clear n0_ n1_ n2_)); have hnb55 := NB130_129.out; have hnc55 := NB129_130.out; have hcz56_0 : w54.cell? ⟨gb130, 0, none⟩ = some (.int .i64 4) := (blk_cell BK130.out 0).trans rfl; have hcz56_1 : w54.cell? ⟨gb130, 1, none⟩ = some (.string x131001_11) := (blk_cell BK130.out 1).trans rfl; have hcz56_2 : w54.cell? ⟨gb130, 2, none⟩ = some (.bool false) := (blk_cell BK130.out 2).trans rfl; have hcz56_3 : w54.cell? ⟨gb130, 3, none⟩ = some (.string (⟨#[]⟩ : ByteArray)) := (blk_cell BK130.out 3).trans rfl; have hcz56_4 : w54.cell? ⟨gb130, 4, none⟩ = some (.int .i64 0) := (blk_cell BK130.out 4).trans rfl; have hcz56_5 : w54.cell? ⟨gb130, 5, none⟩ = some (.string x131005_18) := (blk_cell BK130.out 5).trans rfl; have hcz56_6 : w54.cell? ⟨gb130, 6, none⟩ = some (.string (⟨#[]⟩ : ByteArray)) := (blk_cell BK130.out 6).trans rfl; have hfz56_0 := blk_frozen BK130.out 0; have hfz56_1 := blk_frozen BK130.out 1; have hfz56_2 := blk_frozen BK130.out 2; have hfz56_3 := blk_frozen BK130.out 3; have hfz56_4 := blk_frozen BK130.out 4; have hfz56_5 := blk_frozen BK130.out 5; have hfz56_6 := blk_frozen BK130.out 6) | ((with_reducible refine gate_callee (f := 5) rfl ?_); refine goesL_ (some 70) rfl rfl Tryd.func5 (by kernel_rfl) rfl #[.agg #[.int .i64 4, .string x131001_11, .bool t143, .string t142, .int .i64 0, .string x131005_18, .string (⟨#[]⟩ : ByteArray)]] rfl z39_ ?_; (with_reducible refine (source_Good.calls kj18 4 x131001_11 t143 t142 0 x131005_18 (⟨#[]⟩ : ByteArray) true _ ?gw53_ A52.out).mono ?_); (case gw53_ => exact z6_); rintro e w57 ⟨rfl, hb⟩; refine ⟨_, rfl, ?_⟩; have n0_ := Aside0.mk (blk_below (g := gb129) (o := .cells #[.int .i64 0, .string (⟨#[]⟩ : ByteArray), .bool false, .string (⟨#[]⟩ : ByteArray), .int .i64 0, .string (⟨#[]⟩ : ByteArray), .string (⟨#[]⟩ : ByteArray)] 23 (0, 0)) z15_ hb); have n1_ := Aside0.mk (blk_below (g := gb130) (o := .cells #[.int .i64 4, .string x131001_11, .bool t143, .string t142, .int .i64 0, .string x131005_18, .string (⟨#[]⟩ : ByteArray)] 23 (0, 0)) z13_ hb); have n2_ := Aside0.mk (below_step z21_ hb); clear BK129; clear BK130; clear HB; have BK129 := n0_; have BK130 := n1_; have HB := n2_; clear n0_ n1_ n2_; (try clear hb); (try clear hb2); (try clear hk); (try clear hi); have hcz58_0 : w57.cell? ⟨gb130, 0, none⟩ = some (.int .i64 4) := (blk_cell BK130.out 0).trans rfl; have hcz58_1 : w57.cell? ⟨gb130, 1, none⟩ = some (.string x131001_11) := (blk_cell BK130.out 1).trans rfl; have hcz58_2 : w57.cell? ⟨gb130, 2, none⟩ = some (.bool t143) := (blk_cell BK130.out 2).trans rfl; have hcz58_3 : w57.cell? ⟨gb130, 3, none⟩ = some (.string t142) := (blk_cell BK130.out 3).trans rfl; have hcz58_4 : w57.cell? ⟨gb130, 4, none⟩ = some (.int .i64 0) := (blk_cell BK130.out 4).trans rfl; have hcz58_5 : w57.cell? ⟨gb130, 5, none⟩ = some (.string x131005_18) := (blk_cell BK130.out 5).trans rfl; have hcz58_6 : w57.cell? ⟨gb130, 6, none⟩ = some (.string (⟨#[]⟩ : ByteArray)) := (blk_cell BK130.out 6).trans rfl; have hfz58_0 := blk_frozen BK130.out 0; have hfz58_1 := blk_frozen BK130.out 1; have hfz58_2 := blk_frozen BK130.out 2; have hfz58_3 := blk_frozen BK130.out 3; have hfz58_4 := blk_frozen BK130.out 4; have hfz58_5 := blk_frozen BK130.out 5; have hfz58_6 := blk_frozen BK130.out 6; have hcz59_0 : w57.cell? ⟨gb129, 0, none⟩ = some (.int .i64 0) := (blk_cell BK129.out 0).trans rfl; have hcz59_1 : w57.cell? ⟨gb129, 1, none⟩ = some (.string (⟨#[]⟩ : ByteArray)) := (blk_cell BK129.out 1).trans rfl; have hcz59_2 : w57.cell? ⟨gb129, 2, none⟩ = some (.bool false) := (blk_cell BK129.out 2).trans rfl; have hcz59_3 : w57.cell? ⟨gb129, 3, none⟩ = some (.string (⟨#[]⟩ : ByteArray)) := (blk_cell BK129.out 3).trans rfl; have hcz59_4 : w57.cell? ⟨gb129, 4, none⟩ = some (.int .i64 0) := (blk_cell BK129.out 4).trans rfl; have hcz59_5 : w57.cell? ⟨gb129, 5, none⟩ = some (.string (⟨#[]⟩ : ByteArray)) := (blk_cell BK129.out 5).trans rfl; have hcz59_6 : w57.cell? ⟨gb129, 6, none⟩ = some (.string (⟨#[]⟩ : ByteArray)) := (blk_cell BK129.out 6).trans rfl; have hfz59_0 := blk_frozen BK129.out 0; have hfz59_1 := blk_frozen BK129.out 1; have hfz59_2 := blk_frozen BK129.out 2; have hfz59_3 := blk_frozen BK129.out 3; have hfz59_4 := blk_frozen BK129.out 4; have hfz59_5 := blk_frozen BK129.out 5; have hfz59_6 := blk_frozen BK129.out 6))
         refine bodyPost_ret (results_ct rfl _ _ gb129 23 #[.int .i64 4, .string x131001_11, .bool t143, .string t142, .int .i64 0, .string x131005_18, .string (⟨#[]⟩ : ByteArray)] (0, 0) _ rfl (by (with_reducible repeat (first | refine blk_drewN ?_ _ | refine blk_drew ?_ | refine blk_alloc ?_ _)); refine blk_put (cs := #[.int .i64 4, .string x131001_11, .bool t143, .string t142, .int .i64 0, .string x131005_18, .string (⟨#[]⟩ : ByteArray)]) ?_ 6 _ rfl; (with_reducible repeat (first | refine blk_drewN ?_ _ | refine blk_drew ?_ | refine blk_alloc ?_ _)); refine blk_put (cs := #[.int .i64 4, .string x131001_11, .bool t143, .string t142, .int .i64 0, .string (⟨#[]⟩ : ByteArray), .string (⟨#[]⟩ : ByteArray)]) ?_ 5 _ rfl; (with_reducible repeat (first | refine blk_drewN ?_ _ | refine blk_drew ?_ | refine blk_alloc ?_ _)); refine blk_put (cs := #[.int .i64 4, .string x131001_11, .bool t143, .string t142, .int .i64 0, .string (⟨#[]⟩ : ByteArray), .string (⟨#[]⟩ : ByteArray)]) ?_ 4 _ rfl; (with_reducible repeat (first | refine blk_drewN ?_ _ | refine blk_drew ?_ | refine blk_alloc ?_ _)); refine blk_put (cs := #[.int .i64 4, .string x131001_11, .bool t143, .string (⟨#[]⟩ : ByteArray), .int .i64 0, .string (⟨#[]⟩ : ByteArray), .string (⟨#[]⟩ : ByteArray)]) ?_ 3 _ rfl; (with_reducible repeat (first | refine blk_drewN ?_ _ | refine blk_drew ?_ | refine blk_alloc ?_ _)); refine blk_put (cs := #[.int .i64 4, .string x131001_11, .bool false, .string (⟨#[]⟩ : ByteArray), .int .i64 0, .string (⟨#[]⟩ : ByteArray), .string (⟨#[]⟩ : ByteArray)]) ?_ 2 _ rfl; (with_reducible repeat (first | refine blk_drewN ?_ _ | refine blk_drew ?_ | refine blk_alloc ?_ _)); refine blk_put (cs := #[.int .i64 4, .string (⟨#[]⟩ : ByteArray), .bool false, .string (⟨#[]⟩ : ByteArray), .int .i64 0, .string (⟨#[]⟩ : ByteArray), .string (⟨#[]⟩ : ByteArray)]) ?_ 1 _ rfl; (with_reducible repeat (first | refine blk_drewN ?_ _ | refine blk_drew ?_ | refine blk_alloc ?_ _)); refine blk_put (cs := #[.int .i64 0, .string (⟨#[]⟩ : ByteArray), .bool false, .string (⟨#[]⟩ : ByteArray), .int .i64 0, .string (⟨#[]⟩ : ByteArray), .string (⟨#[]⟩ : ByteArray)]) ?_ 0 _ rfl; (with_reducible repeat (first | refine blk_drewN ?_ _ | refine blk_drew ?_ | refine blk_alloc ?_ _)); exact BK129.out) Tryd.underlying23 rfl (by kernel_rfl)) rfl ?_
         exact ⟨z41_, z21_⟩
        ·replace c53 := Bool.eq_false_iff.mpr c53
         subst c53
         have H1 : (some (0, (⟨#[]⟩ : ByteArray), false, (⟨#[]⟩ : ByteArray), 0, (⟨#[]⟩ : ByteArray), (⟨#[]⟩ : ByteArray), false)) = some (r1, r2, r3, r4, r5, r6, r7, r8) := by rw [if_neg (show ¬ (false = true) by decide)] at H; exact H
         clear H
         have H := H1
         clear H1
         simp only [Option.some.injEq, Prod.mk.injEq] at H
         obtain ⟨rfl, rfl, rfl, rfl, rfl, rfl, rfl, rfl⟩ := H
         go_wp2_with (first | ((with_reducible refine gate_callee (f := 44) rfl ?_); refine goesL_ (some 44) rfl rfl Tryd.func44 (by kernel_rfl) rfl #[.string x0_18, .string (⟨#[58]⟩ : ByteArray)] rfl z39_ ?_; (with_reducible refine (strings_Cut.calls x0_18 (⟨#[58]⟩ : ByteArray) t138 t139 false _ ?gw54_ A27.out).mono ?_); (case gw54_ => exact z6_); rintro e w' ⟨rfl, ⟨nd, rfl⟩⟩; refine ⟨_, rfl, ?_⟩; (try (rw [drewN_self wc]; generalize hq_ : World.drewN wc _ = wc; have n0_ : Aside0 (wc.heap[gb129]? = some (.cells #[.int .i64 0, .string (⟨#[]⟩ : ByteArray), .bool false, .string (⟨#[]⟩ : ByteArray), .int .i64 0, .string (⟨#[]⟩ : ByteArray), .string (⟨#[]⟩ : ByteArray)] 23 (0, 0))) := ⟨z37_⟩; have n1_ : Aside0 (wc.heap[gb130]? = some (.cells #[.int .i64 4, .string x131001_11, .bool false, .string (⟨#[]⟩ : ByteArray), .int .i64 0, .string x131005_18, .string (⟨#[]⟩ : ByteArray)] 23 (0, 0))) := ⟨z38_⟩; have n2_ : Aside0 (Below w.heap.size w wc) := ⟨z18_⟩; clear BK129 BK130 HB hq_; have BK129 := n0_; have BK130 := n1_; have HB := n2_; clear n0_ n1_ n2_))) | ((with_reducible refine gate_callee (f := 23) rfl ?_); refine goesL_ (some 50) rfl rfl Tryd.func23 (by kernel_rfl) rfl #[.string t138] rfl z39_ ?_; (with_reducible refine (ascii_Lower.calls t138 t141 _ ?gw55_ A28.out).mono ?_); (case gw55_ => exact z6_); rintro e w60 ⟨rfl, hb⟩; refine ⟨_, rfl, ?_⟩; have n0_ := Aside0.mk (blk_below (g := gb129) (o := .cells #[.int .i64 0, .string (⟨#[]⟩ : ByteArray), .bool false, .string (⟨#[]⟩ : ByteArray), .int .i64 0, .string (⟨#[]⟩ : ByteArray), .string (⟨#[]⟩ : ByteArray)] 23 (0, 0)) z52_ hb); have n1_ := Aside0.mk (blk_below (g := gb130) (o := .cells #[.int .i64 4, .string x131001_11, .bool false, .string (⟨#[]⟩ : ByteArray), .int .i64 0, .string x131005_18, .string (⟨#[]⟩ : ByteArray)] 23 (0, 0)) z53_ hb); have n2_ := Aside0.mk (below_step z21_ hb); clear BK129; clear BK130; clear HB; have BK129 := n0_; have BK130 := n1_; have HB := n2_; clear n0_ n1_ n2_; (try clear hb); (try clear hb2); (try clear hk); (try clear hi)) | ((with_reducible refine gate_callee (f := 45) rfl ?_); refine goesL_ (some 51) rfl rfl Tryd.func45 (by kernel_rfl) rfl #[.string t141, .string (⟨#[42, 46]⟩ : ByteArray)] rfl z39_ ?_; (with_reducible refine (strings_CutPrefix.calls t141 (⟨#[42, 46]⟩ : ByteArray) t142 t143 _ ?gw56_ A29.out).mono ?_); (case gw56_ => exact z6_); rintro e w' ⟨rfl, ⟨nd, rfl⟩⟩; refine ⟨_, rfl, ?_⟩; (try (rw [drewN_self w60]; generalize hq_ : World.drewN w60 _ = w60; have n0_ : Aside0 (w60.heap[gb129]? = some (.cells #[.int .i64 0, .string (⟨#[]⟩ : ByteArray), .bool false, .string (⟨#[]⟩ : ByteArray), .int .i64 0, .string (⟨#[]⟩ : ByteArray), .string (⟨#[]⟩ : ByteArray)] 23 (0, 0))) := ⟨z37_⟩; have n1_ : Aside0 (w60.heap[gb130]? = some (.cells #[.int .i64 4, .string x131001_11, .bool false, .string (⟨#[]⟩ : ByteArray), .int .i64 0, .string x131005_18, .string (⟨#[]⟩ : ByteArray)] 23 (0, 0))) := ⟨z38_⟩; have n2_ : Aside0 (Below w.heap.size w w60) := ⟨z18_⟩; clear BK129 BK130 HB hq_; have BK129 := n0_; have BK130 := n1_; have HB := n2_; clear n0_ n1_ n2_)); have hnb61 := NB130_129.out; have hnc61 := NB129_130.out; have hcz62_0 : w60.cell? ⟨gb130, 0, none⟩ = some (.int .i64 4) := (blk_cell BK130.out 0).trans rfl; have hcz62_1 : w60.cell? ⟨gb130, 1, none⟩ = some (.string x131001_11) := (blk_cell BK130.out 1).trans rfl; have hcz62_2 : w60.cell? ⟨gb130, 2, none⟩ = some (.bool false) := (blk_cell BK130.out 2).trans rfl; have hcz62_3 : w60.cell? ⟨gb130, 3, none⟩ = some (.string (⟨#[]⟩ : ByteArray)) := (blk_cell BK130.out 3).trans rfl; have hcz62_4 : w60.cell? ⟨gb130, 4, none⟩ = some (.int .i64 0) := (blk_cell BK130.out 4).trans rfl; have hcz62_5 : w60.cell? ⟨gb130, 5, none⟩ = some (.string x131005_18) := (blk_cell BK130.out 5).trans rfl; have hcz62_6 : w60.cell? ⟨gb130, 6, none⟩ = some (.string (⟨#[]⟩ : ByteArray)) := (blk_cell BK130.out 6).trans rfl; have hfz62_0 := blk_frozen BK130.out 0; have hfz62_1 := blk_frozen BK130.out 1; have hfz62_2 := blk_frozen BK130.out 2; have hfz62_3 := blk_frozen BK130.out 3; have hfz62_4 := blk_frozen BK130.out 4; have hfz62_5 := blk_frozen BK130.out 5; have hfz62_6 := blk_frozen BK130.out 6) | ((with_reducible refine gate_callee (f := 5) rfl ?_); refine goesL_ (some 70) rfl rfl Tryd.func5 (by kernel_rfl) rfl #[.agg #[.int .i64 4, .string x131001_11, .bool t143, .string t142, .int .i64 0, .string x131005_18, .string (⟨#[]⟩ : ByteArray)]] rfl z39_ ?_; (with_reducible refine (source_Good.calls kj18 4 x131001_11 t143 t142 0 x131005_18 (⟨#[]⟩ : ByteArray) false _ ?gw57_ A52.out).mono ?_); (case gw57_ => exact z6_); rintro e w63 ⟨rfl, hb⟩; refine ⟨_, rfl, ?_⟩; have n0_ := Aside0.mk (blk_below (g := gb129) (o := .cells #[.int .i64 0, .string (⟨#[]⟩ : ByteArray), .bool false, .string (⟨#[]⟩ : ByteArray), .int .i64 0, .string (⟨#[]⟩ : ByteArray), .string (⟨#[]⟩ : ByteArray)] 23 (0, 0)) z15_ hb); have n1_ := Aside0.mk (blk_below (g := gb130) (o := .cells #[.int .i64 4, .string x131001_11, .bool t143, .string t142, .int .i64 0, .string x131005_18, .string (⟨#[]⟩ : ByteArray)] 23 (0, 0)) z13_ hb); have n2_ := Aside0.mk (below_step z21_ hb); clear BK129; clear BK130; clear HB; have BK129 := n0_; have BK130 := n1_; have HB := n2_; clear n0_ n1_ n2_; (try clear hb); (try clear hb2); (try clear hk); (try clear hi); have hcz64_0 : w63.cell? ⟨gb129, 0, none⟩ = some (.int .i64 0) := (blk_cell BK129.out 0).trans rfl; have hcz64_1 : w63.cell? ⟨gb129, 1, none⟩ = some (.string (⟨#[]⟩ : ByteArray)) := (blk_cell BK129.out 1).trans rfl; have hcz64_2 : w63.cell? ⟨gb129, 2, none⟩ = some (.bool false) := (blk_cell BK129.out 2).trans rfl; have hcz64_3 : w63.cell? ⟨gb129, 3, none⟩ = some (.string (⟨#[]⟩ : ByteArray)) := (blk_cell BK129.out 3).trans rfl; have hcz64_4 : w63.cell? ⟨gb129, 4, none⟩ = some (.int .i64 0) := (blk_cell BK129.out 4).trans rfl; have hcz64_5 : w63.cell? ⟨gb129, 5, none⟩ = some (.string (⟨#[]⟩ : ByteArray)) := (blk_cell BK129.out 5).trans rfl; have hcz64_6 : w63.cell? ⟨gb129, 6, none⟩ = some (.string (⟨#[]⟩ : ByteArray)) := (blk_cell BK129.out 6).trans rfl; have hfz64_0 := blk_frozen BK129.out 0; have hfz64_1 := blk_frozen BK129.out 1; have hfz64_2 := blk_frozen BK129.out 2; have hfz64_3 := blk_frozen BK129.out 3; have hfz64_4 := blk_frozen BK129.out 4; have hfz64_5 := blk_frozen BK129.out 5; have hfz64_6 := blk_frozen BK129.out 6))
         refine bodyPost_ret (results_ct rfl _ _ gb129 23 #[.int .i64 0, .string (⟨#[]⟩ : ByteArray), .bool false, .string (⟨#[]⟩ : ByteArray), .int .i64 0, .string (⟨#[]⟩ : ByteArray), .string (⟨#[]⟩ : ByteArray)] (0, 0) _ rfl z0_ Tryd.underlying23 rfl (by kernel_rfl)) rfl ?_
         exact ⟨z41_, z21_⟩

def pursuivantref11_path.l0 : Nat → ByteArray → Int → Option (Bool)
 | 0, _, _ => none
 | k + 1, x0, x3 => if x3 < (x0.size : Int) then (if 0 ≤ x3 then (if x3 ≤ (wrap64 (x3 + 1)) then (if (wrap64 (x3 + 1)) ≤ (x0.size : Int) then (if 1 + (x0.extract (x3 : Int).toNat ((wrap64 (x3 + 1)) : Int).toNat).size ≤ 9223372036854775807 then ((pursuivantref06_Good.f k (⟨#[104, 116, 116, 112]⟩ : ByteArray) (⟨#[]⟩ : ByteArray) (⟨#[97]⟩ : ByteArray) 0 ((⟨#[47]⟩ : ByteArray) ++ (x0.extract (x3 : Int).toNat ((wrap64 (x3 + 1)) : Int).toNat)) false (⟨#[]⟩ : ByteArray) false (⟨#[]⟩ : ByteArray)).bind fun t148 => (if t148 = true then (pursuivantref11_path.l0 k x0 (wrap64 (x3 + 1))) else (some false))) else (none)) else (none)) else (none)) else (none)) else (if x0.toList = ([] : List UInt8) then (some false) else (if 0 < (x0.size : Int) then (some ((bt x0 0) == 47)) else (none)))
def pursuivantref11_path.f (k : Nat) (a0 : ByteArray) : Option (Bool) := pursuivantref11_path.l0 k a0 0
theorem pursuivantref11_path.mono_l : ∀ k, (∀ y0 y1, LeO (pursuivantref11_path.l0 k y0 y1) (pursuivantref11_path.l0 (k + 1) y0 y1))
 | 0 => fun _ _ r h => by simp [pursuivantref11_path.l0] at h
 | k + 1 => by
  have ih0 := pursuivantref11_path.mono_l k
  ·intro y0 y1
   unfold pursuivantref11_path.l0
   repeat' first
   | (with_reducible exact ih0 _ _)
   | (with_reducible exact pursuivantref06_Good.mono _ _ _ _ _ _ _ _ _ _)
   | (with_reducible exact LeO.refl _)
   | (with_reducible exact LeO.none _)
   | (with_reducible refine LeO.ite ?_ ?_)
   | (with_reducible refine LeO.bind ?_ (fun _ => ?_))
   | exact ih0 _ _
   | exact pursuivantref06_Good.mono _ _ _ _ _ _ _ _ _ _
   | exact LeO.none _
   | refine LeO.ite ?_ ?_
   | refine LeO.bind ?_ (fun _ => ?_)
theorem pursuivantref11_path.mono : ∀ a0 k, LeO (pursuivantref11_path.f k a0) (pursuivantref11_path.f (k + 1) a0) := by
 intro a0 k
 have ih0 := pursuivantref11_path.mono_l k
 unfold pursuivantref11_path.f
 repeat' first
   | (with_reducible exact ih0 _ _)
   | (with_reducible exact pursuivantref06_Good.mono _ _ _ _ _ _ _ _ _ _)
   | (with_reducible exact LeO.refl _)
   | (with_reducible exact LeO.none _)
   | (with_reducible refine LeO.ite ?_ ?_)
   | (with_reducible refine LeO.bind ?_ (fun _ => ?_))
   | exact ih0 _ _
   | exact pursuivantref06_Good.mono _ _ _ _ _ _ _ _ _ _
   | exact LeO.none _
   | refine LeO.ite ?_ ?_
   | refine LeO.bind ?_ (fun _ => ?_)
set_option maxHeartbeats 8000000 in
set_option maxRecDepth 100000 in
theorem pursuivantref11_path.calls (k : Nat) (a0 : ByteArray) (r : Bool) (w : World) (hG_ : GW w) (h : pursuivantref11_path.f k a0 = some r) :
  Calls Tryd.prog 20 #[.string a0] w fun e w' => e = .returned (.bool r) ∧ Below w.heap.size w w' := by
 have hu31 := Tryd.underlying31
 have HB := Aside0.mk (Below.refl w.heap.size w)
 have H : (pursuivantref11_path.l0 k a0 0) = some r := h
 clear h
 have H' := Aside0.mk H
 clear H
 go_enter Tryd.func20, Tryd.ntmps20
 go_wp2
 go_loopg [3] k (fun kq v3 w' => ∃ (x3_1 : Int), v3 = .int .i64 x3_1 ∧ Aside0 (pursuivantref11_path.l0 kq a0 x3_1 = some r) ∧ Aside0 (kq ≤ k) ∧ Aside0 (Below w.heap.size w w'))
 case atStart => exact ⟨(0), z59_, H', ⟨Nat.le_refl _⟩, ⟨z40_⟩⟩
 case round =>
  clear H'
  obtain ⟨x3_1, rfl, HA, HK1, HB⟩ := hrel
  cases gk with
  | zero => exact absurd HA.out (by simp [pursuivantref11_path.l0])
  | succ k1 =>
   have H := HA.out
   clear HA
   simp only [pursuivantref11_path.l0] at H
   by_cases c2 : x3_1 < (a0.size : Int)
   ·rw [if_pos c2] at H
    have c2b0 : decide (x3_1 < (a0.size : Int)) = true := decide_eq_true c2; clear c2
    by_cases c3 : 0 ≤ x3_1
    ·rw [if_pos c3] at H
     have c3b0 := eq_true c3; have c3b1 : decide (0 ≤ x3_1) = true := decide_eq_true c3; clear c3
     by_cases c4 : x3_1 ≤ (wrap64 (x3_1 + 1))
     ·rw [if_pos c4] at H
      have c4b0 := eq_true c4; have c4b1 : decide (x3_1 ≤ (wrap64 (x3_1 + 1))) = true := decide_eq_true c4
      by_cases c5 : (wrap64 (x3_1 + 1)) ≤ (a0.size : Int)
      ·rw [if_pos c5] at H
       have c5b0 := eq_true c5; have c5b1 : decide ((wrap64 (x3_1 + 1)) ≤ (a0.size : Int)) = true := decide_eq_true c5
       by_cases c6 : 1 + (a0.extract (x3_1 : Int).toNat ((wrap64 (x3_1 + 1)) : Int).toNat).size ≤ 9223372036854775807
       ·rw [if_pos c6] at H
        have c6b0 := eq_true c6; have c6b1 : decide (1 + (a0.extract (x3_1 : Int).toNat ((wrap64 (x3_1 + 1)) : Int).toNat).size ≤ 9223372036854775807) = true := decide_eq_true c6
        try have c6b2 : (9223372036854775807 < 1 + (a0.extract (x3_1 : Int).toNat ((wrap64 (x3_1 + 1)) : Int).toNat).size) = False := eq_false (Nat.not_lt.2 c6)
        try have c6c0 : (9223372036854775807 ≤ (a0.extract (x3_1 : Int).toNat ((wrap64 (x3_1 + 1)) : Int).toNat).size) = False := eq_false (by omega)
        try have c6c1 : ((a0.extract (x3_1 : Int).toNat ((wrap64 (x3_1 + 1)) : Int).toNat).size < 9223372036854775807) = True := eq_true (by omega)
        try (have c6s0 := c6b2; simp only [ByteArray.size_extract, Nat.min_self] at c6s0)
        try (have c6s1 := c6c0; simp only [ByteArray.size_extract, Nat.min_self] at c6s1)
        try (have c6s2 := c6c1; simp only [ByteArray.size_extract, Nat.min_self] at c6s2)
        try (have c6t0 := c6b2; simp only [ByteArray.size_extract, Nat.min_eq_left (show ((wrap64 (x3_1 + 1)) : Int).toNat ≤ a0.size by omega)] at c6t0)
        try (have c6t1 := c6c0; simp only [ByteArray.size_extract, Nat.min_eq_left (show ((wrap64 (x3_1 + 1)) : Int).toNat ≤ a0.size by omega)] at c6t1)
        try (have c6t2 := c6c1; simp only [ByteArray.size_extract, Nat.min_eq_left (show ((wrap64 (x3_1 + 1)) : Int).toNat ≤ a0.size by omega)] at c6t2)
        replace H := Option.bind_eq_some_iff.mp H
        obtain ⟨t148, A70, H⟩ := H
        replace H : (if t148 = true then (pursuivantref11_path.l0 k1 a0 (wrap64 (x3_1 + 1))) else (some false)) = some r := H
        have A7 := Aside0.mk A70; clear A70
        by_cases c8 : t148 = true
        ·subst c8
         have H1 : (pursuivantref11_path.l0 k1 a0 (wrap64 (x3_1 + 1))) = some r := by rw [if_pos rfl] at H; exact H
         clear H
         have H := H1
         clear H1
         have H' := Aside0.mk H
         clear H
         go_wp2_with (first | ((with_reducible refine gate_callee (f := 38) rfl ?_); refine goesL_ (some 17) rfl rfl Tryd.func38 (by kernel_rfl) rfl #[.agg #[.string (⟨#[104, 116, 116, 112]⟩ : ByteArray), .string (⟨#[]⟩ : ByteArray), .string (⟨#[97]⟩ : ByteArray), .int .i64 0, .string ((⟨#[47]⟩ : ByteArray) ++ (a0.extract (x3_1 : Int).toNat ((wrap64 (x3_1 + 1)) : Int).toNat)), .bool false, .string (⟨#[]⟩ : ByteArray), .bool false, .string (⟨#[]⟩ : ByteArray)]] rfl z39_ ?_; (with_reducible refine (pursuivantref06_Good.calls k1 (⟨#[104, 116, 116, 112]⟩ : ByteArray) (⟨#[]⟩ : ByteArray) (⟨#[97]⟩ : ByteArray) 0 ((⟨#[47]⟩ : ByteArray) ++ (a0.extract (x3_1 : Int).toNat ((wrap64 (x3_1 + 1)) : Int).toNat)) false (⟨#[]⟩ : ByteArray) false (⟨#[]⟩ : ByteArray) true _ ?gw58_ A7.out).mono ?_); (case gw58_ => exact z14_); rintro e w9 ⟨rfl, hb⟩; refine ⟨_, rfl, ?_⟩; have n0_ := Aside0.mk (below_step z40_ hb); clear HB; have HB := n0_; clear n0_; (try clear hb); (try clear hb2); (try clear hk); (try clear hi)))
         go_roundg k1
         case measure => have := HK1.out; omega
         case rel => exact ⟨(wrap64 (x3_1 + 1)), z59_, H', ⟨z66_⟩, ⟨z40_⟩⟩
        ·replace c8 := Bool.eq_false_iff.mpr c8
         subst c8
         have H1 : (some false) = some r := by rw [if_neg (show ¬ (false = true) by decide)] at H; exact H
         clear H
         have H := H1
         clear H1
         obtain rfl := Option.some.inj H
         go_wp2_with (first | ((with_reducible refine gate_callee (f := 38) rfl ?_); refine goesL_ (some 17) rfl rfl Tryd.func38 (by kernel_rfl) rfl #[.agg #[.string (⟨#[104, 116, 116, 112]⟩ : ByteArray), .string (⟨#[]⟩ : ByteArray), .string (⟨#[97]⟩ : ByteArray), .int .i64 0, .string ((⟨#[47]⟩ : ByteArray) ++ (a0.extract (x3_1 : Int).toNat ((wrap64 (x3_1 + 1)) : Int).toNat)), .bool false, .string (⟨#[]⟩ : ByteArray), .bool false, .string (⟨#[]⟩ : ByteArray)]] rfl z39_ ?_; (with_reducible refine (pursuivantref06_Good.calls k1 (⟨#[104, 116, 116, 112]⟩ : ByteArray) (⟨#[]⟩ : ByteArray) (⟨#[97]⟩ : ByteArray) 0 ((⟨#[47]⟩ : ByteArray) ++ (a0.extract (x3_1 : Int).toNat ((wrap64 (x3_1 + 1)) : Int).toNat)) false (⟨#[]⟩ : ByteArray) false (⟨#[]⟩ : ByteArray) false _ ?gw59_ A7.out).mono ?_); (case gw59_ => exact z14_); rintro e w10 ⟨rfl, hb⟩; refine ⟨_, rfl, ?_⟩; have n0_ := Aside0.mk (below_step z40_ hb); clear HB; have HB := n0_; clear n0_; (try clear hb); (try clear hb2); (try clear hk); (try clear hi)))
         go_ret
         exact ⟨z41_, z40_⟩
       ·rw [if_neg c6] at H
        exact absurd H (by simp)
      ·rw [if_neg c5] at H
       exact absurd H (by simp)
     ·rw [if_neg c4] at H
      exact absurd H (by simp)
    ·rw [if_neg c3] at H
     exact absurd H (by simp)
   ·rw [if_neg c2] at H
    have c2b0 : decide (x3_1 < (a0.size : Int)) = false := decide_eq_false c2; clear c2
    by_cases c11 : a0.toList = ([] : List UInt8)
    ·rw [if_pos c11] at H
     have c11b0 : (a0.toList == ([] : List UInt8)) = true := beq_iff_eq.mpr c11
     try have c11e0 : a0.toList.isEmpty = true := by rw [← nil_beq]; exact c11b0
     have c11b1 : (a0.toList != ([] : List UInt8)) = false := bne_eq_false_iff_eq.mpr c11
     clear c11
     obtain rfl := Option.some.inj H
     go_wp2
     go_ret
     exact ⟨z41_, z40_⟩
    ·rw [if_neg c11] at H
     have c11b0 : (a0.toList == ([] : List UInt8)) = false := beq_eq_false_iff_ne.mpr c11
     try have c11e0 : a0.toList.isEmpty = false := by rw [← nil_beq]; exact c11b0
     have c11b1 : (a0.toList != ([] : List UInt8)) = true := bne_iff_ne.mpr c11
     by_cases c12 : 0 < (a0.size : Int)
     ·rw [if_pos c12] at H
      have c12b0 : decide (0 < (a0.size : Int)) = true := decide_eq_true c12
      have c12b1 : decide (0 < a0.size) = true := decide_eq_true (by omega)
      clear c12
      obtain rfl := Option.some.inj H
      have p13 : 0 ≤ (0 : Int) := (by omega)
      have q13 : 0 < a0.size := (by have : (0 : Int) < (a0.size : Int) := of_decide_eq_true z63_; omega)
      have hx13 : ∀ h : 0 < a0.size, ((a0[0]'h).toNat : Int) = bt a0 0 := bt_at a0 0
      clear p13
      have qi13 : (0 < (a0.size : Int)) = True := eq_true (of_decide_eq_true z63_)
      replace q13 := eq_true q13
      go_wp2
      go_ret
      exact ⟨z41_, z40_⟩
     ·rw [if_neg c12] at H
      exact absurd H (by simp)

end Go.Proofs.YtfibkgmbgdaeoaaDoor.Hand
