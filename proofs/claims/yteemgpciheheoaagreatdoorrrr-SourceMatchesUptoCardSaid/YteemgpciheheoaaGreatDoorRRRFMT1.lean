/- What each Go function here computes, and that its call computes it, over contracts proved by hand (written by this project's xprint.py, which drives the kit's print). -/
import Derived.Test.YteemgpciheheoaaGreatDoorRRRZ
import Derived.Test.YteemgpciheheoaaGreatDoorRRRK
import Derived.Test.YteemgpciheheoaaGreatDoorRRRSrcP
import Derived.Test.YteemgpciheheoaaGreatDoorRRRSrcG
import Derived.Test.YteemgpciheheoaaGreatDoorRRRSrcN
import Derived.Test.YteemgpciheheoaaGreatDoorRRRFA1
import Derived.Test.YteemgpciheheoaaGreatDoorRRRFA2
import Derived.Test.YteemgpciheheoaaGreatDoorRRRFA3
import Derived.Test.YteemgpciheheoaaGreatDoorRRRFU1
import Derived.Test.YteemgpciheheoaaGreatDoorRRRFS2
import Derived.Test.YteemgpciheheoaaGreatDoorRRRFS3
import Derived.Test.YteemgpciheheoaaGreatDoorRRRFG1
import Derived.Test.YteemgpciheheoaaGreatDoorRRRFV2
namespace Go.Proofs.YteemgpciheheoaaGreatDoorRRR.Hand
open Go.RowKit Go.Proofs.YteemgpciheheoaaGreatDoorRRRW.PrintWords Go.Proofs.YteemgpciheheoaaGreatDoorRRRW.PrintLast Go.Proofs.YteemgpciheheoaaGreatDoorRRRW.PrintMore
attribute [local go_sem] Instr.field asAgg max2_int min2_int max_two min_two max_three min_three max_four min_four   -- for this text's walks alone
set_option linter.unusedVariables false
set_option linter.unusedSimpArgs false

def pursuivantlaw11_cut.f (a0_0 : Int) (a0_1 : ByteArray) (a0_2 : Bool) (a0_3 : ByteArray) (a0_4 : Int) (a0_5 a0_6 : ByteArray) : Option (Int × ByteArray × Bool × ByteArray × Int × ByteArray × ByteArray) := (pursuivantlaw11_short.f a0_5).bind fun t103 => ((pursuivantlaw11_short.f a0_6).bind fun t104 => (some (a0_0, a0_1, a0_2, a0_3, a0_4, t103, t104)))
def pursuivantlaw11_cut.T1 : Bool × List (List Nat × List Nat) := (true, [([], []), ([0], [0]), ([1], [1]), ([], []), ([3], [3]), ([4, 2], [4]), ([0, 1, 2, 3, 4], []), ([6, 2, 5, 0, 1, 2, 3, 4], [2, 6]), ([0, 1, 2, 3, 4, 5, 6, 7], []), ([8, 5, 7, 0, 1, 2, 3, 4, 5, 6, 7], [5, 8])])
def pursuivantlaw11_cut.B1 : List Nat := [0, 1, 3, 0, 8, 31, 31, 127, 255, 511]
theorem pursuivantlaw11_cut.tab1 : rtab .any (opsOf Tryz.f14 1) = pursuivantlaw11_cut.T1 := by kernel_rfl
theorem pursuivantlaw11_cut.bits1 : waitsOk pursuivantlaw11_cut.T1.2 pursuivantlaw11_cut.B1 = true := by kernel_rfl
set_option maxHeartbeats 8000000 in
set_option maxRecDepth 100000 in
theorem pursuivantlaw11_cut.calls (a0_0 : Int) (a0_1 : ByteArray) (a0_2 : Bool) (a0_3 : ByteArray) (a0_4 : Int) (a0_5 a0_6 : ByteArray) (r1 : Int) (r2 : ByteArray) (r3 : Bool) (r4 : ByteArray) (r5 : Int) (r6 r7 : ByteArray) (w : World) (hG_ : GW w) (h : pursuivantlaw11_cut.f a0_0 a0_1 a0_2 a0_3 a0_4 a0_5 a0_6 = some (r1, r2, r3, r4, r5, r6, r7)) :
  Calls Tryz.prog 14 #[.agg #[.int .i64 a0_0, .string a0_1, .bool a0_2, .string a0_3, .int .i64 a0_4, .string a0_5, .string a0_6]] w fun e w' => e = .returned (.agg #[.int .i64 r1, .string r2, .bool r3, .string r4, .int .i64 r5, .string r6, .string r7]) ∧ Below w.heap.size w w' := by
 have huX32 := Tryz.underlying32
 have huX30 := Tryz.underlying30
 have hu23 := Tryz.underlying23
 have HB := Aside0.mk (Below.refl w.heap.size w)
 have H : ((pursuivantlaw11_short.f a0_5).bind fun t103 => ((pursuivantlaw11_short.f a0_6).bind fun t104 => (some (a0_0, a0_1, a0_2, a0_3, a0_4, t103, t104)))) = some (r1, r2, r3, r4, r5, r6, r7) := h
 clear h
 replace H := Option.bind_eq_some_iff.mp H
 obtain ⟨t103, A20, H⟩ := H
 replace H : ((pursuivantlaw11_short.f a0_6).bind fun t104 => (some (a0_0, a0_1, a0_2, a0_3, a0_4, t103, t104))) = some (r1, r2, r3, r4, r5, r6, r7) := H
 have A2 := Aside0.mk A20; clear A20
 replace H := Option.bind_eq_some_iff.mp H
 obtain ⟨t104, A30, H⟩ := H
 replace H : (some (a0_0, a0_1, a0_2, a0_3, a0_4, t103, t104)) = some (r1, r2, r3, r4, r5, r6, r7) := H
 have A3 := Aside0.mk A30; clear A30
 simp only [Option.some.injEq, Prod.mk.injEq] at H
 obtain ⟨rfl, rfl, rfl, rfl, rfl, rfl, rfl⟩ := H
 go_enter Tryz.func14, Tryz.ntmps14
 try go_wp2_with (first | ((with_reducible refine gate_dst (N := 1) rfl ?_); refine box_event ?hg (N := 1) ?hd (cs := #[.int .i64 a0_0, .string a0_1, .bool a0_2, .string a0_3, .int .i64 a0_4, .string a0_5, .string a0_6]) (t := 23) ?hr ?_; (case hd => rfl); (case hg => rfl); (case hr => first | (go_simp; done) | (go_simp; rfl)); intro gb101 hg w4 hbox hb; have n0_ := Aside0.mk (below_step z45_ hb); have n1_ := Aside0.mk (hbox); have n2_ := Aside0.mk ((by rw [hg]; exact (below_size z45_) : w.heap.size ≤ gb101)); have n3_ := Aside0.mk ((by rw [hg]; exact (below_size z45_) : w.heap.size ≤ gb101)); clear HB; have HB := n0_; have BK101 := n1_; have GW101 := n2_; have GE101 := n3_; clear n0_ n1_ n2_ n3_; clear hb hbox hg) | ((with_reducible refine gate_dst (N := 2) rfl ?_); refine box_event ?hg (N := 2) ?hd (cs := #[.int .i64 0, .string (⟨#[]⟩ : ByteArray), .bool false, .string (⟨#[]⟩ : ByteArray), .int .i64 0, .string (⟨#[]⟩ : ByteArray), .string (⟨#[]⟩ : ByteArray)]) (t := 23) ?hr ?_; (case hd => rfl); (case hg => rfl); (case hr => first | (go_simp; done) | (go_simp; rfl)); intro gb102 hg w5 hbox hb; have n0_ := Aside0.mk (blk_below (g := gb101) (o := .cells #[.int .i64 a0_0, .string a0_1, .bool a0_2, .string a0_3, .int .i64 a0_4, .string a0_5, .string a0_6] 23 (0, 0)) z53_ hb); have n1_ := Aside0.mk (below_step z35_ hb); have n2_ := Aside0.mk (hbox); have n3_ := Aside0.mk ((by rw [hg]; exact (below_size z35_) : w.heap.size ≤ gb102)); have n4_ := Aside0.mk ((by rw [hg]; exact (below_size z35_) : w.heap.size ≤ gb102)); have n5_ := Aside0.mk ((by rw [hg]; exact Nat.ne_of_lt (blk_lt (g := gb101) (o := .cells #[.int .i64 a0_0, .string a0_1, .bool a0_2, .string a0_3, .int .i64 a0_4, .string a0_5, .string a0_6] 23 (0, 0)) z53_) : gb101 ≠ gb102)); have n6_ := Aside0.mk ((by rw [hg]; exact Nat.ne_of_gt (blk_lt (g := gb101) (o := .cells #[.int .i64 a0_0, .string a0_1, .bool a0_2, .string a0_3, .int .i64 a0_4, .string a0_5, .string a0_6] 23 (0, 0)) z53_) : gb102 ≠ gb101)); clear BK101; clear HB; have BK101 := n0_; have HB := n1_; have BK102 := n2_; have GW102 := n3_; have GE102 := n4_; have NB101_102 := n5_; have NB102_101 := n6_; clear n0_ n1_ n2_ n3_ n4_ n5_ n6_; clear hb hbox hg))
 have n0_ := Aside0.mk (blk_drew BK101.out)
 have n1_ := Aside0.mk (blk_drew BK102.out)
 have n2_ := Aside0.mk (below_drew1 HB.out)
 clear BK101; clear BK102; clear HB
 have BK101 := n0_
 have BK102 := n1_
 have HB := n2_
 clear n0_ n1_ n2_
 refine start_ (n := 10) (S := fun w' => w'.cell? ⟨gb101, 0, none⟩ = some (.int .i64 a0_0) ∧ w'.cell? ⟨gb101, 1, none⟩ = some (.string a0_1) ∧ w'.cell? ⟨gb101, 2, none⟩ = some (.bool a0_2) ∧ w'.cell? ⟨gb101, 3, none⟩ = some (.string a0_3) ∧ w'.cell? ⟨gb101, 4, none⟩ = some (.int .i64 a0_4) ∧ w'.cell? ⟨gb101, 5, none⟩ = some (.string a0_5) ∧ w'.cell? ⟨gb101, 6, none⟩ = some (.string a0_6)) (ds := [7, 9]) #[false, false, false, false, false, false, false, false, false, false] (by kernel_rfl) rfl rfl ⟨(blk_cell BK101.out 0).trans rfl, (blk_cell BK101.out 1).trans rfl, (blk_cell BK101.out 2).trans rfl, (blk_cell BK101.out 3).trans rfl, (blk_cell BK101.out 4).trans rfl, (blk_cell BK101.out 5).trans rfl, (blk_cell BK101.out 6).trans rfl⟩ (fun hHeld => ?_); refine with_tabW pursuivantlaw11_cut.tab1 pursuivantlaw11_cut.bits1 (fun HT_ HW_ => ?_)
 generalize w5.drew = w6 at BK101 BK102 HB hHeld ⊢
 refine pure_ (i := 0) (N := some 3) (v := ?_) (a' := ?_) #[true, false, false, false, false, false, false, false, false, false] rfl rfl (any_of HT_.out (by kernel_rfl)) (fun _ _ _ h => h) (Or.inl ⟨by rfl, ?_⟩) ?_ ?_
 rotate_left
 ·intro w'
  go_simp
  with_reducible rfl
 rotate_left
 ·simp only [Act.put, List.setIfInBounds_toArray, List.set_cons_zero, List.set_cons_succ, i64_w, i32_w]
  rfl
 refine pure_ (i := 3) (N := some 6) (v := ?_) (a' := ?_) #[true, false, false, true, false, false, false, false, false, false] rfl rfl (any_of HT_.out (by kernel_rfl)) (fun _ _ _ h => h) (Or.inl ⟨by rfl, ?_⟩) ?_ ?_
 rotate_left
 ·intro w'
  go_simp
  with_reducible rfl
 rotate_left
 ·simp only [Act.put, List.setIfInBounds_toArray, List.set_cons_zero, List.set_cons_succ, i64_w, i32_w]
  rfl
 refine take_ (i := 1) (N := some 4) (v := ?_) (a' := ?_) #[true, true, false, true, false, false, false, false, false, false] rfl rfl (take_ofW HT_.out HW_.out (by kernel_rfl)) (fun _ _ _ h => h) (Or.inl ⟨by rfl, ?_⟩) hHeld ?_ ?_
 rotate_left
 ·rintro w' ⟨s0, s1, s2, s3, s4, s5, s6⟩
  go_simp
  with_reducible rfl
 rotate_left
 ·simp only [Act.put, List.setIfInBounds_toArray, List.set_cons_zero, List.set_cons_succ, i64_w, i32_w]
  rfl
 refine take_ (i := 4) (N := some 7) (v := ?_) (a' := ?_) #[true, true, false, true, true, false, false, false, false, false] rfl rfl (take_ofW HT_.out HW_.out (by kernel_rfl)) (fun _ _ _ h => h) (Or.inl ⟨by rfl, ?_⟩) hHeld ?_ ?_
 rotate_left
 ·rintro w' ⟨s0, s1, s2, s3, s4, s5, s6⟩
  go_simp
  with_reducible rfl
 rotate_left
 ·simp only [Act.put, List.setIfInBounds_toArray, List.set_cons_zero, List.set_cons_succ, i64_w, i32_w]
  rfl
 refine one_ (i := 2) (N := some 5) #[true, true, true, true, true, false, false, false, false, false] rfl rfl (one_of HT_.out (by kernel_rfl)) (by decide) (fun K hK => ?_)
 refine goes_ Tryz.func10 (by kernel_rfl) rfl #[.string a0_5] (by rfl) rfl rfl z44_ ?_
 with_reducible refine (pursuivantlaw11_short.calls a0_5 t103 _ ?gw11_ A2.out).mono ?_
 case gw11_ => exact z8_
 rintro e w' ⟨rfl, ⟨nd, rfl⟩⟩
 refine ⟨_, rfl, ?_⟩
 refine hK.out _ _ ⟨(blk_cell BK101.out 0).trans rfl, (blk_cell BK101.out 1).trans rfl, (blk_cell BK101.out 2).trans rfl, (blk_cell BK101.out 3).trans rfl, (blk_cell BK101.out 4).trans rfl, (blk_cell BK101.out 5).trans rfl, (blk_cell BK101.out 6).trans rfl⟩ (fun hHeld => ?_)
 clear hK K
 refine norm_ (a' := ?_) ?_ ?_
 rotate_left
 ·show Act.put _ (some 5) _ = _
  simp only [Act.put, List.setIfInBounds_toArray, List.set_cons_zero, List.set_cons_succ, i64_w, i32_w]
  rfl
 refine pure_ (i := 6) (N := some 9) (v := ?_) (a' := ?_) #[true, true, true, true, true, false, true, false, false, false] rfl rfl (any_of HT_.out (by kernel_rfl)) (fun _ _ _ h => h) (Or.inl ⟨by rfl, ?_⟩) ?_ ?_
 rotate_left
 ·intro w'
  go_simp
  with_reducible rfl
 rotate_left
 ·simp only [Act.put, List.setIfInBounds_toArray, List.set_cons_zero, List.set_cons_succ, i64_w, i32_w]
  rfl
 refine one_ (i := 5) (N := some 8) #[true, true, true, true, true, true, true, false, false, false] rfl rfl (one_of HT_.out (by kernel_rfl)) (by decide) (fun K hK => ?_)
 refine goes_ Tryz.func10 (by kernel_rfl) rfl #[.string a0_6] (by rfl) rfl rfl z44_ ?_
 with_reducible refine (pursuivantlaw11_short.calls a0_6 t104 _ ?gw12_ A3.out).mono ?_
 case gw12_ => exact z8_
 rintro e w' ⟨rfl, ⟨nd, rfl⟩⟩
 refine ⟨_, rfl, ?_⟩
 refine hK.out _ _ ⟨(blk_cell BK101.out 0).trans rfl, (blk_cell BK101.out 1).trans rfl, (blk_cell BK101.out 2).trans rfl, (blk_cell BK101.out 3).trans rfl, (blk_cell BK101.out 4).trans rfl, (blk_cell BK101.out 5).trans rfl, (blk_cell BK101.out 6).trans rfl⟩ (fun hHeld => ?_)
 clear hK K
 refine norm_ (a' := ?_) ?_ ?_
 rotate_left
 ·show Act.put _ (some 8) _ = _
  simp only [Act.put, List.setIfInBounds_toArray, List.set_cons_zero, List.set_cons_succ, i64_w, i32_w]
  rfl
 refine last_ (i := 7) (N := none) #[true, true, true, true, true, true, true, true, false, false] rfl rfl (one_of HT_.out (by kernel_rfl)) (by decide) (fun K hK => ?_)
 have hs7 : w6.cell? ⟨gb101, 5, none⟩ = some (.string a0_5) := (blk_cell BK101.out 5).trans rfl
 have hfs7 := blk_frozen BK101.out 5; have hns7_1 := NB102_101.out
 have hms7_1 := NB101_102.out
 refine skip_ (w1 := ?_) (by rfl) rfl ?_ ?_
 rotate_left
 ·go_simp
  rfl
 refine hK.out _ _ ?_
 clear hK K
 refine pure_ (i := 8) (N := some 10) (v := ?_) (a' := ?_) #[true, true, true, true, true, true, true, true, true, false] rfl rfl (any_of HT_.out (by kernel_rfl)) (fun _ _ _ h => h) (Or.inl ⟨by rfl, ?_⟩) ?_ ?_
 rotate_left
 ·intro w'
  go_simp
  with_reducible rfl
 rotate_left
 ·simp only [Act.put, List.setIfInBounds_toArray, List.set_cons_zero, List.set_cons_succ, i64_w, i32_w]
  rfl
 refine last_ (i := 9) (N := none) #[true, true, true, true, true, true, true, true, true, true] rfl rfl (one_of HT_.out (by kernel_rfl)) (by decide) (fun K hK => ?_)
 have hs8 : w6.cell? ⟨gb101, 6, none⟩ = some (.string a0_6) := (blk_cell BK101.out 6).trans rfl
 have hfs8 := blk_frozen BK101.out 6; have hns8_1 := NB102_101.out
 have hms8_1 := NB101_102.out
 refine skip_ (w1 := ?_) (by rfl) rfl ?_ ?_
 rotate_left
 ·go_simp
  rfl
 refine hK.out _ _ ?_
 clear hK K
 refine done_ (done_of HT_.out (by kernel_rfl)) ?_
 have hnb9 := NB101_102.out; have hnc9 := NB102_101.out; obtain ⟨hcz10_0, hcz10_1, hcz10_2, hcz10_3, hcz10_4, hcz10_5, hcz10_6⟩ := blkc7_ BK101.out; obtain ⟨hfz10_0, hfz10_1, hfz10_2, hfz10_3, hfz10_4, hfz10_5, hfz10_6⟩ := blkf7_ BK101.out; obtain ⟨hcz11_0, hcz11_1, hcz11_2, hcz11_3, hcz11_4, hcz11_5, hcz11_6⟩ := blkc7_ BK102.out; obtain ⟨hfz11_0, hfz11_1, hfz11_2, hfz11_3, hfz11_4, hfz11_5, hfz11_6⟩ := blkf7_ BK102.out
 try go_wp2
 refine bodyPost_ret (results_cell_row rfl _ _ gb102 23 #[.int .i64 a0_0, .string a0_1, .bool a0_2, .string a0_3, .int .i64 a0_4, .string t103, .string t104] (0, 0) _ rfl (by (with_reducible repeat (first | refine blk_drewN ?_ _ | refine blk_drew ?_ | refine blk_alloc ?_ _)); refine blk_put (cs := #[.int .i64 a0_0, .string a0_1, .bool a0_2, .string a0_3, .int .i64 a0_4, .string t103, .string (⟨#[]⟩ : ByteArray)]) ?_ 6 _ rfl; (with_reducible repeat (first | refine blk_drewN ?_ _ | refine blk_drew ?_ | refine blk_alloc ?_ _)); refine blk_put (cs := #[.int .i64 a0_0, .string a0_1, .bool a0_2, .string a0_3, .int .i64 a0_4, .string (⟨#[]⟩ : ByteArray), .string (⟨#[]⟩ : ByteArray)]) ?_ 5 _ rfl; (with_reducible repeat (first | refine blk_drewN ?_ _ | refine blk_drew ?_ | refine blk_alloc ?_ _)); refine blk_put (cs := #[.int .i64 a0_0, .string a0_1, .bool a0_2, .string a0_3, .int .i64 0, .string (⟨#[]⟩ : ByteArray), .string (⟨#[]⟩ : ByteArray)]) ?_ 4 _ rfl; (with_reducible repeat (first | refine blk_drewN ?_ _ | refine blk_drew ?_ | refine blk_alloc ?_ _)); refine blk_put (cs := #[.int .i64 a0_0, .string a0_1, .bool a0_2, .string (⟨#[]⟩ : ByteArray), .int .i64 0, .string (⟨#[]⟩ : ByteArray), .string (⟨#[]⟩ : ByteArray)]) ?_ 3 _ rfl; (with_reducible repeat (first | refine blk_drewN ?_ _ | refine blk_drew ?_ | refine blk_alloc ?_ _)); refine blk_put (cs := #[.int .i64 a0_0, .string a0_1, .bool false, .string (⟨#[]⟩ : ByteArray), .int .i64 0, .string (⟨#[]⟩ : ByteArray), .string (⟨#[]⟩ : ByteArray)]) ?_ 2 _ rfl; (with_reducible repeat (first | refine blk_drewN ?_ _ | refine blk_drew ?_ | refine blk_alloc ?_ _)); refine blk_put (cs := #[.int .i64 a0_0, .string (⟨#[]⟩ : ByteArray), .bool false, .string (⟨#[]⟩ : ByteArray), .int .i64 0, .string (⟨#[]⟩ : ByteArray), .string (⟨#[]⟩ : ByteArray)]) ?_ 1 _ rfl; (with_reducible repeat (first | refine blk_drewN ?_ _ | refine blk_drew ?_ | refine blk_alloc ?_ _)); refine blk_put (cs := #[.int .i64 0, .string (⟨#[]⟩ : ByteArray), .bool false, .string (⟨#[]⟩ : ByteArray), .int .i64 0, .string (⟨#[]⟩ : ByteArray), .string (⟨#[]⟩ : ByteArray)]) ?_ 0 _ rfl; (with_reducible repeat (first | refine blk_drewN ?_ _ | refine blk_drew ?_ | refine blk_alloc ?_ _)); refine blk_far ?_ NB102_101.out _; (with_reducible repeat (first | refine blk_drewN ?_ _ | refine blk_drew ?_ | refine blk_alloc ?_ _)); refine blk_far ?_ NB102_101.out _; (with_reducible repeat (first | refine blk_drewN ?_ _ | refine blk_drew ?_ | refine blk_alloc ?_ _)); exact BK102.out) Tryz.underlying23 rfl (by kernel_rfl)) rfl ?_
 exact ⟨z46_, z24_⟩

def pursuivantlaw11_SourceMatches.j0 : Nat → Bool → Bool → Int → ByteArray → Bool → ByteArray → Int → ByteArray → ByteArray → ByteArray → ByteArray → ByteArray → Int → ByteArray → Bool → ByteArray → Bool → ByteArray → ByteArray → ByteArray → Int → Option (Bool)
 | 0, _, _, _, _, _, _, _, _, _, _, _, _, _, _, _, _, _, _, _, _, _ => none
 | k + 1, x3, x22, x106000, x106001, x106002, x106003, x106004, x106005, x106006, x107000, x107001, x107002, x107003, x107004, x107005, x107006, x107007, x107008, x108000, x108001, x108002 => if x22 = true then ((pursuivantlaw11_awake.f k).bind fun t118 => (some t118)) else ((pursuivantlaw11_awake.f k).bind fun t119 => (if t119 = true then ((pursuivantlaw11_cut.f x106000 x106001 x106002 x106003 x106004 x106005 x106006).bind fun bt120 => ((source_Match.f k bt120.1 bt120.2.1 bt120.2.2.1 bt120.2.2.2.1 bt120.2.2.2.2.1 bt120.2.2.2.2.2.1 bt120.2.2.2.2.2.2 x107000 x107001 x107002 x107003 x107004 x107005 x107006 x107007 x107008 x108000 x108001 x108002 x3).bind fun t127 => ((pursuivantlaw11_cut.f x106000 x106001 x106002 x106003 x106004 x106005 x106006).bind fun bt128 => ((pursuivantref11_Match.f k bt128.1 bt128.2.1 bt128.2.2.1 bt128.2.2.2.1 bt128.2.2.2.2.1 bt128.2.2.2.2.2.1 bt128.2.2.2.2.2.2 x107000 x107001 x107002 x107003 x107004 x107005 x107006 x107007 x107008 x108000 x108001 x108002 x3).bind fun t135 => (some (t127 == t135)))))) else (some false)))
def pursuivantlaw11_SourceMatches.f (k : Nat) (a0_0 : Int) (a0_1 : ByteArray) (a0_2 : Bool) (a0_3 : ByteArray) (a0_4 : Int) (a0_5 a0_6 a1_0 a1_1 a1_2 : ByteArray) (a1_3 : Int) (a1_4 : ByteArray) (a1_5 : Bool) (a1_6 : ByteArray) (a1_7 : Bool) (a1_8 a2_0 a2_1 : ByteArray) (a2_2 : Int) (a3 : Bool) : Option (Bool) := (pursuivantlaw11_cut.f a0_0 a0_1 a0_2 a0_3 a0_4 a0_5 a0_6).bind fun bt108 => ((pursuivantref11_Good.f k bt108.1 bt108.2.1 bt108.2.2.1 bt108.2.2.2.1 bt108.2.2.2.2.1 bt108.2.2.2.2.2.1 bt108.2.2.2.2.2.2).bind fun t115 => (if t115 = true then ((pursuivantref06_Good.f k a1_0 a1_1 a1_2 a1_3 a1_4 a1_5 a1_6 a1_7 a1_8).bind fun t116 => (if t116 = true then ((pursuivantref08_Good.f k a2_0 a2_1 a2_2).bind fun t117 => (pursuivantlaw11_SourceMatches.j0 k a3 (!t117) a0_0 a0_1 a0_2 a0_3 a0_4 a0_5 a0_6 a1_0 a1_1 a1_2 a1_3 a1_4 a1_5 a1_6 a1_7 a1_8 a2_0 a2_1 a2_2)) else (pursuivantlaw11_SourceMatches.j0 k a3 true a0_0 a0_1 a0_2 a0_3 a0_4 a0_5 a0_6 a1_0 a1_1 a1_2 a1_3 a1_4 a1_5 a1_6 a1_7 a1_8 a2_0 a2_1 a2_2))) else (pursuivantlaw11_SourceMatches.j0 k a3 true a0_0 a0_1 a0_2 a0_3 a0_4 a0_5 a0_6 a1_0 a1_1 a1_2 a1_3 a1_4 a1_5 a1_6 a1_7 a1_8 a2_0 a2_1 a2_2)))
def pursuivantlaw11_SourceMatches.T3 : Bool × List (List Nat × List Nat) := (true, [([], []), ([0, 0], [0]), ([1], [1]), ([2, 1, 1], [1, 2]), ([1], [1]), ([1], [1]), ([1], [1]), ([3, 4, 5, 6, 3, 1], [1, 3, 4, 5, 6]), ([1], [1]), ([8, 7, 1], [1, 8]), ([1], [1]), ([1], [1]), ([1], [1]), ([9, 10, 11, 12, 9, 1], [1, 9, 10, 11, 12]), ([7, 13, 1], [1, 7, 13]), ([1, 14], [1, 14]), ([15, 13, 0, 1, 2, 3, 4, 5, 6, 7, 8, 9, 10, 11, 12, 13, 14, 15], [15])])
def pursuivantlaw11_SourceMatches.B3 : List Nat := [0, 1, 3, 7, 3, 3, 3, 127, 3, 511, 3, 3, 3, 8191, 16383, 32767, 65535]
theorem pursuivantlaw11_SourceMatches.tab3 : rtab .any (opsOf Tryz.f4 3) = pursuivantlaw11_SourceMatches.T3 := by kernel_rfl
theorem pursuivantlaw11_SourceMatches.bits3 : waitsOk pursuivantlaw11_SourceMatches.T3.2 pursuivantlaw11_SourceMatches.B3 = true := by kernel_rfl
set_option maxHeartbeats 8000000 in
set_option maxRecDepth 100000 in
theorem pursuivantlaw11_SourceMatches.calls (k : Nat) (a0_0 : Int) (a0_1 : ByteArray) (a0_2 : Bool) (a0_3 : ByteArray) (a0_4 : Int) (a0_5 a0_6 a1_0 a1_1 a1_2 : ByteArray) (a1_3 : Int) (a1_4 : ByteArray) (a1_5 : Bool) (a1_6 : ByteArray) (a1_7 : Bool) (a1_8 a2_0 a2_1 : ByteArray) (a2_2 : Int) (a3 r : Bool) (w : World) (hG_ : GW w) (h : pursuivantlaw11_SourceMatches.f k a0_0 a0_1 a0_2 a0_3 a0_4 a0_5 a0_6 a1_0 a1_1 a1_2 a1_3 a1_4 a1_5 a1_6 a1_7 a1_8 a2_0 a2_1 a2_2 a3 = some r) (hr_ : r = true) :
  Calls Tryz.prog 4 #[.agg #[.int .i64 a0_0, .string a0_1, .bool a0_2, .string a0_3, .int .i64 a0_4, .string a0_5, .string a0_6], .agg #[.string a1_0, .string a1_1, .string a1_2, .int .i64 a1_3, .string a1_4, .bool a1_5, .string a1_6, .bool a1_7, .string a1_8], .agg #[.string a2_0, .string a2_1, .int .i64 a2_2], .bool a3] w fun e w' => e = .returned (.bool r) ∧ Below w.heap.size w w' := by
 have hu23 := Tryz.underlying23
 have hu30 := Tryz.underlying30
 have hu32 := Tryz.underlying32
 have HB := Aside0.mk (Below.refl w.heap.size w)
 have H : ((pursuivantlaw11_cut.f a0_0 a0_1 a0_2 a0_3 a0_4 a0_5 a0_6).bind fun bt108 => ((pursuivantref11_Good.f k bt108.1 bt108.2.1 bt108.2.2.1 bt108.2.2.2.1 bt108.2.2.2.2.1 bt108.2.2.2.2.2.1 bt108.2.2.2.2.2.2).bind fun t115 => (if t115 = true then ((pursuivantref06_Good.f k a1_0 a1_1 a1_2 a1_3 a1_4 a1_5 a1_6 a1_7 a1_8).bind fun t116 => (if t116 = true then ((pursuivantref08_Good.f k a2_0 a2_1 a2_2).bind fun t117 => (pursuivantlaw11_SourceMatches.j0 k a3 (!t117) a0_0 a0_1 a0_2 a0_3 a0_4 a0_5 a0_6 a1_0 a1_1 a1_2 a1_3 a1_4 a1_5 a1_6 a1_7 a1_8 a2_0 a2_1 a2_2)) else (pursuivantlaw11_SourceMatches.j0 k a3 true a0_0 a0_1 a0_2 a0_3 a0_4 a0_5 a0_6 a1_0 a1_1 a1_2 a1_3 a1_4 a1_5 a1_6 a1_7 a1_8 a2_0 a2_1 a2_2))) else (pursuivantlaw11_SourceMatches.j0 k a3 true a0_0 a0_1 a0_2 a0_3 a0_4 a0_5 a0_6 a1_0 a1_1 a1_2 a1_3 a1_4 a1_5 a1_6 a1_7 a1_8 a2_0 a2_1 a2_2)))) = some r := h
 clear h; have HC5 := Aside0.mk H; clear H
 go_enter Tryz.func4, Tryz.ntmps4
 go_upto_region 1 with (first | ((with_reducible refine gate_dst (N := 4) rfl ?_); refine box_event ?hg (N := 4) ?hd (cs := #[.int .i64 a0_0, .string a0_1, .bool a0_2, .string a0_3, .int .i64 a0_4, .string a0_5, .string a0_6]) (t := 23) ?hr ?_; (case hd => rfl); (case hg => rfl); (case hr => first | (go_simp; done) | (go_simp; rfl)); intro gb105 hg w6 hbox hb; have n0_ := Aside0.mk (below_step z45_ hb); have n1_ := Aside0.mk (hbox); have n2_ := Aside0.mk ((by rw [hg]; exact (below_size z45_) : w.heap.size ≤ gb105)); have n3_ := Aside0.mk ((by rw [hg]; exact (below_size z45_) : w.heap.size ≤ gb105)); clear HB; have HB := n0_; have BK105 := n1_; have GW105 := n2_; have GE105 := n3_; clear n0_ n1_ n2_ n3_; clear hb hbox hg) | ((with_reducible refine gate_dst (N := 5) rfl ?_); refine box_event ?hg (N := 5) ?hd (cs := #[.string a1_0, .string a1_1, .string a1_2, .int .i64 a1_3, .string a1_4, .bool a1_5, .string a1_6, .bool a1_7, .string a1_8]) (t := 30) ?hr ?_; (case hd => rfl); (case hg => rfl); (case hr => first | (go_simp; done) | (go_simp; rfl)); intro gb106 hg w7 hbox hb; have n0_ := Aside0.mk (blk_below (g := gb105) (o := .cells #[.int .i64 a0_0, .string a0_1, .bool a0_2, .string a0_3, .int .i64 a0_4, .string a0_5, .string a0_6] 23 (0, 0)) z61_ hb); have n1_ := Aside0.mk (below_step z41_ hb); have n2_ := Aside0.mk (hbox); have n3_ := Aside0.mk ((by rw [hg]; exact (below_size z41_) : w.heap.size ≤ gb106)); have n4_ := Aside0.mk ((by rw [hg]; exact (below_size z41_) : w.heap.size ≤ gb106)); have n5_ := Aside0.mk ((by rw [hg]; exact Nat.ne_of_lt (blk_lt (g := gb105) (o := .cells #[.int .i64 a0_0, .string a0_1, .bool a0_2, .string a0_3, .int .i64 a0_4, .string a0_5, .string a0_6] 23 (0, 0)) z61_) : gb105 ≠ gb106)); have n6_ := Aside0.mk ((by rw [hg]; exact Nat.ne_of_gt (blk_lt (g := gb105) (o := .cells #[.int .i64 a0_0, .string a0_1, .bool a0_2, .string a0_3, .int .i64 a0_4, .string a0_5, .string a0_6] 23 (0, 0)) z61_) : gb106 ≠ gb105)); clear BK105; clear HB; have BK105 := n0_; have HB := n1_; have BK106 := n2_; have GW106 := n3_; have GE106 := n4_; have NB105_106 := n5_; have NB106_105 := n6_; clear n0_ n1_ n2_ n3_ n4_ n5_ n6_; clear hb hbox hg) | ((with_reducible refine gate_dst (N := 6) rfl ?_); refine box_event ?hg (N := 6) ?hd (cs := #[.string a2_0, .string a2_1, .int .i64 a2_2]) (t := 32) ?hr ?_; (case hd => rfl); (case hg => rfl); (case hr => first | (go_simp; done) | (go_simp; rfl)); intro gb107 hg w8 hbox hb; have n0_ := Aside0.mk (blk_below (g := gb105) (o := .cells #[.int .i64 a0_0, .string a0_1, .bool a0_2, .string a0_3, .int .i64 a0_4, .string a0_5, .string a0_6] 23 (0, 0)) z61_ hb); have n1_ := Aside0.mk (blk_below (g := gb106) (o := .cells #[.string a1_0, .string a1_1, .string a1_2, .int .i64 a1_3, .string a1_4, .bool a1_5, .string a1_6, .bool a1_7, .string a1_8] 30 (0, 0)) z57_ hb); have n2_ := Aside0.mk (below_step z27_ hb); have n3_ := Aside0.mk (hbox); have n4_ := Aside0.mk ((by rw [hg]; exact (below_size z27_) : w.heap.size ≤ gb107)); have n5_ := Aside0.mk ((by rw [hg]; exact (below_size z27_) : w.heap.size ≤ gb107)); have n6_ := Aside0.mk ((by rw [hg]; exact Nat.ne_of_lt (blk_lt (g := gb105) (o := .cells #[.int .i64 a0_0, .string a0_1, .bool a0_2, .string a0_3, .int .i64 a0_4, .string a0_5, .string a0_6] 23 (0, 0)) z61_) : gb105 ≠ gb107)); have n7_ := Aside0.mk ((by rw [hg]; exact Nat.ne_of_gt (blk_lt (g := gb105) (o := .cells #[.int .i64 a0_0, .string a0_1, .bool a0_2, .string a0_3, .int .i64 a0_4, .string a0_5, .string a0_6] 23 (0, 0)) z61_) : gb107 ≠ gb105)); have n8_ := Aside0.mk ((by rw [hg]; exact Nat.ne_of_lt (blk_lt (g := gb106) (o := .cells #[.string a1_0, .string a1_1, .string a1_2, .int .i64 a1_3, .string a1_4, .bool a1_5, .string a1_6, .bool a1_7, .string a1_8] 30 (0, 0)) z57_) : gb106 ≠ gb107)); have n9_ := Aside0.mk ((by rw [hg]; exact Nat.ne_of_gt (blk_lt (g := gb106) (o := .cells #[.string a1_0, .string a1_1, .string a1_2, .int .i64 a1_3, .string a1_4, .bool a1_5, .string a1_6, .bool a1_7, .string a1_8] 30 (0, 0)) z57_) : gb107 ≠ gb106)); clear BK105; clear BK106; clear HB; have BK105 := n0_; have BK106 := n1_; have HB := n2_; have BK107 := n3_; have GW107 := n4_; have GE107 := n5_; have NB105_107 := n6_; have NB107_105 := n7_; have NB106_107 := n8_; have NB107_106 := n9_; clear n0_ n1_ n2_ n3_ n4_ n5_ n6_ n7_ n8_ n9_; clear hb hbox hg))
 (try simp only [Act.put, List.setIfInBounds_toArray, List.set_cons_zero, List.set_cons_succ])
 go_cut [22] (fun v22 wc => ∃ (kq : Nat) (x22_4 : Bool), v22 = .bool x22_4 ∧ Aside0 (pursuivantlaw11_SourceMatches.j0 kq a3 x22_4 a0_0 a0_1 a0_2 a0_3 a0_4 a0_5 a0_6 a1_0 a1_1 a1_2 a1_3 a1_4 a1_5 a1_6 a1_7 a1_8 a2_0 a2_1 a2_2 = some r) ∧ Aside0 (kq ≤ k) ∧ Aside0 (wc.heap[gb105]? = some (.cells #[.int .i64 a0_0, .string a0_1, .bool a0_2, .string a0_3, .int .i64 a0_4, .string a0_5, .string a0_6] 23 (0, 0))) ∧ Aside0 (wc.heap[gb106]? = some (.cells #[.string a1_0, .string a1_1, .string a1_2, .int .i64 a1_3, .string a1_4, .bool a1_5, .string a1_6, .bool a1_7, .string a1_8] 30 (0, 0))) ∧ Aside0 (wc.heap[gb107]? = some (.cells #[.string a2_0, .string a2_1, .int .i64 a2_2] 32 (0, 0))) ∧ Aside0 (Below w.heap.size w wc))
 case first =>
  have H := HC5.out
  clear HC5
  replace H := Option.bind_eq_some_iff.mp H
  obtain ⟨⟨t108, t109, t110, t111, t112, t113, t114⟩, A90, H⟩ := H
  replace H : ((pursuivantref11_Good.f k t108 t109 t110 t111 t112 t113 t114).bind fun t115 => (if t115 = true then ((pursuivantref06_Good.f k a1_0 a1_1 a1_2 a1_3 a1_4 a1_5 a1_6 a1_7 a1_8).bind fun t116 => (if t116 = true then ((pursuivantref08_Good.f k a2_0 a2_1 a2_2).bind fun t117 => (pursuivantlaw11_SourceMatches.j0 k a3 (!t117) a0_0 a0_1 a0_2 a0_3 a0_4 a0_5 a0_6 a1_0 a1_1 a1_2 a1_3 a1_4 a1_5 a1_6 a1_7 a1_8 a2_0 a2_1 a2_2)) else (pursuivantlaw11_SourceMatches.j0 k a3 true a0_0 a0_1 a0_2 a0_3 a0_4 a0_5 a0_6 a1_0 a1_1 a1_2 a1_3 a1_4 a1_5 a1_6 a1_7 a1_8 a2_0 a2_1 a2_2))) else (pursuivantlaw11_SourceMatches.j0 k a3 true a0_0 a0_1 a0_2 a0_3 a0_4 a0_5 a0_6 a1_0 a1_1 a1_2 a1_3 a1_4 a1_5 a1_6 a1_7 a1_8 a2_0 a2_1 a2_2))) = some r := H
  have A9 := Aside0.mk A90; clear A90
  replace H := Option.bind_eq_some_iff.mp H
  obtain ⟨t115, A100, H⟩ := H
  replace H : (if t115 = true then ((pursuivantref06_Good.f k a1_0 a1_1 a1_2 a1_3 a1_4 a1_5 a1_6 a1_7 a1_8).bind fun t116 => (if t116 = true then ((pursuivantref08_Good.f k a2_0 a2_1 a2_2).bind fun t117 => (pursuivantlaw11_SourceMatches.j0 k a3 (!t117) a0_0 a0_1 a0_2 a0_3 a0_4 a0_5 a0_6 a1_0 a1_1 a1_2 a1_3 a1_4 a1_5 a1_6 a1_7 a1_8 a2_0 a2_1 a2_2)) else (pursuivantlaw11_SourceMatches.j0 k a3 true a0_0 a0_1 a0_2 a0_3 a0_4 a0_5 a0_6 a1_0 a1_1 a1_2 a1_3 a1_4 a1_5 a1_6 a1_7 a1_8 a2_0 a2_1 a2_2))) else (pursuivantlaw11_SourceMatches.j0 k a3 true a0_0 a0_1 a0_2 a0_3 a0_4 a0_5 a0_6 a1_0 a1_1 a1_2 a1_3 a1_4 a1_5 a1_6 a1_7 a1_8 a2_0 a2_1 a2_2)) = some r := H
  have A10 := Aside0.mk A100; clear A100
  by_cases c11 : t115 = true
  ·subst c11
   have H1 : ((pursuivantref06_Good.f k a1_0 a1_1 a1_2 a1_3 a1_4 a1_5 a1_6 a1_7 a1_8).bind fun t116 => (if t116 = true then ((pursuivantref08_Good.f k a2_0 a2_1 a2_2).bind fun t117 => (pursuivantlaw11_SourceMatches.j0 k a3 (!t117) a0_0 a0_1 a0_2 a0_3 a0_4 a0_5 a0_6 a1_0 a1_1 a1_2 a1_3 a1_4 a1_5 a1_6 a1_7 a1_8 a2_0 a2_1 a2_2)) else (pursuivantlaw11_SourceMatches.j0 k a3 true a0_0 a0_1 a0_2 a0_3 a0_4 a0_5 a0_6 a1_0 a1_1 a1_2 a1_3 a1_4 a1_5 a1_6 a1_7 a1_8 a2_0 a2_1 a2_2))) = some r := by rw [if_pos rfl] at H; exact H
   clear H
   have H := H1
   clear H1
   replace H := Option.bind_eq_some_iff.mp H
   obtain ⟨t116, A120, H⟩ := H
   replace H : (if t116 = true then ((pursuivantref08_Good.f k a2_0 a2_1 a2_2).bind fun t117 => (pursuivantlaw11_SourceMatches.j0 k a3 (!t117) a0_0 a0_1 a0_2 a0_3 a0_4 a0_5 a0_6 a1_0 a1_1 a1_2 a1_3 a1_4 a1_5 a1_6 a1_7 a1_8 a2_0 a2_1 a2_2)) else (pursuivantlaw11_SourceMatches.j0 k a3 true a0_0 a0_1 a0_2 a0_3 a0_4 a0_5 a0_6 a1_0 a1_1 a1_2 a1_3 a1_4 a1_5 a1_6 a1_7 a1_8 a2_0 a2_1 a2_2)) = some r := H
   have A12 := Aside0.mk A120; clear A120
   by_cases c13 : t116 = true
   ·subst c13
    have H1 : ((pursuivantref08_Good.f k a2_0 a2_1 a2_2).bind fun t117 => (pursuivantlaw11_SourceMatches.j0 k a3 (!t117) a0_0 a0_1 a0_2 a0_3 a0_4 a0_5 a0_6 a1_0 a1_1 a1_2 a1_3 a1_4 a1_5 a1_6 a1_7 a1_8 a2_0 a2_1 a2_2)) = some r := by rw [if_pos rfl] at H; exact H
    clear H
    have H := H1
    clear H1
    replace H := Option.bind_eq_some_iff.mp H
    obtain ⟨t117, A140, H⟩ := H
    replace H : (pursuivantlaw11_SourceMatches.j0 k a3 (!t117) a0_0 a0_1 a0_2 a0_3 a0_4 a0_5 a0_6 a1_0 a1_1 a1_2 a1_3 a1_4 a1_5 a1_6 a1_7 a1_8 a2_0 a2_1 a2_2) = some r := H
    have A14 := Aside0.mk A140; clear A140
    have H' := Aside0.mk H
    clear H; have hnb15 := NB105_106.out; have hnc15 := NB106_105.out; have hnb16 := NB105_107.out; have hnc16 := NB107_105.out; obtain ⟨hcz17_0, hcz17_1, hcz17_2, hcz17_3, hcz17_4, hcz17_5, hcz17_6⟩ := blkc7_ BK105.out; obtain ⟨hfz17_0, hfz17_1, hfz17_2, hfz17_3, hfz17_4, hfz17_5, hfz17_6⟩ := blkf7_ BK105.out
    go_wp2_with (first | ((with_reducible refine gate_callee (f := 14) rfl ?_); refine goesL_ (some 10) rfl rfl Tryz.func14 (by kernel_rfl) rfl #[.agg #[.int .i64 a0_0, .string a0_1, .bool a0_2, .string a0_3, .int .i64 a0_4, .string a0_5, .string a0_6]] rfl z44_ ?_; (with_reducible refine (pursuivantlaw11_cut.calls a0_0 a0_1 a0_2 a0_3 a0_4 a0_5 a0_6 t108 t109 t110 t111 t112 t113 t114 _ ?gw1_ A9.out).mono ?_); (case gw1_ => exact z4_); rintro e w18 ⟨rfl, hb⟩; refine ⟨_, rfl, ?_⟩; have n0_ := Aside0.mk (blk_below (g := gb105) (o := .cells #[.int .i64 a0_0, .string a0_1, .bool a0_2, .string a0_3, .int .i64 a0_4, .string a0_5, .string a0_6] 23 (0, 0)) z61_ hb); have n1_ := Aside0.mk (blk_below (g := gb106) (o := .cells #[.string a1_0, .string a1_1, .string a1_2, .int .i64 a1_3, .string a1_4, .bool a1_5, .string a1_6, .bool a1_7, .string a1_8] 30 (0, 0)) z57_ hb); have n2_ := Aside0.mk (blk_below (g := gb107) (o := .cells #[.string a2_0, .string a2_1, .int .i64 a2_2] 32 (0, 0)) z47_ hb); have n3_ := Aside0.mk (below_step z20_ hb); clear BK105; clear BK106; clear BK107; clear HB; have BK105 := n0_; have BK106 := n1_; have BK107 := n2_; have HB := n3_; clear n0_ n1_ n2_ n3_; (try clear hb); (try clear hb2); (try clear hk); (try clear hi)) | ((with_reducible refine gate_callee (f := 13) rfl ?_); refine goesL_ (some 11) rfl rfl Tryz.func13 (by kernel_rfl) rfl #[.agg #[.int .i64 t108, .string t109, .bool t110, .string t111, .int .i64 t112, .string t113, .string t114]] rfl z44_ ?_; (with_reducible refine (pursuivantref11_Good.calls k t108 t109 t110 t111 t112 t113 t114 true _ ?gw2_ A10.out).mono ?_); (case gw2_ => exact z4_); rintro e w19 ⟨rfl, hb⟩; refine ⟨_, rfl, ?_⟩; have n0_ := Aside0.mk (blk_below (g := gb105) (o := .cells #[.int .i64 a0_0, .string a0_1, .bool a0_2, .string a0_3, .int .i64 a0_4, .string a0_5, .string a0_6] 23 (0, 0)) z61_ hb); have n1_ := Aside0.mk (blk_below (g := gb106) (o := .cells #[.string a1_0, .string a1_1, .string a1_2, .int .i64 a1_3, .string a1_4, .bool a1_5, .string a1_6, .bool a1_7, .string a1_8] 30 (0, 0)) z57_ hb); have n2_ := Aside0.mk (blk_below (g := gb107) (o := .cells #[.string a2_0, .string a2_1, .int .i64 a2_2] 32 (0, 0)) z47_ hb); have n3_ := Aside0.mk (below_step z20_ hb); clear BK105; clear BK106; clear BK107; clear HB; have BK105 := n0_; have BK106 := n1_; have BK107 := n2_; have HB := n3_; clear n0_ n1_ n2_ n3_; (try clear hb); (try clear hb2); (try clear hk); (try clear hi); have hnb20 := NB106_107.out; have hnc20 := NB107_106.out; have hcz21_0 : w19.cell? ⟨gb106, 0, none⟩ = some (.string a1_0) := (blk_cell BK106.out 0).trans rfl; have hcz21_1 : w19.cell? ⟨gb106, 1, none⟩ = some (.string a1_1) := (blk_cell BK106.out 1).trans rfl; have hcz21_2 : w19.cell? ⟨gb106, 2, none⟩ = some (.string a1_2) := (blk_cell BK106.out 2).trans rfl; have hcz21_3 : w19.cell? ⟨gb106, 3, none⟩ = some (.int .i64 a1_3) := (blk_cell BK106.out 3).trans rfl; have hcz21_4 : w19.cell? ⟨gb106, 4, none⟩ = some (.string a1_4) := (blk_cell BK106.out 4).trans rfl; have hcz21_5 : w19.cell? ⟨gb106, 5, none⟩ = some (.bool a1_5) := (blk_cell BK106.out 5).trans rfl; have hcz21_6 : w19.cell? ⟨gb106, 6, none⟩ = some (.string a1_6) := (blk_cell BK106.out 6).trans rfl; have hcz21_7 : w19.cell? ⟨gb106, 7, none⟩ = some (.bool a1_7) := (blk_cell BK106.out 7).trans rfl; have hcz21_8 : w19.cell? ⟨gb106, 8, none⟩ = some (.string a1_8) := (blk_cell BK106.out 8).trans rfl; have hfz21_0 := blk_frozen BK106.out 0; have hfz21_1 := blk_frozen BK106.out 1; have hfz21_2 := blk_frozen BK106.out 2; have hfz21_3 := blk_frozen BK106.out 3; have hfz21_4 := blk_frozen BK106.out 4; have hfz21_5 := blk_frozen BK106.out 5; have hfz21_6 := blk_frozen BK106.out 6; have hfz21_7 := blk_frozen BK106.out 7; have hfz21_8 := blk_frozen BK106.out 8) | (go_at_call 15; (fail_if_success (have z_ := U_1)); have U_1 := trivial; (with_reducible refine (pursuivantref06_Good.calls k a1_0 a1_1 a1_2 a1_3 a1_4 a1_5 a1_6 a1_7 a1_8 true _ ?gw3_ A12.out).mono ?_); (case gw3_ => exact z4_); rintro e w22 ⟨rfl, hb⟩; have n0_ := Aside0.mk (blk_below (g := gb105) (o := .cells #[.int .i64 a0_0, .string a0_1, .bool a0_2, .string a0_3, .int .i64 a0_4, .string a0_5, .string a0_6] 23 (0, 0)) z61_ hb); have n1_ := Aside0.mk (blk_below (g := gb106) (o := .cells #[.string a1_0, .string a1_1, .string a1_2, .int .i64 a1_3, .string a1_4, .bool a1_5, .string a1_6, .bool a1_7, .string a1_8] 30 (0, 0)) z57_ hb); have n2_ := Aside0.mk (blk_below (g := gb107) (o := .cells #[.string a2_0, .string a2_1, .int .i64 a2_2] 32 (0, 0)) z47_ hb); have n3_ := Aside0.mk (below_step z20_ hb); clear BK105; clear BK106; clear BK107; clear HB; have BK105 := n0_; have BK106 := n1_; have BK107 := n2_; have HB := n3_; clear n0_ n1_ n2_ n3_; (try clear hb); (try clear hb2); (try clear hk); (try clear hi); have hcz23_0 : w22.cell? ⟨gb107, 0, none⟩ = some (.string a2_0) := (blk_cell BK107.out 0).trans rfl; have hcz23_1 : w22.cell? ⟨gb107, 1, none⟩ = some (.string a2_1) := (blk_cell BK107.out 1).trans rfl; have hcz23_2 : w22.cell? ⟨gb107, 2, none⟩ = some (.int .i64 a2_2) := (blk_cell BK107.out 2).trans rfl; have hfz23_0 := blk_frozen BK107.out 0; have hfz23_1 := blk_frozen BK107.out 1; have hfz23_2 := blk_frozen BK107.out 2) | (go_at_call 16; (fail_if_success (have z_ := U_2)); have U_2 := trivial; (with_reducible refine (pursuivantref08_Good.calls k a2_0 a2_1 a2_2 t117 _ ?gw4_ A14.out).mono ?_); (case gw4_ => exact z4_); rintro e w24 ⟨rfl, hb⟩; have n0_ := Aside0.mk (blk_below (g := gb105) (o := .cells #[.int .i64 a0_0, .string a0_1, .bool a0_2, .string a0_3, .int .i64 a0_4, .string a0_5, .string a0_6] 23 (0, 0)) z61_ hb); have n1_ := Aside0.mk (blk_below (g := gb106) (o := .cells #[.string a1_0, .string a1_1, .string a1_2, .int .i64 a1_3, .string a1_4, .bool a1_5, .string a1_6, .bool a1_7, .string a1_8] 30 (0, 0)) z57_ hb); have n2_ := Aside0.mk (blk_below (g := gb107) (o := .cells #[.string a2_0, .string a2_1, .int .i64 a2_2] 32 (0, 0)) z47_ hb); have n3_ := Aside0.mk (below_step z20_ hb); clear BK105; clear BK106; clear BK107; clear HB; have BK105 := n0_; have BK106 := n1_; have BK107 := n2_; have HB := n3_; clear n0_ n1_ n2_ n3_; (try clear hb); (try clear hb2); (try clear hk); (try clear hi)))
    go_meet
    case rel => exact ⟨_, (!t117), z64_, H', ⟨z69_⟩, ⟨z61_⟩, ⟨z57_⟩, ⟨z47_⟩, ⟨z20_⟩⟩
   ·replace c13 := Bool.eq_false_iff.mpr c13
    subst c13
    have H1 : (pursuivantlaw11_SourceMatches.j0 k a3 true a0_0 a0_1 a0_2 a0_3 a0_4 a0_5 a0_6 a1_0 a1_1 a1_2 a1_3 a1_4 a1_5 a1_6 a1_7 a1_8 a2_0 a2_1 a2_2) = some r := by rw [if_neg (show ¬ (false = true) by decide)] at H; exact H
    clear H
    have H := H1
    clear H1
    have H' := Aside0.mk H
    clear H; have hnb25 := NB105_106.out; have hnc25 := NB106_105.out; have hnb26 := NB105_107.out; have hnc26 := NB107_105.out; obtain ⟨hcz27_0, hcz27_1, hcz27_2, hcz27_3, hcz27_4, hcz27_5, hcz27_6⟩ := blkc7_ BK105.out; obtain ⟨hfz27_0, hfz27_1, hfz27_2, hfz27_3, hfz27_4, hfz27_5, hfz27_6⟩ := blkf7_ BK105.out
    go_wp2_with (first | ((with_reducible refine gate_callee (f := 14) rfl ?_); refine goesL_ (some 10) rfl rfl Tryz.func14 (by kernel_rfl) rfl #[.agg #[.int .i64 a0_0, .string a0_1, .bool a0_2, .string a0_3, .int .i64 a0_4, .string a0_5, .string a0_6]] rfl z44_ ?_; (with_reducible refine (pursuivantlaw11_cut.calls a0_0 a0_1 a0_2 a0_3 a0_4 a0_5 a0_6 t108 t109 t110 t111 t112 t113 t114 _ ?gw5_ A9.out).mono ?_); (case gw5_ => exact z4_); rintro e w28 ⟨rfl, hb⟩; refine ⟨_, rfl, ?_⟩; have n0_ := Aside0.mk (blk_below (g := gb105) (o := .cells #[.int .i64 a0_0, .string a0_1, .bool a0_2, .string a0_3, .int .i64 a0_4, .string a0_5, .string a0_6] 23 (0, 0)) z61_ hb); have n1_ := Aside0.mk (blk_below (g := gb106) (o := .cells #[.string a1_0, .string a1_1, .string a1_2, .int .i64 a1_3, .string a1_4, .bool a1_5, .string a1_6, .bool a1_7, .string a1_8] 30 (0, 0)) z57_ hb); have n2_ := Aside0.mk (blk_below (g := gb107) (o := .cells #[.string a2_0, .string a2_1, .int .i64 a2_2] 32 (0, 0)) z47_ hb); have n3_ := Aside0.mk (below_step z20_ hb); clear BK105; clear BK106; clear BK107; clear HB; have BK105 := n0_; have BK106 := n1_; have BK107 := n2_; have HB := n3_; clear n0_ n1_ n2_ n3_; (try clear hb); (try clear hb2); (try clear hk); (try clear hi)) | ((with_reducible refine gate_callee (f := 13) rfl ?_); refine goesL_ (some 11) rfl rfl Tryz.func13 (by kernel_rfl) rfl #[.agg #[.int .i64 t108, .string t109, .bool t110, .string t111, .int .i64 t112, .string t113, .string t114]] rfl z44_ ?_; (with_reducible refine (pursuivantref11_Good.calls k t108 t109 t110 t111 t112 t113 t114 true _ ?gw6_ A10.out).mono ?_); (case gw6_ => exact z4_); rintro e w29 ⟨rfl, hb⟩; refine ⟨_, rfl, ?_⟩; have n0_ := Aside0.mk (blk_below (g := gb105) (o := .cells #[.int .i64 a0_0, .string a0_1, .bool a0_2, .string a0_3, .int .i64 a0_4, .string a0_5, .string a0_6] 23 (0, 0)) z61_ hb); have n1_ := Aside0.mk (blk_below (g := gb106) (o := .cells #[.string a1_0, .string a1_1, .string a1_2, .int .i64 a1_3, .string a1_4, .bool a1_5, .string a1_6, .bool a1_7, .string a1_8] 30 (0, 0)) z57_ hb); have n2_ := Aside0.mk (blk_below (g := gb107) (o := .cells #[.string a2_0, .string a2_1, .int .i64 a2_2] 32 (0, 0)) z47_ hb); have n3_ := Aside0.mk (below_step z20_ hb); clear BK105; clear BK106; clear BK107; clear HB; have BK105 := n0_; have BK106 := n1_; have BK107 := n2_; have HB := n3_; clear n0_ n1_ n2_ n3_; (try clear hb); (try clear hb2); (try clear hk); (try clear hi); have hnb30 := NB106_107.out; have hnc30 := NB107_106.out; have hcz31_0 : w29.cell? ⟨gb106, 0, none⟩ = some (.string a1_0) := (blk_cell BK106.out 0).trans rfl; have hcz31_1 : w29.cell? ⟨gb106, 1, none⟩ = some (.string a1_1) := (blk_cell BK106.out 1).trans rfl; have hcz31_2 : w29.cell? ⟨gb106, 2, none⟩ = some (.string a1_2) := (blk_cell BK106.out 2).trans rfl; have hcz31_3 : w29.cell? ⟨gb106, 3, none⟩ = some (.int .i64 a1_3) := (blk_cell BK106.out 3).trans rfl; have hcz31_4 : w29.cell? ⟨gb106, 4, none⟩ = some (.string a1_4) := (blk_cell BK106.out 4).trans rfl; have hcz31_5 : w29.cell? ⟨gb106, 5, none⟩ = some (.bool a1_5) := (blk_cell BK106.out 5).trans rfl; have hcz31_6 : w29.cell? ⟨gb106, 6, none⟩ = some (.string a1_6) := (blk_cell BK106.out 6).trans rfl; have hcz31_7 : w29.cell? ⟨gb106, 7, none⟩ = some (.bool a1_7) := (blk_cell BK106.out 7).trans rfl; have hcz31_8 : w29.cell? ⟨gb106, 8, none⟩ = some (.string a1_8) := (blk_cell BK106.out 8).trans rfl; have hfz31_0 := blk_frozen BK106.out 0; have hfz31_1 := blk_frozen BK106.out 1; have hfz31_2 := blk_frozen BK106.out 2; have hfz31_3 := blk_frozen BK106.out 3; have hfz31_4 := blk_frozen BK106.out 4; have hfz31_5 := blk_frozen BK106.out 5; have hfz31_6 := blk_frozen BK106.out 6; have hfz31_7 := blk_frozen BK106.out 7; have hfz31_8 := blk_frozen BK106.out 8) | (go_at_call 15; (fail_if_success (have z_ := U_3)); have U_3 := trivial; (with_reducible refine (pursuivantref06_Good.calls k a1_0 a1_1 a1_2 a1_3 a1_4 a1_5 a1_6 a1_7 a1_8 false _ ?gw7_ A12.out).mono ?_); (case gw7_ => exact z4_); rintro e w32 ⟨rfl, hb⟩; have n0_ := Aside0.mk (blk_below (g := gb105) (o := .cells #[.int .i64 a0_0, .string a0_1, .bool a0_2, .string a0_3, .int .i64 a0_4, .string a0_5, .string a0_6] 23 (0, 0)) z61_ hb); have n1_ := Aside0.mk (blk_below (g := gb106) (o := .cells #[.string a1_0, .string a1_1, .string a1_2, .int .i64 a1_3, .string a1_4, .bool a1_5, .string a1_6, .bool a1_7, .string a1_8] 30 (0, 0)) z57_ hb); have n2_ := Aside0.mk (blk_below (g := gb107) (o := .cells #[.string a2_0, .string a2_1, .int .i64 a2_2] 32 (0, 0)) z47_ hb); have n3_ := Aside0.mk (below_step z20_ hb); clear BK105; clear BK106; clear BK107; clear HB; have BK105 := n0_; have BK106 := n1_; have BK107 := n2_; have HB := n3_; clear n0_ n1_ n2_ n3_; (try clear hb); (try clear hb2); (try clear hk); (try clear hi)))
    go_meet
    case rel => exact ⟨_, (true), z64_, H', ⟨z69_⟩, ⟨z61_⟩, ⟨z57_⟩, ⟨z47_⟩, ⟨z20_⟩⟩
  ·replace c11 := Bool.eq_false_iff.mpr c11
   subst c11
   have H1 : (pursuivantlaw11_SourceMatches.j0 k a3 true a0_0 a0_1 a0_2 a0_3 a0_4 a0_5 a0_6 a1_0 a1_1 a1_2 a1_3 a1_4 a1_5 a1_6 a1_7 a1_8 a2_0 a2_1 a2_2) = some r := by rw [if_neg (show ¬ (false = true) by decide)] at H; exact H
   clear H
   have H := H1
   clear H1
   have H' := Aside0.mk H
   clear H; have hnb33 := NB105_106.out; have hnc33 := NB106_105.out; have hnb34 := NB105_107.out; have hnc34 := NB107_105.out; obtain ⟨hcz35_0, hcz35_1, hcz35_2, hcz35_3, hcz35_4, hcz35_5, hcz35_6⟩ := blkc7_ BK105.out; obtain ⟨hfz35_0, hfz35_1, hfz35_2, hfz35_3, hfz35_4, hfz35_5, hfz35_6⟩ := blkf7_ BK105.out
   go_wp2_with (first | ((with_reducible refine gate_callee (f := 14) rfl ?_); refine goesL_ (some 10) rfl rfl Tryz.func14 (by kernel_rfl) rfl #[.agg #[.int .i64 a0_0, .string a0_1, .bool a0_2, .string a0_3, .int .i64 a0_4, .string a0_5, .string a0_6]] rfl z44_ ?_; (with_reducible refine (pursuivantlaw11_cut.calls a0_0 a0_1 a0_2 a0_3 a0_4 a0_5 a0_6 t108 t109 t110 t111 t112 t113 t114 _ ?gw8_ A9.out).mono ?_); (case gw8_ => exact z4_); rintro e w36 ⟨rfl, hb⟩; refine ⟨_, rfl, ?_⟩; have n0_ := Aside0.mk (blk_below (g := gb105) (o := .cells #[.int .i64 a0_0, .string a0_1, .bool a0_2, .string a0_3, .int .i64 a0_4, .string a0_5, .string a0_6] 23 (0, 0)) z61_ hb); have n1_ := Aside0.mk (blk_below (g := gb106) (o := .cells #[.string a1_0, .string a1_1, .string a1_2, .int .i64 a1_3, .string a1_4, .bool a1_5, .string a1_6, .bool a1_7, .string a1_8] 30 (0, 0)) z57_ hb); have n2_ := Aside0.mk (blk_below (g := gb107) (o := .cells #[.string a2_0, .string a2_1, .int .i64 a2_2] 32 (0, 0)) z47_ hb); have n3_ := Aside0.mk (below_step z20_ hb); clear BK105; clear BK106; clear BK107; clear HB; have BK105 := n0_; have BK106 := n1_; have BK107 := n2_; have HB := n3_; clear n0_ n1_ n2_ n3_; (try clear hb); (try clear hb2); (try clear hk); (try clear hi)) | ((with_reducible refine gate_callee (f := 13) rfl ?_); refine goesL_ (some 11) rfl rfl Tryz.func13 (by kernel_rfl) rfl #[.agg #[.int .i64 t108, .string t109, .bool t110, .string t111, .int .i64 t112, .string t113, .string t114]] rfl z44_ ?_; (with_reducible refine (pursuivantref11_Good.calls k t108 t109 t110 t111 t112 t113 t114 false _ ?gw9_ A10.out).mono ?_); (case gw9_ => exact z4_); rintro e w37 ⟨rfl, hb⟩; refine ⟨_, rfl, ?_⟩; have n0_ := Aside0.mk (blk_below (g := gb105) (o := .cells #[.int .i64 a0_0, .string a0_1, .bool a0_2, .string a0_3, .int .i64 a0_4, .string a0_5, .string a0_6] 23 (0, 0)) z61_ hb); have n1_ := Aside0.mk (blk_below (g := gb106) (o := .cells #[.string a1_0, .string a1_1, .string a1_2, .int .i64 a1_3, .string a1_4, .bool a1_5, .string a1_6, .bool a1_7, .string a1_8] 30 (0, 0)) z57_ hb); have n2_ := Aside0.mk (blk_below (g := gb107) (o := .cells #[.string a2_0, .string a2_1, .int .i64 a2_2] 32 (0, 0)) z47_ hb); have n3_ := Aside0.mk (below_step z20_ hb); clear BK105; clear BK106; clear BK107; clear HB; have BK105 := n0_; have BK106 := n1_; have BK107 := n2_; have HB := n3_; clear n0_ n1_ n2_ n3_; (try clear hb); (try clear hb2); (try clear hk); (try clear hi)))
   go_meet
   case rel => exact ⟨_, (true), z64_, H', ⟨z69_⟩, ⟨z61_⟩, ⟨z57_⟩, ⟨z47_⟩, ⟨z20_⟩⟩
 case rest =>
  clear HC5
  obtain ⟨kq, x22_4, rfl, HA, HJ4, BK105, BK106, BK107, HB⟩ := hcut
  cases kq with
  | zero => exact absurd HA.out (by simp [pursuivantlaw11_SourceMatches.j0])
  | succ kj4 =>
   have H := HA.out
   clear HA
   simp only [pursuivantlaw11_SourceMatches.j0] at H
   by_cases c38 : x22_4 = true
   ·subst c38
    have H1 : ((pursuivantlaw11_awake.f kj4).bind fun t118 => (some t118)) = some r := by rw [if_pos rfl] at H; exact H
    clear H
    have H := H1
    clear H1
    replace H := Option.bind_eq_some_iff.mp H
    obtain ⟨t118, A390, H⟩ := H
    replace H : (some t118) = some r := H
    have A39 := Aside0.mk A390; clear A390
    obtain rfl := Option.some.inj H
    go_wp2_with (first | ((with_reducible refine gate_callee (f := 12) rfl ?_); refine goesL_ (some 23) rfl rfl Tryz.func12 (by kernel_rfl) rfl #[] rfl z44_ ?_; (with_reducible refine (pursuivantlaw11_awake.calls kj4  t118 _ ?gw10_ A39.out (by first | rfl | assumption)).mono ?_); (case gw10_ => exact z4_); rintro e w40 ⟨rfl, hb⟩; refine ⟨_, rfl, ?_⟩; have n0_ := Aside0.mk (blk_below (g := gb105) (o := .cells #[.int .i64 a0_0, .string a0_1, .bool a0_2, .string a0_3, .int .i64 a0_4, .string a0_5, .string a0_6] 23 (0, 0)) z61_ hb); have n1_ := Aside0.mk (blk_below (g := gb106) (o := .cells #[.string a1_0, .string a1_1, .string a1_2, .int .i64 a1_3, .string a1_4, .bool a1_5, .string a1_6, .bool a1_7, .string a1_8] 30 (0, 0)) z57_ hb); have n2_ := Aside0.mk (blk_below (g := gb107) (o := .cells #[.string a2_0, .string a2_1, .int .i64 a2_2] 32 (0, 0)) z47_ hb); have n3_ := Aside0.mk (below_step z20_ hb); clear BK105; clear BK106; clear BK107; clear HB; have BK105 := n0_; have BK106 := n1_; have BK107 := n2_; have HB := n3_; clear n0_ n1_ n2_ n3_; (try clear hb); (try clear hb2); (try clear hk); (try clear hi)))
    go_ret
    exact ⟨z46_, z20_⟩
   ·replace c38 := Bool.eq_false_iff.mpr c38
    subst c38
    have H1 : ((pursuivantlaw11_awake.f kj4).bind fun t119 => (if t119 = true then ((pursuivantlaw11_cut.f a0_0 a0_1 a0_2 a0_3 a0_4 a0_5 a0_6).bind fun bt120 => ((source_Match.f kj4 bt120.1 bt120.2.1 bt120.2.2.1 bt120.2.2.2.1 bt120.2.2.2.2.1 bt120.2.2.2.2.2.1 bt120.2.2.2.2.2.2 a1_0 a1_1 a1_2 a1_3 a1_4 a1_5 a1_6 a1_7 a1_8 a2_0 a2_1 a2_2 a3).bind fun t127 => ((pursuivantlaw11_cut.f a0_0 a0_1 a0_2 a0_3 a0_4 a0_5 a0_6).bind fun bt128 => ((pursuivantref11_Match.f kj4 bt128.1 bt128.2.1 bt128.2.2.1 bt128.2.2.2.1 bt128.2.2.2.2.1 bt128.2.2.2.2.2.1 bt128.2.2.2.2.2.2 a1_0 a1_1 a1_2 a1_3 a1_4 a1_5 a1_6 a1_7 a1_8 a2_0 a2_1 a2_2 a3).bind fun t135 => (some (t127 == t135)))))) else (some false))) = some r := by rw [if_neg (show ¬ (false = true) by decide)] at H; exact H
    clear H
    have H := H1
    clear H1
    replace H := Option.bind_eq_some_iff.mp H
    obtain ⟨t119, A410, H⟩ := H
    replace H : (if t119 = true then ((pursuivantlaw11_cut.f a0_0 a0_1 a0_2 a0_3 a0_4 a0_5 a0_6).bind fun bt120 => ((source_Match.f kj4 bt120.1 bt120.2.1 bt120.2.2.1 bt120.2.2.2.1 bt120.2.2.2.2.1 bt120.2.2.2.2.2.1 bt120.2.2.2.2.2.2 a1_0 a1_1 a1_2 a1_3 a1_4 a1_5 a1_6 a1_7 a1_8 a2_0 a2_1 a2_2 a3).bind fun t127 => ((pursuivantlaw11_cut.f a0_0 a0_1 a0_2 a0_3 a0_4 a0_5 a0_6).bind fun bt128 => ((pursuivantref11_Match.f kj4 bt128.1 bt128.2.1 bt128.2.2.1 bt128.2.2.2.1 bt128.2.2.2.2.1 bt128.2.2.2.2.2.1 bt128.2.2.2.2.2.2 a1_0 a1_1 a1_2 a1_3 a1_4 a1_5 a1_6 a1_7 a1_8 a2_0 a2_1 a2_2 a3).bind fun t135 => (some (t127 == t135)))))) else (some false)) = some r := H
    have A41 := Aside0.mk A410; clear A410
    by_cases c42 : t119 = true
    ·subst c42
     have H1 : ((pursuivantlaw11_cut.f a0_0 a0_1 a0_2 a0_3 a0_4 a0_5 a0_6).bind fun bt120 => ((source_Match.f kj4 bt120.1 bt120.2.1 bt120.2.2.1 bt120.2.2.2.1 bt120.2.2.2.2.1 bt120.2.2.2.2.2.1 bt120.2.2.2.2.2.2 a1_0 a1_1 a1_2 a1_3 a1_4 a1_5 a1_6 a1_7 a1_8 a2_0 a2_1 a2_2 a3).bind fun t127 => ((pursuivantlaw11_cut.f a0_0 a0_1 a0_2 a0_3 a0_4 a0_5 a0_6).bind fun bt128 => ((pursuivantref11_Match.f kj4 bt128.1 bt128.2.1 bt128.2.2.1 bt128.2.2.2.1 bt128.2.2.2.2.1 bt128.2.2.2.2.2.1 bt128.2.2.2.2.2.2 a1_0 a1_1 a1_2 a1_3 a1_4 a1_5 a1_6 a1_7 a1_8 a2_0 a2_1 a2_2 a3).bind fun t135 => (some (t127 == t135)))))) = some r := by rw [if_pos rfl] at H; exact H
     clear H
     have H := H1
     clear H1
     replace H := Option.bind_eq_some_iff.mp H
     obtain ⟨⟨t120, t121, t122, t123, t124, t125, t126⟩, A430, H⟩ := H
     replace H : ((source_Match.f kj4 t120 t121 t122 t123 t124 t125 t126 a1_0 a1_1 a1_2 a1_3 a1_4 a1_5 a1_6 a1_7 a1_8 a2_0 a2_1 a2_2 a3).bind fun t127 => ((pursuivantlaw11_cut.f a0_0 a0_1 a0_2 a0_3 a0_4 a0_5 a0_6).bind fun bt128 => ((pursuivantref11_Match.f kj4 bt128.1 bt128.2.1 bt128.2.2.1 bt128.2.2.2.1 bt128.2.2.2.2.1 bt128.2.2.2.2.2.1 bt128.2.2.2.2.2.2 a1_0 a1_1 a1_2 a1_3 a1_4 a1_5 a1_6 a1_7 a1_8 a2_0 a2_1 a2_2 a3).bind fun t135 => (some (t127 == t135))))) = some r := H
     have A43 := Aside0.mk A430; clear A430
     replace H := Option.bind_eq_some_iff.mp H
     obtain ⟨t127, A440, H⟩ := H
     replace H : ((pursuivantlaw11_cut.f a0_0 a0_1 a0_2 a0_3 a0_4 a0_5 a0_6).bind fun bt128 => ((pursuivantref11_Match.f kj4 bt128.1 bt128.2.1 bt128.2.2.1 bt128.2.2.2.1 bt128.2.2.2.2.1 bt128.2.2.2.2.2.1 bt128.2.2.2.2.2.2 a1_0 a1_1 a1_2 a1_3 a1_4 a1_5 a1_6 a1_7 a1_8 a2_0 a2_1 a2_2 a3).bind fun t135 => (some (t127 == t135)))) = some r := H
     have A44 := Aside0.mk A440; clear A440
     replace H := Option.bind_eq_some_iff.mp H
     obtain ⟨⟨t128, t129, t130, t131, t132, t133, t134⟩, A450, H⟩ := H
     replace H : ((pursuivantref11_Match.f kj4 t128 t129 t130 t131 t132 t133 t134 a1_0 a1_1 a1_2 a1_3 a1_4 a1_5 a1_6 a1_7 a1_8 a2_0 a2_1 a2_2 a3).bind fun t135 => (some (t127 == t135))) = some r := H
     have A45 := Aside0.mk A450; clear A450
     replace H := Option.bind_eq_some_iff.mp H
     obtain ⟨t135, A460, H⟩ := H
     replace H : (some (t127 == t135)) = some r := H
     have A46 := Aside0.mk A460; clear A460
     obtain rfl := Option.some.inj H
     try go_wp2
     have n0_ := Aside0.mk (blk_drew BK105.out)
     have n1_ := Aside0.mk (blk_drew BK106.out)
     have n2_ := Aside0.mk (blk_drew BK107.out)
     have n3_ := Aside0.mk (below_drew1 HB.out)
     clear BK105; clear BK106; clear BK107; clear HB
     have BK105 := n0_
     have BK106 := n1_
     have BK107 := n2_
     have HB := n3_
     clear n0_ n1_ n2_ n3_
     refine start_ (n := 17) (S := fun w' => w'.cell? ⟨gb105, 0, none⟩ = some (.int .i64 a0_0) ∧ w'.cell? ⟨gb105, 1, none⟩ = some (.string a0_1) ∧ w'.cell? ⟨gb105, 2, none⟩ = some (.bool a0_2) ∧ w'.cell? ⟨gb105, 3, none⟩ = some (.string a0_3) ∧ w'.cell? ⟨gb105, 4, none⟩ = some (.int .i64 a0_4) ∧ w'.cell? ⟨gb105, 5, none⟩ = some (.string a0_5) ∧ w'.cell? ⟨gb105, 6, none⟩ = some (.string a0_6) ∧ w'.cell? ⟨gb106, 0, none⟩ = some (.string a1_0) ∧ w'.cell? ⟨gb106, 1, none⟩ = some (.string a1_1) ∧ w'.cell? ⟨gb106, 2, none⟩ = some (.string a1_2) ∧ w'.cell? ⟨gb106, 3, none⟩ = some (.int .i64 a1_3) ∧ w'.cell? ⟨gb106, 4, none⟩ = some (.string a1_4) ∧ w'.cell? ⟨gb106, 5, none⟩ = some (.bool a1_5) ∧ w'.cell? ⟨gb106, 6, none⟩ = some (.string a1_6) ∧ w'.cell? ⟨gb106, 7, none⟩ = some (.bool a1_7) ∧ w'.cell? ⟨gb106, 8, none⟩ = some (.string a1_8) ∧ w'.cell? ⟨gb107, 0, none⟩ = some (.string a2_0) ∧ w'.cell? ⟨gb107, 1, none⟩ = some (.string a2_1) ∧ w'.cell? ⟨gb107, 2, none⟩ = some (.int .i64 a2_2)) (ds := []) #[false, false, false, false, false, false, false, false, false, false, false, false, false, false, false, false, false] (by kernel_rfl) rfl rfl ⟨(blk_cell BK105.out 0).trans rfl, (blk_cell BK105.out 1).trans rfl, (blk_cell BK105.out 2).trans rfl, (blk_cell BK105.out 3).trans rfl, (blk_cell BK105.out 4).trans rfl, (blk_cell BK105.out 5).trans rfl, (blk_cell BK105.out 6).trans rfl, (blk_cell BK106.out 0).trans rfl, (blk_cell BK106.out 1).trans rfl, (blk_cell BK106.out 2).trans rfl, (blk_cell BK106.out 3).trans rfl, (blk_cell BK106.out 4).trans rfl, (blk_cell BK106.out 5).trans rfl, (blk_cell BK106.out 6).trans rfl, (blk_cell BK106.out 7).trans rfl, (blk_cell BK106.out 8).trans rfl, (blk_cell BK107.out 0).trans rfl, (blk_cell BK107.out 1).trans rfl, (blk_cell BK107.out 2).trans rfl⟩ (fun hHeld => ?_); refine with_tabW pursuivantlaw11_SourceMatches.tab3 pursuivantlaw11_SourceMatches.bits3 (fun HT_ HW_ => ?_)
     generalize wc.drew = w47 at BK105 BK106 BK107 HB hHeld ⊢
     refine one_ (i := 0) (N := some 24) #[true, false, false, false, false, false, false, false, false, false, false, false, false, false, false, false, false] rfl rfl (one_of HT_.out (by kernel_rfl)) (by decide) (fun K hK => ?_)
     refine goes_ Tryz.func12 (by kernel_rfl) rfl #[] (by rfl) rfl rfl z44_ ?_
     with_reducible refine (pursuivantlaw11_awake.calls kj4  true _ ?gw13_ A41.out (by first | rfl | assumption)).mono ?_
     case gw13_ => exact z4_
     rintro e w48 ⟨rfl, hb⟩
     refine ⟨_, rfl, ?_⟩
     have n0_ := Aside0.mk (blk_below (g := gb105) (o := .cells #[.int .i64 a0_0, .string a0_1, .bool a0_2, .string a0_3, .int .i64 a0_4, .string a0_5, .string a0_6] 23 (0, 0)) z61_ hb)
     have n1_ := Aside0.mk (blk_below (g := gb106) (o := .cells #[.string a1_0, .string a1_1, .string a1_2, .int .i64 a1_3, .string a1_4, .bool a1_5, .string a1_6, .bool a1_7, .string a1_8] 30 (0, 0)) z57_ hb)
     have n2_ := Aside0.mk (blk_below (g := gb107) (o := .cells #[.string a2_0, .string a2_1, .int .i64 a2_2] 32 (0, 0)) z47_ hb)
     have n3_ := Aside0.mk (below_step z20_ hb)
     clear BK105; clear BK106; clear BK107; clear HB
     have BK105 := n0_
     have BK106 := n1_
     have BK107 := n2_
     have HB := n3_
     clear n0_ n1_ n2_ n3_
     (try clear hb)
     (try clear hb2)
     (try clear hk)
     (try clear hi)
     refine hK.out _ _ ⟨(blk_cell BK105.out 0).trans rfl, (blk_cell BK105.out 1).trans rfl, (blk_cell BK105.out 2).trans rfl, (blk_cell BK105.out 3).trans rfl, (blk_cell BK105.out 4).trans rfl, (blk_cell BK105.out 5).trans rfl, (blk_cell BK105.out 6).trans rfl, (blk_cell BK106.out 0).trans rfl, (blk_cell BK106.out 1).trans rfl, (blk_cell BK106.out 2).trans rfl, (blk_cell BK106.out 3).trans rfl, (blk_cell BK106.out 4).trans rfl, (blk_cell BK106.out 5).trans rfl, (blk_cell BK106.out 6).trans rfl, (blk_cell BK106.out 7).trans rfl, (blk_cell BK106.out 8).trans rfl, (blk_cell BK107.out 0).trans rfl, (blk_cell BK107.out 1).trans rfl, (blk_cell BK107.out 2).trans rfl⟩ (fun hHeld => ?_)
     clear hK K
     refine norm_ (a' := ?_) ?_ ?_
     rotate_left
     ·show Act.put _ (some 24) _ = _
      simp only [Act.put, List.setIfInBounds_toArray, List.set_cons_zero, List.set_cons_succ, i64_w, i32_w]
      rfl
     refine pure_ (i := 1) (N := some 25) (v := ?_) (a' := ?_) #[true, true, false, false, false, false, false, false, false, false, false, false, false, false, false, false, false] rfl rfl (any_of HT_.out (by kernel_rfl)) (fun _ _ _ h => h) (Or.inl ⟨by rfl, ?_⟩) ?_ ?_
     rotate_left
     ·intro w'
      go_simp
      with_reducible rfl
     rotate_left
     ·simp only [Act.put, List.setIfInBounds_toArray, List.set_cons_zero, List.set_cons_succ, i64_w, i32_w]
      rfl
     refine pure_ (i := 6) (N := some 30) (v := ?_) (a' := ?_) #[true, true, false, false, false, false, true, false, false, false, false, false, false, false, false, false, false] rfl rfl (any_of HT_.out (by kernel_rfl)) (fun _ _ _ h => h) (Or.inl ⟨by rfl, ?_⟩) ?_ ?_
     rotate_left
     ·intro w'
      go_simp
      with_reducible rfl
     rotate_left
     ·simp only [Act.put, List.setIfInBounds_toArray, List.set_cons_zero, List.set_cons_succ, i64_w, i32_w]
      rfl
     refine pure_ (i := 12) (N := some 36) (v := ?_) (a' := ?_) #[true, true, false, false, false, false, true, false, false, false, false, false, true, false, false, false, false] rfl rfl (any_of HT_.out (by kernel_rfl)) (fun _ _ _ h => h) (Or.inl ⟨by rfl, ?_⟩) ?_ ?_
     rotate_left
     ·intro w'
      go_simp
      with_reducible rfl
     rotate_left
     ·simp only [Act.put, List.setIfInBounds_toArray, List.set_cons_zero, List.set_cons_succ, i64_w, i32_w]
      rfl
     refine take_ (i := 2) (N := some 26) (v := ?_) (a' := ?_) #[true, true, true, false, false, false, true, false, false, false, false, false, true, false, false, false, false] rfl rfl (take_ofW HT_.out HW_.out (by kernel_rfl)) (fun _ _ _ h => h) (Or.inl ⟨by rfl, ?_⟩) hHeld ?_ ?_
     rotate_left
     ·rintro w' ⟨s0, s1, s2, s3, s4, s5, s6, s7, s8, s9, s10, s11, s12, s13, s14, s15, s16, s17, s18⟩
      go_simp
      with_reducible rfl
     rotate_left
     ·simp only [Act.put, List.setIfInBounds_toArray, List.set_cons_zero, List.set_cons_succ, i64_w, i32_w]
      rfl
     refine take_ (i := 4) (N := some 28) (v := ?_) (a' := ?_) #[true, true, true, false, true, false, true, false, false, false, false, false, true, false, false, false, false] rfl rfl (take_ofW HT_.out HW_.out (by kernel_rfl)) (fun _ _ _ h => h) (Or.inl ⟨by rfl, ?_⟩) hHeld ?_ ?_
     rotate_left
     ·rintro w' ⟨s0, s1, s2, s3, s4, s5, s6, s7, s8, s9, s10, s11, s12, s13, s14, s15, s16, s17, s18⟩
      go_simp
      with_reducible rfl
     rotate_left
     ·simp only [Act.put, List.setIfInBounds_toArray, List.set_cons_zero, List.set_cons_succ, i64_w, i32_w]
      rfl
     refine take_ (i := 5) (N := some 29) (v := ?_) (a' := ?_) #[true, true, true, false, true, true, true, false, false, false, false, false, true, false, false, false, false] rfl rfl (take_ofW HT_.out HW_.out (by kernel_rfl)) (fun _ _ _ h => h) (Or.inl ⟨by rfl, ?_⟩) hHeld ?_ ?_
     rotate_left
     ·rintro w' ⟨s0, s1, s2, s3, s4, s5, s6, s7, s8, s9, s10, s11, s12, s13, s14, s15, s16, s17, s18⟩
      go_simp
      with_reducible rfl
     rotate_left
     ·simp only [Act.put, List.setIfInBounds_toArray, List.set_cons_zero, List.set_cons_succ, i64_w, i32_w]
      rfl
     refine take_ (i := 8) (N := some 32) (v := ?_) (a' := ?_) #[true, true, true, false, true, true, true, false, true, false, false, false, true, false, false, false, false] rfl rfl (take_ofW HT_.out HW_.out (by kernel_rfl)) (fun _ _ _ h => h) (Or.inl ⟨by rfl, ?_⟩) hHeld ?_ ?_
     rotate_left
     ·rintro w' ⟨s0, s1, s2, s3, s4, s5, s6, s7, s8, s9, s10, s11, s12, s13, s14, s15, s16, s17, s18⟩
      go_simp
      with_reducible rfl
     rotate_left
     ·simp only [Act.put, List.setIfInBounds_toArray, List.set_cons_zero, List.set_cons_succ, i64_w, i32_w]
      rfl
     refine take_ (i := 10) (N := some 34) (v := ?_) (a' := ?_) #[true, true, true, false, true, true, true, false, true, false, true, false, true, false, false, false, false] rfl rfl (take_ofW HT_.out HW_.out (by kernel_rfl)) (fun _ _ _ h => h) (Or.inl ⟨by rfl, ?_⟩) hHeld ?_ ?_
     rotate_left
     ·rintro w' ⟨s0, s1, s2, s3, s4, s5, s6, s7, s8, s9, s10, s11, s12, s13, s14, s15, s16, s17, s18⟩
      go_simp
      with_reducible rfl
     rotate_left
     ·simp only [Act.put, List.setIfInBounds_toArray, List.set_cons_zero, List.set_cons_succ, i64_w, i32_w]
      rfl
     refine take_ (i := 11) (N := some 35) (v := ?_) (a' := ?_) #[true, true, true, false, true, true, true, false, true, false, true, true, true, false, false, false, false] rfl rfl (take_ofW HT_.out HW_.out (by kernel_rfl)) (fun _ _ _ h => h) (Or.inl ⟨by rfl, ?_⟩) hHeld ?_ ?_
     rotate_left
     ·rintro w' ⟨s0, s1, s2, s3, s4, s5, s6, s7, s8, s9, s10, s11, s12, s13, s14, s15, s16, s17, s18⟩
      go_simp
      with_reducible rfl
     rotate_left
     ·simp only [Act.put, List.setIfInBounds_toArray, List.set_cons_zero, List.set_cons_succ, i64_w, i32_w]
      rfl
     refine one_ (i := 3) (N := some 27) #[true, true, true, true, true, true, true, false, true, false, true, true, true, false, false, false, false] rfl rfl (one_of HT_.out (by kernel_rfl)) (by decide) (fun K hK => ?_)
     refine goes_ Tryz.func14 (by kernel_rfl) rfl #[.agg #[.int .i64 a0_0, .string a0_1, .bool a0_2, .string a0_3, .int .i64 a0_4, .string a0_5, .string a0_6]] (by rfl) rfl rfl z44_ ?_
     with_reducible refine (pursuivantlaw11_cut.calls a0_0 a0_1 a0_2 a0_3 a0_4 a0_5 a0_6 t120 t121 t122 t123 t124 t125 t126 _ ?gw14_ A43.out).mono ?_
     case gw14_ => exact z4_
     rintro e w49 ⟨rfl, hb⟩
     refine ⟨_, rfl, ?_⟩
     have n0_ := Aside0.mk (blk_below (g := gb105) (o := .cells #[.int .i64 a0_0, .string a0_1, .bool a0_2, .string a0_3, .int .i64 a0_4, .string a0_5, .string a0_6] 23 (0, 0)) z61_ hb)
     have n1_ := Aside0.mk (blk_below (g := gb106) (o := .cells #[.string a1_0, .string a1_1, .string a1_2, .int .i64 a1_3, .string a1_4, .bool a1_5, .string a1_6, .bool a1_7, .string a1_8] 30 (0, 0)) z57_ hb)
     have n2_ := Aside0.mk (blk_below (g := gb107) (o := .cells #[.string a2_0, .string a2_1, .int .i64 a2_2] 32 (0, 0)) z47_ hb)
     have n3_ := Aside0.mk (below_step z20_ hb)
     clear BK105; clear BK106; clear BK107; clear HB
     have BK105 := n0_
     have BK106 := n1_
     have BK107 := n2_
     have HB := n3_
     clear n0_ n1_ n2_ n3_
     (try clear hb)
     (try clear hb2)
     (try clear hk)
     (try clear hi)
     refine hK.out _ _ ⟨(blk_cell BK105.out 0).trans rfl, (blk_cell BK105.out 1).trans rfl, (blk_cell BK105.out 2).trans rfl, (blk_cell BK105.out 3).trans rfl, (blk_cell BK105.out 4).trans rfl, (blk_cell BK105.out 5).trans rfl, (blk_cell BK105.out 6).trans rfl, (blk_cell BK106.out 0).trans rfl, (blk_cell BK106.out 1).trans rfl, (blk_cell BK106.out 2).trans rfl, (blk_cell BK106.out 3).trans rfl, (blk_cell BK106.out 4).trans rfl, (blk_cell BK106.out 5).trans rfl, (blk_cell BK106.out 6).trans rfl, (blk_cell BK106.out 7).trans rfl, (blk_cell BK106.out 8).trans rfl, (blk_cell BK107.out 0).trans rfl, (blk_cell BK107.out 1).trans rfl, (blk_cell BK107.out 2).trans rfl⟩ (fun hHeld => ?_)
     clear hK K
     refine norm_ (a' := ?_) ?_ ?_
     rotate_left
     ·show Act.put _ (some 27) _ = _
      simp only [Act.put, List.setIfInBounds_toArray, List.set_cons_zero, List.set_cons_succ, i64_w, i32_w]
      rfl
     refine one_ (i := 7) (N := some 31) #[true, true, true, true, true, true, true, true, true, false, true, true, true, false, false, false, false] rfl rfl (one_of HT_.out (by kernel_rfl)) (by decide) (fun K hK => ?_)
     refine goes_ Tryz.func17 (by kernel_rfl) rfl #[.agg #[.int .i64 t120, .string t121, .bool t122, .string t123, .int .i64 t124, .string t125, .string t126], .agg #[.string a1_0, .string a1_1, .string a1_2, .int .i64 a1_3, .string a1_4, .bool a1_5, .string a1_6, .bool a1_7, .string a1_8], .agg #[.string a2_0, .string a2_1, .int .i64 a2_2], .bool a3] (by rfl) rfl rfl z44_ ?_
     with_reducible refine (source_Match.calls kj4 t120 t121 t122 t123 t124 t125 t126 a1_0 a1_1 a1_2 a1_3 a1_4 a1_5 a1_6 a1_7 a1_8 a2_0 a2_1 a2_2 a3 t127 _ ?gw15_ A44.out).mono ?_
     case gw15_ => exact z4_
     rintro e w50 ⟨rfl, hb⟩
     refine ⟨_, rfl, ?_⟩
     have n0_ := Aside0.mk (blk_below (g := gb105) (o := .cells #[.int .i64 a0_0, .string a0_1, .bool a0_2, .string a0_3, .int .i64 a0_4, .string a0_5, .string a0_6] 23 (0, 0)) z61_ hb)
     have n1_ := Aside0.mk (blk_below (g := gb106) (o := .cells #[.string a1_0, .string a1_1, .string a1_2, .int .i64 a1_3, .string a1_4, .bool a1_5, .string a1_6, .bool a1_7, .string a1_8] 30 (0, 0)) z57_ hb)
     have n2_ := Aside0.mk (blk_below (g := gb107) (o := .cells #[.string a2_0, .string a2_1, .int .i64 a2_2] 32 (0, 0)) z47_ hb)
     have n3_ := Aside0.mk (below_step z20_ hb)
     clear BK105; clear BK106; clear BK107; clear HB
     have BK105 := n0_
     have BK106 := n1_
     have BK107 := n2_
     have HB := n3_
     clear n0_ n1_ n2_ n3_
     (try clear hb)
     (try clear hb2)
     (try clear hk)
     (try clear hi)
     refine hK.out _ _ ⟨(blk_cell BK105.out 0).trans rfl, (blk_cell BK105.out 1).trans rfl, (blk_cell BK105.out 2).trans rfl, (blk_cell BK105.out 3).trans rfl, (blk_cell BK105.out 4).trans rfl, (blk_cell BK105.out 5).trans rfl, (blk_cell BK105.out 6).trans rfl, (blk_cell BK106.out 0).trans rfl, (blk_cell BK106.out 1).trans rfl, (blk_cell BK106.out 2).trans rfl, (blk_cell BK106.out 3).trans rfl, (blk_cell BK106.out 4).trans rfl, (blk_cell BK106.out 5).trans rfl, (blk_cell BK106.out 6).trans rfl, (blk_cell BK106.out 7).trans rfl, (blk_cell BK106.out 8).trans rfl, (blk_cell BK107.out 0).trans rfl, (blk_cell BK107.out 1).trans rfl, (blk_cell BK107.out 2).trans rfl⟩ (fun hHeld => ?_)
     clear hK K
     refine norm_ (a' := ?_) ?_ ?_
     rotate_left
     ·show Act.put _ (some 31) _ = _
      simp only [Act.put, List.setIfInBounds_toArray, List.set_cons_zero, List.set_cons_succ, i64_w, i32_w]
      rfl
     refine one_ (i := 9) (N := some 33) #[true, true, true, true, true, true, true, true, true, true, true, true, true, false, false, false, false] rfl rfl (one_of HT_.out (by kernel_rfl)) (by decide) (fun K hK => ?_)
     refine goes_ Tryz.func14 (by kernel_rfl) rfl #[.agg #[.int .i64 a0_0, .string a0_1, .bool a0_2, .string a0_3, .int .i64 a0_4, .string a0_5, .string a0_6]] (by rfl) rfl rfl z44_ ?_
     with_reducible refine (pursuivantlaw11_cut.calls a0_0 a0_1 a0_2 a0_3 a0_4 a0_5 a0_6 t128 t129 t130 t131 t132 t133 t134 _ ?gw16_ A45.out).mono ?_
     case gw16_ => exact z4_
     rintro e w51 ⟨rfl, hb⟩
     refine ⟨_, rfl, ?_⟩
     have n0_ := Aside0.mk (blk_below (g := gb105) (o := .cells #[.int .i64 a0_0, .string a0_1, .bool a0_2, .string a0_3, .int .i64 a0_4, .string a0_5, .string a0_6] 23 (0, 0)) z61_ hb)
     have n1_ := Aside0.mk (blk_below (g := gb106) (o := .cells #[.string a1_0, .string a1_1, .string a1_2, .int .i64 a1_3, .string a1_4, .bool a1_5, .string a1_6, .bool a1_7, .string a1_8] 30 (0, 0)) z57_ hb)
     have n2_ := Aside0.mk (blk_below (g := gb107) (o := .cells #[.string a2_0, .string a2_1, .int .i64 a2_2] 32 (0, 0)) z47_ hb)
     have n3_ := Aside0.mk (below_step z20_ hb)
     clear BK105; clear BK106; clear BK107; clear HB
     have BK105 := n0_
     have BK106 := n1_
     have BK107 := n2_
     have HB := n3_
     clear n0_ n1_ n2_ n3_
     (try clear hb)
     (try clear hb2)
     (try clear hk)
     (try clear hi)
     refine hK.out _ _ ⟨(blk_cell BK105.out 0).trans rfl, (blk_cell BK105.out 1).trans rfl, (blk_cell BK105.out 2).trans rfl, (blk_cell BK105.out 3).trans rfl, (blk_cell BK105.out 4).trans rfl, (blk_cell BK105.out 5).trans rfl, (blk_cell BK105.out 6).trans rfl, (blk_cell BK106.out 0).trans rfl, (blk_cell BK106.out 1).trans rfl, (blk_cell BK106.out 2).trans rfl, (blk_cell BK106.out 3).trans rfl, (blk_cell BK106.out 4).trans rfl, (blk_cell BK106.out 5).trans rfl, (blk_cell BK106.out 6).trans rfl, (blk_cell BK106.out 7).trans rfl, (blk_cell BK106.out 8).trans rfl, (blk_cell BK107.out 0).trans rfl, (blk_cell BK107.out 1).trans rfl, (blk_cell BK107.out 2).trans rfl⟩ (fun hHeld => ?_)
     clear hK K
     refine norm_ (a' := ?_) ?_ ?_
     rotate_left
     ·show Act.put _ (some 33) _ = _
      simp only [Act.put, List.setIfInBounds_toArray, List.set_cons_zero, List.set_cons_succ, i64_w, i32_w]
      rfl
     refine one_ (i := 13) (N := some 37) #[true, true, true, true, true, true, true, true, true, true, true, true, true, true, false, false, false] rfl rfl (one_of HT_.out (by kernel_rfl)) (by decide) (fun K hK => ?_)
     refine goes_ Tryz.func18 (by kernel_rfl) rfl #[.agg #[.int .i64 t128, .string t129, .bool t130, .string t131, .int .i64 t132, .string t133, .string t134], .agg #[.string a1_0, .string a1_1, .string a1_2, .int .i64 a1_3, .string a1_4, .bool a1_5, .string a1_6, .bool a1_7, .string a1_8], .agg #[.string a2_0, .string a2_1, .int .i64 a2_2], .bool a3] (by rfl) rfl rfl z44_ ?_
     with_reducible refine (pursuivantref11_Match.calls kj4 t128 t129 t130 t131 t132 t133 t134 a1_0 a1_1 a1_2 a1_3 a1_4 a1_5 a1_6 a1_7 a1_8 a2_0 a2_1 a2_2 a3 t135 _ ?gw17_ A46.out).mono ?_
     case gw17_ => exact z4_
     rintro e w52 ⟨rfl, hb⟩
     refine ⟨_, rfl, ?_⟩
     have n0_ := Aside0.mk (blk_below (g := gb105) (o := .cells #[.int .i64 a0_0, .string a0_1, .bool a0_2, .string a0_3, .int .i64 a0_4, .string a0_5, .string a0_6] 23 (0, 0)) z61_ hb)
     have n1_ := Aside0.mk (blk_below (g := gb106) (o := .cells #[.string a1_0, .string a1_1, .string a1_2, .int .i64 a1_3, .string a1_4, .bool a1_5, .string a1_6, .bool a1_7, .string a1_8] 30 (0, 0)) z57_ hb)
     have n2_ := Aside0.mk (blk_below (g := gb107) (o := .cells #[.string a2_0, .string a2_1, .int .i64 a2_2] 32 (0, 0)) z47_ hb)
     have n3_ := Aside0.mk (below_step z20_ hb)
     clear BK105; clear BK106; clear BK107; clear HB
     have BK105 := n0_
     have BK106 := n1_
     have BK107 := n2_
     have HB := n3_
     clear n0_ n1_ n2_ n3_
     (try clear hb)
     (try clear hb2)
     (try clear hk)
     (try clear hi)
     refine hK.out _ _ ⟨(blk_cell BK105.out 0).trans rfl, (blk_cell BK105.out 1).trans rfl, (blk_cell BK105.out 2).trans rfl, (blk_cell BK105.out 3).trans rfl, (blk_cell BK105.out 4).trans rfl, (blk_cell BK105.out 5).trans rfl, (blk_cell BK105.out 6).trans rfl, (blk_cell BK106.out 0).trans rfl, (blk_cell BK106.out 1).trans rfl, (blk_cell BK106.out 2).trans rfl, (blk_cell BK106.out 3).trans rfl, (blk_cell BK106.out 4).trans rfl, (blk_cell BK106.out 5).trans rfl, (blk_cell BK106.out 6).trans rfl, (blk_cell BK106.out 7).trans rfl, (blk_cell BK106.out 8).trans rfl, (blk_cell BK107.out 0).trans rfl, (blk_cell BK107.out 1).trans rfl, (blk_cell BK107.out 2).trans rfl⟩ (fun hHeld => ?_)
     clear hK K
     refine norm_ (a' := ?_) ?_ ?_
     rotate_left
     ·show Act.put _ (some 37) _ = _
      simp only [Act.put, List.setIfInBounds_toArray, List.set_cons_zero, List.set_cons_succ, i64_w, i32_w]
      rfl
     refine pure_ (i := 14) (N := some 38) (v := ?_) (a' := ?_) #[true, true, true, true, true, true, true, true, true, true, true, true, true, true, true, false, false] rfl rfl (any_of HT_.out (by kernel_rfl)) (fun _ _ _ h => h) (Or.inl ⟨by rfl, ?_⟩) ?_ ?_
     rotate_left
     ·intro w'
      go_simp
      with_reducible rfl
     rotate_left
     ·simp only [Act.put, List.setIfInBounds_toArray, List.set_cons_zero, List.set_cons_succ, i64_w, i32_w]
      rfl
     refine pure_ (i := 15) (N := some 39) (v := ?_) (a' := ?_) #[true, true, true, true, true, true, true, true, true, true, true, true, true, true, true, true, false] rfl rfl (any_of HT_.out (by kernel_rfl)) (fun _ _ _ h => h) (Or.inl ⟨by rfl, ?_⟩) ?_ ?_
     rotate_left
     ·intro w'
      go_simp
      with_reducible rfl
     rotate_left
     ·simp only [Act.put, List.setIfInBounds_toArray, List.set_cons_zero, List.set_cons_succ, i64_w, i32_w]
      rfl
     refine pure_ (i := 16) (N := some 8) (v := ?_) (a' := ?_) #[true, true, true, true, true, true, true, true, true, true, true, true, true, true, true, true, true] rfl rfl (any_of HT_.out (by kernel_rfl)) (fun _ _ _ h => h) (Or.inl ⟨by rfl, ?_⟩) ?_ ?_
     rotate_left
     ·intro w'
      go_simp
      with_reducible rfl
     rotate_left
     ·simp only [Act.put, List.setIfInBounds_toArray, List.set_cons_zero, List.set_cons_succ, i64_w, i32_w]
      rfl
     refine done_ (done_of HT_.out (by kernel_rfl)) ?_
     try go_wp2
     go_ret
     exact ⟨z46_, z20_⟩
    ·replace c42 := Bool.eq_false_iff.mpr c42
     subst c42
     have H1 : (some false) = some r := by rw [if_neg (show ¬ (false = true) by decide)] at H; exact H
     clear H
     have H := H1
     clear H1
     exact absurd ((Option.some.inj H).trans hr_) Bool.false_ne_true

end Go.Proofs.YteemgpciheheoaaGreatDoorRRR.Hand
