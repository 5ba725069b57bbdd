/- What each Go function here computes, and that its call computes it, over contracts proved by hand (written by this project's xprint.py, which drives the kit's print). -/
import Derived.Test.YteemgpciheheoaaGreatDoorRRRZ
import Derived.Test.YteemgpciheheoaaGreatDoorRRRK
import Derived.Test.YteemgpciheheoaaGreatDoorRRRSrcP
import Derived.Test.YteemgpciheheoaaGreatDoorRRRSrcG
import Derived.Test.YteemgpciheheoaaGreatDoorRRRFA1
import Derived.Test.YteemgpciheheoaaGreatDoorRRRFA2
import Derived.Test.YteemgpciheheoaaGreatDoorRRRFA3
import Derived.Test.YteemgpciheheoaaGreatDoorRRRFU1
import Derived.Test.YteemgpciheheoaaGreatDoorRRRFS2
import Derived.Test.YteemgpciheheoaaGreatDoorRRRFS3
import Derived.Test.YteemgpciheheoaaGreatDoorRRRFG1
import Derived.Test.YteemgpciheheoaaGreatDoorRRRFV2
namespace Go.Proofs.YteemgpciheheoaaGreatDoorRRR.Hand
open Go.RowKit Go.Proofs.YteemgpciheheoaaGreatDoorRRRW.PrintWords Go.Proofs.YteemgpciheheoaaGreatDoorRRRW.PrintLast Go.Proofs.YteemgpciheheoaaGreatDoorRRRW.PrintMore
attribute [local go_sem] Instr.field asAgg max2_int min2_int max_two min_two max_three min_three max_four min_four   -- for this text's walks alone
set_option linter.unusedVariables false
set_option linter.unusedSimpArgs false

attribute [local go_sem high] eqA23
def pursuivantlaw11_cut.f (a0_0 : Int) (a0_1 : ByteArray) (a0_2 : Bool) (a0_3 : ByteArray) (a0_4 : Int) (a0_5 a0_6 : ByteArray) : Option (Int × ByteArray × Bool × ByteArray × Int × ByteArray × ByteArray) := (pursuivantlaw11_short.f a0_5).bind fun t103 => ((pursuivantlaw11_short.f a0_6).bind fun t104 => (some (a0_0, a0_1, a0_2, a0_3, a0_4, t103, t104)))
def pursuivantlaw11_cut.T1 : Bool × List (List Nat × List Nat) := (true, [([], []), ([0], [0]), ([1], [1]), ([], []), ([3], [3]), ([4, 2], [4]), ([0, 1, 2, 3, 4], []), ([6, 2, 5, 0, 1, 2, 3, 4], [2, 6]), ([0, 1, 2, 3, 4, 5, 6, 7], []), ([8, 5, 7, 0, 1, 2, 3, 4, 5, 6, 7], [5, 8])])
def pursuivantlaw11_cut.B1 : List Nat := [0, 1, 3, 0, 8, 31, 31, 127, 255, 511]
theorem pursuivantlaw11_cut.tab1 : rtab .any (opsOf Tryz.f14 1) = pursuivantlaw11_cut.T1 := by kernel_rfl
theorem pursuivantlaw11_cut.bits1 : waitsOk pursuivantlaw11_cut.T1.2 pursuivantlaw11_cut.B1 = true := by kernel_rfl
set_option maxHeartbeats 8000000 in
set_option maxRecDepth 100000 in
theorem pursuivantlaw11_cut.calls (a0_0 : Int) (a0_1 : ByteArray) (a0_2 : Bool) (a0_3 : ByteArray) (a0_4 : Int) (a0_5 a0_6 : ByteArray) (r1 : Int) (r2 : ByteArray) (r3 : Bool) (r4 : ByteArray) (r5 : Int) (r6 r7 : ByteArray) (w : World) (hG_ : GW w) (h : pursuivantlaw11_cut.f a0_0 a0_1 a0_2 a0_3 a0_4 a0_5 a0_6 = some (r1, r2, r3, r4, r5, r6, r7)) :
  Calls Tryz.prog 14 #[.agg #[.int .i64 a0_0, .string a0_1, .bool a0_2, .string a0_3, .int .i64 a0_4, .string a0_5, .string a0_6]] w fun e w' => e = .returned (.agg #[.int .i64 r1, .string r2, .bool r3, .string r4, .int .i64 r5, .string r6, .string r7]) ∧ Below w.heap.size w w' := by
 have huX32 := Tryz.underlying32
 have huX30 := Tryz.underlying30
 have hu23 := Tryz.underlying23
 have HB := Aside0.mk (Below.refl w.heap.size w)
 have H : ((pursuivantlaw11_short.f a0_5).bind fun t103 => ((pursuivantlaw11_short.f a0_6).bind fun t104 => (some (a0_0, a0_1, a0_2, a0_3, a0_4, t103, t104)))) = some (r1, r2, r3, r4, r5, r6, r7) := h
 clear h
 replace H := Option.bind_eq_some_iff.mp H
 obtain ⟨t103, A20, H⟩ := H
 replace H : ((pursuivantlaw11_short.f a0_6).bind fun t104 => (some (a0_0, a0_1, a0_2, a0_3, a0_4, t103, t104))) = some (r1, r2, r3, r4, r5, r6, r7) := H
 have A2 := Aside0.mk A20; clear A20
 replace H := Option.bind_eq_some_iff.mp H
 obtain ⟨t104, A30, H⟩ := H
 replace H : (some (a0_0, a0_1, a0_2, a0_3, a0_4, t103, t104)) = some (r1, r2, r3, r4, r5, r6, r7) := H
 have A3 := Aside0.mk A30; clear A30
 simp only [Option.some.injEq, Prod.mk.injEq] at H
 obtain ⟨rfl, rfl, rfl, rfl, rfl, rfl, rfl⟩ := H
 go_enter Tryz.func14, Tryz.ntmps14
 try go_wp2_with (first | ((with_reducible refine gate_dst (N := 1) rfl ?_); refine box_event ?hg (N := 1) ?hd (cs := #[.int .i64 a0_0, .string a0_1, .bool a0_2, .string a0_3, .int .i64 a0_4, .string a0_5, .string a0_6]) (t := 23) ?hr ?_; (case hd => rfl); (case hg => rfl); (case hr => first | (go_simp; done) | (go_simp; rfl)); intro gb101 hg w4 hbox hb; have n0_ := Aside0.mk (below_step z47_ hb); have n1_ := Aside0.mk (hbox); have n2_ := Aside0.mk ((by rw [hg]; exact (below_size z47_) : w.heap.size ≤ gb101)); have n3_ := Aside0.mk ((by rw [hg]; exact (below_size z47_) : w.heap.size ≤ gb101)); clear HB; have HB := n0_; have BK101 := n1_; have GW101 := n2_; have GE101 := n3_; clear n0_ n1_ n2_ n3_; clear hb hbox hg) | ((with_reducible refine gate_dst (N := 2) rfl ?_); refine box_event ?hg (N := 2) ?hd (cs := #[.int .i64 0, .string (⟨#[]⟩ : ByteArray), .bool false, .string (⟨#[]⟩ : ByteArray), .int .i64 0, .string (⟨#[]⟩ : ByteArray), .string (⟨#[]⟩ : ByteArray)]) (t := 23) ?hr ?_; (case hd => rfl); (case hg => rfl); (case hr => first | (go_simp; done) | (go_simp; rfl)); intro gb102 hg w5 hbox hb; have n0_ := Aside0.mk (blk_below (g := gb101) (o := .cells #[.int .i64 a0_0, .string a0_1, .bool a0_2, .string a0_3, .int .i64 a0_4, .string a0_5, .string a0_6] 23 (0, 0)) z55_ hb); have n1_ := Aside0.mk (below_step z37_ hb); have n2_ := Aside0.mk (hbox); have n3_ := Aside0.mk ((by rw [hg]; exact (below_size z37_) : w.heap.size ≤ gb102)); have n4_ := Aside0.mk ((by rw [hg]; exact (below_size z37_) : w.heap.size ≤ gb102)); have n5_ := Aside0.mk ((by rw [hg]; exact Nat.ne_of_lt (blk_lt (g := gb101) (o := .cells #[.int .i64 a0_0, .string a0_1, .bool a0_2, .string a0_3, .int .i64 a0_4, .string a0_5, .string a0_6] 23 (0, 0)) z55_) : gb101 ≠ gb102)); have n6_ := Aside0.mk ((by rw [hg]; exact Nat.ne_of_gt (blk_lt (g := gb101) (o := .cells #[.int .i64 a0_0, .string a0_1, .bool a0_2, .string a0_3, .int .i64 a0_4, .string a0_5, .string a0_6] 23 (0, 0)) z55_) : gb102 ≠ gb101)); clear BK101; clear HB; have BK101 := n0_; have HB := n1_; have BK102 := n2_; have GW102 := n3_; have GE102 := n4_; have NB101_102 := n5_; have NB102_101 := n6_; clear n0_ n1_ n2_ n3_ n4_ n5_ n6_; clear hb hbox hg))
 have n0_ := Aside0.mk (blk_drew BK101.out)
 have n1_ := Aside0.mk (blk_drew BK102.out)
 have n2_ := Aside0.mk (below_drew1 HB.out)
 clear BK101; clear BK102; clear HB
 have BK101 := n0_
 have BK102 := n1_
 have HB := n2_
 clear n0_ n1_ n2_
 refine start_ (n := 10) (S := fun w' => w'.cell? ⟨gb101, 0, none⟩ = some (.int .i64 a0_0) ∧ w'.cell? ⟨gb101, 1, none⟩ = some (.string a0_1) ∧ w'.cell? ⟨gb101, 2, none⟩ = some (.bool a0_2) ∧ w'.cell? ⟨gb101, 3, none⟩ = some (.string a0_3) ∧ w'.cell? ⟨gb101, 4, none⟩ = some (.int .i64 a0_4) ∧ w'.cell? ⟨gb101, 5, none⟩ = some (.string a0_5) ∧ w'.cell? ⟨gb101, 6, none⟩ = some (.string a0_6)) (ds := [7, 9]) #[false, false, false, false, false, false, false, false, false, false] (by kernel_rfl) rfl rfl ⟨(blk_cell BK101.out 0).trans rfl, (blk_cell BK101.out 1).trans rfl, (blk_cell BK101.out 2).trans rfl, (blk_cell BK101.out 3).trans rfl, (blk_cell BK101.out 4).trans rfl, (blk_cell BK101.out 5).trans rfl, (blk_cell BK101.out 6).trans rfl⟩ (fun hHeld => ?_); refine with_tabW pursuivantlaw11_cut.tab1 pursuivantlaw11_cut.bits1 (fun HT_ HW_ => ?_)
 generalize w5.drew = w6 at BK101 BK102 HB hHeld ⊢
 refine pure_ (i := 0) (N := some 3) (v := ?_) (a' := ?_) #[true, false, false, false, false, false, false, false, false, false] rfl rfl (any_of HT_.out (by kernel_rfl)) (fun _ _ _ h => h) (Or.inl ⟨by rfl, ?_⟩) ?_ ?_
 rotate_left
 ·intro w'
  go_simp
  with_reducible rfl
 rotate_left
 ·simp only [Act.put, List.setIfInBounds_toArray, List.set_cons_zero, List.set_cons_succ, i64_w, i32_w]
  rfl
 refine pure_ (i := 3) (N := some 6) (v := ?_) (a' := ?_) #[true, false, false, true, false, false, false, false, false, false] rfl rfl (any_of HT_.out (by kernel_rfl)) (fun _ _ _ h => h) (Or.inl ⟨by rfl, ?_⟩) ?_ ?_
 rotate_left
 ·intro w'
  go_simp
  with_reducible rfl
 rotate_left
 ·simp only [Act.put, List.setIfInBounds_toArray, List.set_cons_zero, List.set_cons_succ, i64_w, i32_w]
  rfl
 refine take_ (i := 1) (N := some 4) (v := ?_) (a' := ?_) #[true, true, false, true, false, false, false, false, false, false] rfl rfl (take_ofW HT_.out HW_.out (by kernel_rfl)) (fun _ _ _ h => h) (Or.inl ⟨by rfl, ?_⟩) hHeld ?_ ?_
 rotate_left
 ·rintro w' ⟨s0, s1, s2, s3, s4, s5, s6⟩
  go_simp
  with_reducible rfl
 rotate_left
 ·simp only [Act.put, List.setIfInBounds_toArray, List.set_cons_zero, List.set_cons_succ, i64_w, i32_w]
  rfl
 refine take_ (i := 4) (N := some 7) (v := ?_) (a' := ?_) #[true, true, false, true, true, false, false, false, false, false] rfl rfl (take_ofW HT_.out HW_.out (by kernel_rfl)) (fun _ _ _ h => h) (Or.inl ⟨by rfl, ?_⟩) hHeld ?_ ?_
 rotate_left
 ·rintro w' ⟨s0, s1, s2, s3, s4, s5, s6⟩
  go_simp
  with_reducible rfl
 rotate_left
 ·simp only [Act.put, List.setIfInBounds_toArray, List.set_cons_zero, List.set_cons_succ, i64_w, i32_w]
  rfl
 refine one_ (i := 2) (N := some 5) #[true, true, true, true, true, false, false, false, false, false] rfl rfl (one_of HT_.out (by kernel_rfl)) (by decide) (fun K hK => ?_)
 refine goes_ Tryz.func10 (by kernel_rfl) rfl #[.string a0_5] (by rfl) rfl rfl z46_ ?_
 with_reducible refine (pursuivantlaw11_short.calls a0_5 t103 _ ?gw13_ A2.out).mono ?_
 case gw13_ => exact z8_
 rintro e w' ⟨rfl, ⟨nd, rfl⟩⟩
 refine ⟨_, rfl, ?_⟩
 refine hK.out _ _ ⟨(blk_cell BK101.out 0).trans rfl, (blk_cell BK101.out 1).trans rfl, (blk_cell BK101.out 2).trans rfl, (blk_cell BK101.out 3).trans rfl, (blk_cell BK101.out 4).trans rfl, (blk_cell BK101.out 5).trans rfl, (blk_cell BK101.out 6).trans rfl⟩ (fun hHeld => ?_)
 clear hK K
 refine norm_ (a' := ?_) ?_ ?_
 rotate_left
 ·show Act.put _ (some 5) _ = _
  simp only [Act.put, List.setIfInBounds_toArray, List.set_cons_zero, List.set_cons_succ, i64_w, i32_w]
  rfl
 refine pure_ (i := 6) (N := some 9) (v := ?_) (a' := ?_) #[true, true, true, true, true, false, true, false, false, false] rfl rfl (any_of HT_.out (by kernel_rfl)) (fun _ _ _ h => h) (Or.inl ⟨by rfl, ?_⟩) ?_ ?_
 rotate_left
 ·intro w'
  go_simp
  with_reducible rfl
 rotate_left
 ·simp only [Act.put, List.setIfInBounds_toArray, List.set_cons_zero, List.set_cons_succ, i64_w, i32_w]
  rfl
 refine one_ (i := 5) (N := some 8) #[true, true, true, true, true, true, true, false, false, false] rfl rfl (one_of HT_.out (by kernel_rfl)) (by decide) (fun K hK => ?_)
 refine goes_ Tryz.func10 (by kernel_rfl) rfl #[.string a0_6] (by rfl) rfl rfl z46_ ?_
 with_reducible refine (pursuivantlaw11_short.calls a0_6 t104 _ ?gw14_ A3.out).mono ?_
 case gw14_ => exact z8_
 rintro e w' ⟨rfl, ⟨nd, rfl⟩⟩
 refine ⟨_, rfl, ?_⟩
 refine hK.out _ _ ⟨(blk_cell BK101.out 0).trans rfl, (blk_cell BK101.out 1).trans rfl, (blk_cell BK101.out 2).trans rfl, (blk_cell BK101.out 3).trans rfl, (blk_cell BK101.out 4).trans rfl, (blk_cell BK101.out 5).trans rfl, (blk_cell BK101.out 6).trans rfl⟩ (fun hHeld => ?_)
 clear hK K
 refine norm_ (a' := ?_) ?_ ?_
 rotate_left
 ·show Act.put _ (some 8) _ = _
  simp only [Act.put, List.setIfInBounds_toArray, List.set_cons_zero, List.set_cons_succ, i64_w, i32_w]
  rfl
 refine last_ (i := 7) (N := none) #[true, true, true, true, true, true, true, true, false, false] rfl rfl (one_of HT_.out (by kernel_rfl)) (by decide) (fun K hK => ?_)
 have hs7 : w6.cell? ⟨gb101, 5, none⟩ = some (.string a0_5) := (blk_cell BK101.out 5).trans rfl
 have hfs7 := blk_frozen BK101.out 5; have hns7_1 := NB102_101.out
 have hms7_1 := NB101_102.out
 refine skip_ (w1 := ?_) (by rfl) rfl ?_ ?_
 rotate_left
 ·go_simp
  rfl
 refine hK.out _ _ ?_
 clear hK K
 refine pure_ (i := 8) (N := some 10) (v := ?_) (a' := ?_) #[true, true, true, true, true, true, true, true, true, false] rfl rfl (any_of HT_.out (by kernel_rfl)) (fun _ _ _ h => h) (Or.inl ⟨by rfl, ?_⟩) ?_ ?_
 rotate_left
 ·intro w'
  go_simp
  with_reducible rfl
 rotate_left
 ·simp only [Act.put, List.setIfInBounds_toArray, List.set_cons_zero, List.set_cons_succ, i64_w, i32_w]
  rfl
 refine last_ (i := 9) (N := none) #[true, true, true, true, true, true, true, true, true, true] rfl rfl (one_of HT_.out (by kernel_rfl)) (by decide) (fun K hK => ?_)
 have hs8 : w6.cell? ⟨gb101, 6, none⟩ = some (.string a0_6) := (blk_cell BK101.out 6).trans rfl
 have hfs8 := blk_frozen BK101.out 6; have hns8_1 := NB102_101.out
 have hms8_1 := NB101_102.out
 refine skip_ (w1 := ?_) (by rfl) rfl ?_ ?_
 rotate_left
 ·go_simp
  rfl
 refine hK.out _ _ ?_
 clear hK K
 refine done_ (done_of HT_.out (by kernel_rfl)) ?_
 have hnb9 := NB101_102.out; have hnc9 := NB102_101.out; obtain ⟨hcz10_0, hcz10_1, hcz10_2, hcz10_3, hcz10_4, hcz10_5, hcz10_6⟩ := blkc7_ BK101.out; obtain ⟨hfz10_0, hfz10_1, hfz10_2, hfz10_3, hfz10_4, hfz10_5, hfz10_6⟩ := blkf7_ BK101.out; obtain ⟨hcz11_0, hcz11_1, hcz11_2, hcz11_3, hcz11_4, hcz11_5, hcz11_6⟩ := blkc7_ BK102.out; obtain ⟨hfz11_0, hfz11_1, hfz11_2, hfz11_3, hfz11_4, hfz11_5, hfz11_6⟩ := blkf7_ BK102.out
 try go_wp2
 refine bodyPost_ret (results_cell_row rfl _ _ gb102 23 #[.int .i64 a0_0, .string a0_1, .bool a0_2, .string a0_3, .int .i64 a0_4, .string t103, .string t104] (0, 0) _ rfl (by (with_reducible repeat (first | refine blk_drewN ?_ _ | refine blk_drew ?_ | refine blk_alloc ?_ _)); refine blk_put (cs := #[.int .i64 a0_0, .string a0_1, .bool a0_2, .string a0_3, .int .i64 a0_4, .string t103, .string (⟨#[]⟩ : ByteArray)]) ?_ 6 _ rfl; (with_reducible repeat (first | refine blk_drewN ?_ _ | refine blk_drew ?_ | refine blk_alloc ?_ _)); refine blk_put (cs := #[.int .i64 a0_0, .string a0_1, .bool a0_2, .string a0_3, .int .i64 a0_4, .string (⟨#[]⟩ : ByteArray), .string (⟨#[]⟩ : ByteArray)]) ?_ 5 _ rfl; (with_reducible repeat (first | refine blk_drewN ?_ _ | refine blk_drew ?_ | refine blk_alloc ?_ _)); refine blk_put (cs := #[.int .i64 a0_0, .string a0_1, .bool a0_2, .string a0_3, .int .i64 0, .string (⟨#[]⟩ : ByteArray), .string (⟨#[]⟩ : ByteArray)]) ?_ 4 _ rfl; (with_reducible repeat (first | refine blk_drewN ?_ _ | refine blk_drew ?_ | refine blk_alloc ?_ _)); refine blk_put (cs := #[.int .i64 a0_0, .string a0_1, .bool a0_2, .string (⟨#[]⟩ : ByteArray), .int .i64 0, .string (⟨#[]⟩ : ByteArray), .string (⟨#[]⟩ : ByteArray)]) ?_ 3 _ rfl; (with_reducible repeat (first | refine blk_drewN ?_ _ | refine blk_drew ?_ | refine blk_alloc ?_ _)); refine blk_put (cs := #[.int .i64 a0_0, .string a0_1, .bool false, .string (⟨#[]⟩ : ByteArray), .int .i64 0, .string (⟨#[]⟩ : ByteArray), .string (⟨#[]⟩ : ByteArray)]) ?_ 2 _ rfl; (with_reducible repeat (first | refine blk_drewN ?_ _ | refine blk_drew ?_ | refine blk_alloc ?_ _)); refine blk_put (cs := #[.int .i64 a0_0, .string (⟨#[]⟩ : ByteArray), .bool false, .string (⟨#[]⟩ : ByteArray), .int .i64 0, .string (⟨#[]⟩ : ByteArray), .string (⟨#[]⟩ : ByteArray)]) ?_ 1 _ rfl; (with_reducible repeat (first | refine blk_drewN ?_ _ | refine blk_drew ?_ | refine blk_alloc ?_ _)); refine blk_put (cs := #[.int .i64 0, .string (⟨#[]⟩ : ByteArray), .bool false, .string (⟨#[]⟩ : ByteArray), .int .i64 0, .string (⟨#[]⟩ : ByteArray), .string (⟨#[]⟩ : ByteArray)]) ?_ 0 _ rfl; (with_reducible repeat (first | refine blk_drewN ?_ _ | refine blk_drew ?_ | refine blk_alloc ?_ _)); refine blk_far ?_ NB102_101.out _; (with_reducible repeat (first | refine blk_drewN ?_ _ | refine blk_drew ?_ | refine blk_alloc ?_ _)); refine blk_far ?_ NB102_101.out _; (with_reducible repeat (first | refine blk_drewN ?_ _ | refine blk_drew ?_ | refine blk_alloc ?_ _)); exact BK102.out) Tryz.underlying23 rfl (by kernel_rfl)) rfl ?_
 exact ⟨z48_, z26_⟩

mutual
def pursuivantlaw11_SourceRound.j0 : Nat → Bool → ByteArray → ByteArray → ByteArray → Int → ByteArray → Bool → ByteArray → Bool → ByteArray → ByteArray → ByteArray → Int → Int → ByteArray → Bool → ByteArray → Int → ByteArray → ByteArray → Option (Bool)
 | 0, _, _, _, _, _, _, _, _, _, _, _, _, _, _, _, _, _, _, _, _ => none
 | k + 1, x35, x107000, x107001, x107002, x107003, x107004, x107005, x107006, x107007, x107008, x108000, x108001, x108002, x116000, x116001, x116002, x116003, x116004, x116005, x116006 => if x35 = true then (some false) else ((pursuivantref06_Good.f k x107000 x107001 x107002 x107003 x107004 x107005 x107006 x107007 x107008).bind fun t129 => (if t129 = true then ((pursuivantref08_Good.f k x108000 x108001 x108002).bind fun t130 => (pursuivantlaw11_SourceRound.j1 k (!t130) x107000 x107001 x107002 x107003 x107004 x107005 x107006 x107007 x107008 x108000 x108001 x108002 x116000 x116001 x116002 x116003 x116004 x116005 x116006)) else (pursuivantlaw11_SourceRound.j1 k true x107000 x107001 x107002 x107003 x107004 x107005 x107006 x107007 x107008 x108000 x108001 x108002 x116000 x116001 x116002 x116003 x116004 x116005 x116006)))
def pursuivantlaw11_SourceRound.j1 : Nat → Bool → ByteArray → ByteArray → ByteArray → Int → ByteArray → Bool → ByteArray → Bool → ByteArray → ByteArray → ByteArray → Int → Int → ByteArray → Bool → ByteArray → Int → ByteArray → ByteArray → Option (Bool)
 | 0, _, _, _, _, _, _, _, _, _, _, _, _, _, _, _, _, _, _, _, _ => none
 | k + 1, x43, x107000, x107001, x107002, x107003, x107004, x107005, x107006, x107007, x107008, x108000, x108001, x108002, x116000, x116001, x116002, x116003, x116004, x116005, x116006 => if x43 = true then ((pursuivantlaw11_awake.f k).bind fun t131 => (some t131)) else ((source_Match.f k x116000 x116001 x116002 x116003 x116004 x116005 x116006 x107000 x107001 x107002 x107003 x107004 x107005 x107006 x107007 x107008 x108000 x108001 x108002 false).bind fun t132 => ((source_Match.f k x116000 x116001 x116002 x116003 x116004 x116005 x116006 x107000 x107001 x107002 x107003 x107004 x107005 x107006 x107007 x107008 x108000 x108001 x108002 true).bind fun t133 => (if t132 = true then (if t133 = true then (if x116000 = 4 then (if x116002 = true then (pursuivantlaw11_SourceRound.j2 k t132 t133 false x107000 x107001 x107002 x107003 x107004 x107005 x107006 x107007 x107008 x108000 x108001 x108002 x116000 x116001 x116002 x116003 x116004 x116005 x116006) else (pursuivantlaw11_SourceRound.j2 k t132 t133 (x107002.toList != x116003.toList) x107000 x107001 x107002 x107003 x107004 x107005 x107006 x107007 x107008 x108000 x108001 x108002 x116000 x116001 x116002 x116003 x116004 x116005 x116006)) else (pursuivantlaw11_SourceRound.j2 k t132 t133 false x107000 x107001 x107002 x107003 x107004 x107005 x107006 x107007 x107008 x108000 x108001 x108002 x116000 x116001 x116002 x116003 x116004 x116005 x116006)) else (pursuivantlaw11_SourceRound.j2 k t132 t133 true x107000 x107001 x107002 x107003 x107004 x107005 x107006 x107007 x107008 x108000 x108001 x108002 x116000 x116001 x116002 x116003 x116004 x116005 x116006)) else (if t133 = true then (if x116000 = 4 then (if x116002 = true then (pursuivantlaw11_SourceRound.j2 k t132 t133 false x107000 x107001 x107002 x107003 x107004 x107005 x107006 x107007 x107008 x108000 x108001 x108002 x116000 x116001 x116002 x116003 x116004 x116005 x116006) else (pursuivantlaw11_SourceRound.j2 k t132 t133 (x107002.toList != x116003.toList) x107000 x107001 x107002 x107003 x107004 x107005 x107006 x107007 x107008 x108000 x108001 x108002 x116000 x116001 x116002 x116003 x116004 x116005 x116006)) else (pursuivantlaw11_SourceRound.j2 k t132 t133 false x107000 x107001 x107002 x107003 x107004 x107005 x107006 x107007 x107008 x108000 x108001 x108002 x116000 x116001 x116002 x116003 x116004 x116005 x116006)) else (pursuivantlaw11_SourceRound.j2 k t132 t133 false x107000 x107001 x107002 x107003 x107004 x107005 x107006 x107007 x107008 x108000 x108001 x108002 x116000 x116001 x116002 x116003 x116004 x116005 x116006)))))
def pursuivantlaw11_SourceRound.j2 : Nat → Bool → Bool → Bool → ByteArray → ByteArray → ByteArray → Int → ByteArray → Bool → ByteArray → Bool → ByteArray → ByteArray → ByteArray → Int → Int → ByteArray → Bool → ByteArray → Int → ByteArray → ByteArray → Option (Bool)
 | 0, _, _, _, _, _, _, _, _, _, _, _, _, _, _, _, _, _, _, _, _, _, _ => none
 | k + 1, x10, x11, x77, x107000, x107001, x107002, x107003, x107004, x107005, x107006, x107007, x107008, x108000, x108001, x108002, x116000, x116001, x116002, x116003, x116004, x116005, x116006 => if x77 = true then (some false) else ((pursuivantlaw11_awake.f k).bind fun t134 => (if t134 = true then (if x116000 = 2 then (if x10 = true then (if x116000 = 1 then (if (x10 == x11) = true then (some true) else (some false)) else (some true)) else (some false)) else (if x116000 = 1 then (if (x10 == x11) = true then (if x10 = true then (some true) else ((pursuivantref08_Of.f k x107000 x107001 x107002 x107003 x107004 x107005 x107006 x107007 x107008).bind fun bt135 => ((pursuivantref08_Same.f k bt135.1 bt135.2.1 bt135.2.2 x108000 x108001 x108002).bind fun t138 => (some (!t138))))) else (some false)) else (some true))) else (some false)))
end
def pursuivantlaw11_SourceRound.f (k : Nat) (a0_0 : Int) (a0_1 : ByteArray) (a0_2 : Bool) (a0_3 : ByteArray) (a0_4 : Int) (a0_5 a0_6 a1_0 a1_1 a1_2 : ByteArray) (a1_3 : Int) (a1_4 : ByteArray) (a1_5 : Bool) (a1_6 : ByteArray) (a1_7 : Bool) (a1_8 a2_0 a2_1 : ByteArray) (a2_2 : Int) : Option (Bool) := (pursuivantlaw11_cut.f a0_0 a0_1 a0_2 a0_3 a0_4 a0_5 a0_6).bind fun bt108 => ((source_Good.f k bt108.1 bt108.2.1 bt108.2.2.1 bt108.2.2.2.1 bt108.2.2.2.2.1 bt108.2.2.2.2.2.1 bt108.2.2.2.2.2.2).bind fun t116 => (if t116 = true then ((source_Text.f k bt108.1 bt108.2.1 bt108.2.2.1 bt108.2.2.2.1 bt108.2.2.2.2.1 bt108.2.2.2.2.2.1 bt108.2.2.2.2.2.2).bind fun t119 => ((source_Parse.f k t119).bind fun bt120 => (if (!(bt120.1 == bt108.1) || (!(bt120.2.1.toList == bt108.2.1.toList) || (!(bt120.2.2.1 == bt108.2.2.1) || (!(bt120.2.2.2.1.toList == bt108.2.2.2.1.toList) || (!(bt120.2.2.2.2.1 == bt108.2.2.2.2.1) || (!(bt120.2.2.2.2.2.1.toList == bt108.2.2.2.2.2.1.toList) || (!(bt120.2.2.2.2.2.2.1.toList == bt108.2.2.2.2.2.2.toList)))))))) = true then (pursuivantlaw11_SourceRound.j0 k true a1_0 a1_1 a1_2 a1_3 a1_4 a1_5 a1_6 a1_7 a1_8 a2_0 a2_1 a2_2 bt108.1 bt108.2.1 bt108.2.2.1 bt108.2.2.2.1 bt108.2.2.2.2.1 bt108.2.2.2.2.2.1 bt108.2.2.2.2.2.2) else (pursuivantlaw11_SourceRound.j0 k (!bt120.2.2.2.2.2.2.2) a1_0 a1_1 a1_2 a1_3 a1_4 a1_5 a1_6 a1_7 a1_8 a2_0 a2_1 a2_2 bt108.1 bt108.2.1 bt108.2.2.1 bt108.2.2.2.1 bt108.2.2.2.2.1 bt108.2.2.2.2.2.1 bt108.2.2.2.2.2.2)))) else ((pursuivantlaw11_awake.f k).bind fun t117 => (if t117 = true then ((source_Text.f k bt108.1 bt108.2.1 bt108.2.2.1 bt108.2.2.2.1 bt108.2.2.2.2.1 bt108.2.2.2.2.2.1 bt108.2.2.2.2.2.2).bind fun t118 => (some (t118.toList == ([] : List UInt8)))) else (some false)))))
def pursuivantlaw11_SourceRound.T9 : Bool × List (List Nat × List Nat) := (true, [([], []), ([], []), ([], []), ([0, 1, 2], [0, 1, 2]), ([], []), ([], []), ([], []), ([4, 5, 6, 3], [4, 5, 6]), ([3, 7, 0, 1, 2, 3], [3]), ([7, 8, 0, 1, 2, 3, 4, 5, 6, 7, 8], [7])])
def pursuivantlaw11_SourceRound.B9 : List Nat := [0, 0, 0, 7, 0, 0, 0, 127, 255, 511]
theorem pursuivantlaw11_SourceRound.tab9 : rtab .any (opsOf Tryz.f5 9) = pursuivantlaw11_SourceRound.T9 := by kernel_rfl
theorem pursuivantlaw11_SourceRound.bits9 : waitsOk pursuivantlaw11_SourceRound.T9.2 pursuivantlaw11_SourceRound.B9 = true := by kernel_rfl
def pursuivantlaw11_SourceRound.T12 : Bool × List (List Nat × List Nat) := (true, [([], []), ([0, 0], [0]), ([1], [1]), ([2, 1], [1, 2]), ([3, 1], [1, 3]), ([4, 1, 1], [1, 4]), ([5], [5]), ([5, 6, 1], [1, 5, 6]), ([1, 7], [1, 7]), ([8, 5], [8]), ([9], [9]), ([10, 9], [9, 10]), ([11, 9], [9, 11]), ([12, 9, 9], [9, 12]), ([13], [13]), ([13], [13]), ([14, 15, 13], [13, 14, 15]), ([16, 13, 13], [13, 16]), ([17], [17]), ([18, 17, 17], [17, 18]), ([19], [19]), ([20, 19, 19], [19, 20]), ([19], [19]), ([21, 22, 21, 19], [19, 21, 22]), ([23, 19], [19, 23]), ([19, 24, 17], [17, 19, 24]), ([17, 25, 13], [13, 17, 25]), ([13, 26, 9], [9, 13, 26]), ([9, 27], [9, 27]), ([28, 23, 0, 1, 2, 3, 4, 5, 6, 7, 8, 9, 10, 11, 12, 13, 14, 15, 16, 17, 18, 19, 20, 21, 22, 23, 24, 25, 26, 27, 28], [28])])
def pursuivantlaw11_SourceRound.B12 : List Nat := [0, 1, 3, 7, 15, 31, 63, 127, 255, 511, 1023, 2047, 4095, 8191, 16383, 16383, 65535, 131071, 262143, 524287, 1048575, 2097151, 1048575, 8388607, 16777215, 33554431, 67108863, 134217727, 268435455, 536870911]
theorem pursuivantlaw11_SourceRound.tab12 : rtab .any (opsOf Tryz.f5 12) = pursuivantlaw11_SourceRound.T12 := by kernel_rfl
theorem pursuivantlaw11_SourceRound.bits12 : waitsOk pursuivantlaw11_SourceRound.T12.2 pursuivantlaw11_SourceRound.B12 = true := by kernel_rfl
set_option maxHeartbeats 8000000 in
set_option maxRecDepth 100000 in
theorem pursuivantlaw11_SourceRound.calls (k : Nat) (a0_0 : Int) (a0_1 : ByteArray) (a0_2 : Bool) (a0_3 : ByteArray) (a0_4 : Int) (a0_5 a0_6 a1_0 a1_1 a1_2 : ByteArray) (a1_3 : Int) (a1_4 : ByteArray) (a1_5 : Bool) (a1_6 : ByteArray) (a1_7 : Bool) (a1_8 a2_0 a2_1 : ByteArray) (a2_2 : Int) (r : Bool) (w : World) (hG_ : GW w) (h : pursuivantlaw11_SourceRound.f k a0_0 a0_1 a0_2 a0_3 a0_4 a0_5 a0_6 a1_0 a1_1 a1_2 a1_3 a1_4 a1_5 a1_6 a1_7 a1_8 a2_0 a2_1 a2_2 = some r) (hr_ : r = true) :
  Calls Tryz.prog 5 #[.agg #[.int .i64 a0_0, .string a0_1, .bool a0_2, .string a0_3, .int .i64 a0_4, .string a0_5, .string a0_6], .agg #[.string a1_0, .string a1_1, .string a1_2, .int .i64 a1_3, .string a1_4, .bool a1_5, .string a1_6, .bool a1_7, .string a1_8], .agg #[.string a2_0, .string a2_1, .int .i64 a2_2]] w fun e w' => e = .returned (.bool r) ∧ Below w.heap.size w w' := by
 have hu23 := Tryz.underlying23
 have hu30 := Tryz.underlying30
 have hu32 := Tryz.underlying32
 have HB := Aside0.mk (Below.refl w.heap.size w)
 have H : ((pursuivantlaw11_cut.f a0_0 a0_1 a0_2 a0_3 a0_4 a0_5 a0_6).bind fun bt108 => ((source_Good.f k bt108.1 bt108.2.1 bt108.2.2.1 bt108.2.2.2.1 bt108.2.2.2.2.1 bt108.2.2.2.2.2.1 bt108.2.2.2.2.2.2).bind fun t116 => (if t116 = true then ((source_Text.f k bt108.1 bt108.2.1 bt108.2.2.1 bt108.2.2.2.1 bt108.2.2.2.2.1 bt108.2.2.2.2.2.1 bt108.2.2.2.2.2.2).bind fun t119 => ((source_Parse.f k t119).bind fun bt120 => (if (!(bt120.1 == bt108.1) || (!(bt120.2.1.toList == bt108.2.1.toList) || (!(bt120.2.2.1 == bt108.2.2.1) || (!(bt120.2.2.2.1.toList == bt108.2.2.2.1.toList) || (!(bt120.2.2.2.2.1 == bt108.2.2.2.2.1) || (!(bt120.2.2.2.2.2.1.toList == bt108.2.2.2.2.2.1.toList) || (!(bt120.2.2.2.2.2.2.1.toList == bt108.2.2.2.2.2.2.toList)))))))) = true then (pursuivantlaw11_SourceRound.j0 k true a1_0 a1_1 a1_2 a1_3 a1_4 a1_5 a1_6 a1_7 a1_8 a2_0 a2_1 a2_2 bt108.1 bt108.2.1 bt108.2.2.1 bt108.2.2.2.1 bt108.2.2.2.2.1 bt108.2.2.2.2.2.1 bt108.2.2.2.2.2.2) else (pursuivantlaw11_SourceRound.j0 k (!bt120.2.2.2.2.2.2.2) a1_0 a1_1 a1_2 a1_3 a1_4 a1_5 a1_6 a1_7 a1_8 a2_0 a2_1 a2_2 bt108.1 bt108.2.1 bt108.2.2.1 bt108.2.2.2.1 bt108.2.2.2.2.1 bt108.2.2.2.2.2.1 bt108.2.2.2.2.2.2)))) else ((pursuivantlaw11_awake.f k).bind fun t117 => (if t117 = true then ((source_Text.f k bt108.1 bt108.2.1 bt108.2.2.1 bt108.2.2.2.1 bt108.2.2.2.2.1 bt108.2.2.2.2.2.1 bt108.2.2.2.2.2.2).bind fun t118 => (some (t118.toList == ([] : List UInt8)))) else (some false)))))) = some r := h
 clear h
 replace H := Option.bind_eq_some_iff.mp H
 obtain ⟨⟨t108, t109, t110, t111, t112, t113, t114⟩, A40, H⟩ := H
 replace H : ((source_Good.f k t108 t109 t110 t111 t112 t113 t114).bind fun t116 => (if t116 = true then ((source_Text.f k t108 t109 t110 t111 t112 t113 t114).bind fun t119 => ((source_Parse.f k t119).bind fun bt120 => (if (!(bt120.1 == t108) || (!(bt120.2.1.toList == t109.toList) || (!(bt120.2.2.1 == t110) || (!(bt120.2.2.2.1.toList == t111.toList) || (!(bt120.2.2.2.2.1 == t112) || (!(bt120.2.2.2.2.2.1.toList == t113.toList) || (!(bt120.2.2.2.2.2.2.1.toList == t114.toList)))))))) = true then (pursuivantlaw11_SourceRound.j0 k true a1_0 a1_1 a1_2 a1_3 a1_4 a1_5 a1_6 a1_7 a1_8 a2_0 a2_1 a2_2 t108 t109 t110 t111 t112 t113 t114) else (pursuivantlaw11_SourceRound.j0 k (!bt120.2.2.2.2.2.2.2) a1_0 a1_1 a1_2 a1_3 a1_4 a1_5 a1_6 a1_7 a1_8 a2_0 a2_1 a2_2 t108 t109 t110 t111 t112 t113 t114)))) else ((pursuivantlaw11_awake.f k).bind fun t117 => (if t117 = true then ((source_Text.f k t108 t109 t110 t111 t112 t113 t114).bind fun t118 => (some (t118.toList == ([] : List UInt8)))) else (some false))))) = some r := H
 have A4 := Aside0.mk A40; clear A40
 replace H := Option.bind_eq_some_iff.mp H
 obtain ⟨t116, A50, H⟩ := H
 replace H : (if t116 = true then ((source_Text.f k t108 t109 t110 t111 t112 t113 t114).bind fun t119 => ((source_Parse.f k t119).bind fun bt120 => (if (!(bt120.1 == t108) || (!(bt120.2.1.toList == t109.toList) || (!(bt120.2.2.1 == t110) || (!(bt120.2.2.2.1.toList == t111.toList) || (!(bt120.2.2.2.2.1 == t112) || (!(bt120.2.2.2.2.2.1.toList == t113.toList) || (!(bt120.2.2.2.2.2.2.1.toList == t114.toList)))))))) = true then (pursuivantlaw11_SourceRound.j0 k true a1_0 a1_1 a1_2 a1_3 a1_4 a1_5 a1_6 a1_7 a1_8 a2_0 a2_1 a2_2 t108 t109 t110 t111 t112 t113 t114) else (pursuivantlaw11_SourceRound.j0 k (!bt120.2.2.2.2.2.2.2) a1_0 a1_1 a1_2 a1_3 a1_4 a1_5 a1_6 a1_7 a1_8 a2_0 a2_1 a2_2 t108 t109 t110 t111 t112 t113 t114)))) else ((pursuivantlaw11_awake.f k).bind fun t117 => (if t117 = true then ((source_Text.f k t108 t109 t110 t111 t112 t113 t114).bind fun t118 => (some (t118.toList == ([] : List UInt8)))) else (some false)))) = some r := H
 have A5 := Aside0.mk A50; clear A50
 by_cases c6 : t116 = true
 ·subst c6
  have H1 : ((source_Text.f k t108 t109 t110 t111 t112 t113 t114).bind fun t119 => ((source_Parse.f k t119).bind fun bt120 => (if (!(bt120.1 == t108) || (!(bt120.2.1.toList == t109.toList) || (!(bt120.2.2.1 == t110) || (!(bt120.2.2.2.1.toList == t111.toList) || (!(bt120.2.2.2.2.1 == t112) || (!(bt120.2.2.2.2.2.1.toList == t113.toList) || (!(bt120.2.2.2.2.2.2.1.toList == t114.toList)))))))) = true then (pursuivantlaw11_SourceRound.j0 k true a1_0 a1_1 a1_2 a1_3 a1_4 a1_5 a1_6 a1_7 a1_8 a2_0 a2_1 a2_2 t108 t109 t110 t111 t112 t113 t114) else (pursuivantlaw11_SourceRound.j0 k (!bt120.2.2.2.2.2.2.2) a1_0 a1_1 a1_2 a1_3 a1_4 a1_5 a1_6 a1_7 a1_8 a2_0 a2_1 a2_2 t108 t109 t110 t111 t112 t113 t114)))) = some r := by rw [if_pos rfl] at H; exact H
  clear H
  have H := H1
  clear H1
  replace H := Option.bind_eq_some_iff.mp H
  obtain ⟨t119, A70, H⟩ := H
  replace H : ((source_Parse.f k t119).bind fun bt120 => (if (!(bt120.1 == t108) || (!(bt120.2.1.toList == t109.toList) || (!(bt120.2.2.1 == t110) || (!(bt120.2.2.2.1.toList == t111.toList) || (!(bt120.2.2.2.2.1 == t112) || (!(bt120.2.2.2.2.2.1.toList == t113.toList) || (!(bt120.2.2.2.2.2.2.1.toList == t114.toList)))))))) = true then (pursuivantlaw11_SourceRound.j0 k true a1_0 a1_1 a1_2 a1_3 a1_4 a1_5 a1_6 a1_7 a1_8 a2_0 a2_1 a2_2 t108 t109 t110 t111 t112 t113 t114) else (pursuivantlaw11_SourceRound.j0 k (!bt120.2.2.2.2.2.2.2) a1_0 a1_1 a1_2 a1_3 a1_4 a1_5 a1_6 a1_7 a1_8 a2_0 a2_1 a2_2 t108 t109 t110 t111 t112 t113 t114))) = some r := H
  have A7 := Aside0.mk A70; clear A70
  replace H := Option.bind_eq_some_iff.mp H
  obtain ⟨⟨t120, t121, t122, t123, t124, t125, t126, t127⟩, A80, H⟩ := H
  replace H : (if (!(t120 == t108) || (!(t121.toList == t109.toList) || (!(t122 == t110) || (!(t123.toList == t111.toList) || (!(t124 == t112) || (!(t125.toList == t113.toList) || (!(t126.toList == t114.toList)))))))) = true then (pursuivantlaw11_SourceRound.j0 k true a1_0 a1_1 a1_2 a1_3 a1_4 a1_5 a1_6 a1_7 a1_8 a2_0 a2_1 a2_2 t108 t109 t110 t111 t112 t113 t114) else (pursuivantlaw11_SourceRound.j0 k (!t127) a1_0 a1_1 a1_2 a1_3 a1_4 a1_5 a1_6 a1_7 a1_8 a2_0 a2_1 a2_2 t108 t109 t110 t111 t112 t113 t114)) = some r := H
  have A8 := Aside0.mk A80; clear A80; have HC9 := Aside0.mk H; clear H
  go_enter Tryz.func5, Tryz.ntmps5
  go_upto_region 5 with (first | ((with_reducible refine gate_dst (N := 3) rfl ?_); refine box_event ?hg (N := 3) ?hd (cs := #[.int .i64 a0_0, .string a0_1, .bool a0_2, .string a0_3, .int .i64 a0_4, .string a0_5, .string a0_6]) (t := 23) ?hr ?_; (case hd => rfl); (case hg => rfl); (case hr => first | (go_simp; done) | (go_simp; rfl)); intro gb105 hg w10 hbox hb; have n0_ := Aside0.mk (below_step z47_ hb); have n1_ := Aside0.mk (hbox); have n2_ := Aside0.mk ((by rw [hg]; exact (below_size z47_) : w.heap.size ≤ gb105)); have n3_ := Aside0.mk ((by rw [hg]; exact (below_size z47_) : w.heap.size ≤ gb105)); clear HB; have HB := n0_; have BK105 := n1_; have GW105 := n2_; have GE105 := n3_; clear n0_ n1_ n2_ n3_; clear hb hbox hg) | ((with_reducible refine gate_dst (N := 4) rfl ?_); refine box_event ?hg (N := 4) ?hd (cs := #[.string a1_0, .string a1_1, .string a1_2, .int .i64 a1_3, .string a1_4, .bool a1_5, .string a1_6, .bool a1_7, .string a1_8]) (t := 30) ?hr ?_; (case hd => rfl); (case hg => rfl); (case hr => first | (go_simp; done) | (go_simp; rfl)); intro gb106 hg w11 hbox hb; have n0_ := Aside0.mk (blk_below (g := gb105) (o := .cells #[.int .i64 a0_0, .string a0_1, .bool a0_2, .string a0_3, .int .i64 a0_4, .string a0_5, .string a0_6] 23 (0, 0)) z63_ hb); have n1_ := Aside0.mk (below_step z43_ hb); have n2_ := Aside0.mk (hbox); have n3_ := Aside0.mk ((by rw [hg]; exact (below_size z43_) : w.heap.size ≤ gb106)); have n4_ := Aside0.mk ((by rw [hg]; exact (below_size z43_) : w.heap.size ≤ gb106)); have n5_ := Aside0.mk ((by rw [hg]; exact Nat.ne_of_lt (blk_lt (g := gb105) (o := .cells #[.int .i64 a0_0, .string a0_1, .bool a0_2, .string a0_3, .int .i64 a0_4, .string a0_5, .string a0_6] 23 (0, 0)) z63_) : gb105 ≠ gb106)); have n6_ := Aside0.mk ((by rw [hg]; exact Nat.ne_of_gt (blk_lt (g := gb105) (o := .cells #[.int .i64 a0_0, .string a0_1, .bool a0_2, .string a0_3, .int .i64 a0_4, .string a0_5, .string a0_6] 23 (0, 0)) z63_) : gb106 ≠ gb105)); clear BK105; clear HB; have BK105 := n0_; have HB := n1_; have BK106 := n2_; have GW106 := n3_; have GE106 := n4_; have NB105_106 := n5_; have NB106_105 := n6_; clear n0_ n1_ n2_ n3_ n4_ n5_ n6_; clear hb hbox hg) | ((with_reducible refine gate_dst (N := 5) rfl ?_); refine box_event ?hg (N := 5) ?hd (cs := #[.string a2_0, .string a2_1, .int .i64 a2_2]) (t := 32) ?hr ?_; (case hd => rfl); (case hg => rfl); (case hr => first | (go_simp; done) | (go_simp; rfl)); intro gb107 hg w12 hbox hb; have n0_ := Aside0.mk (blk_below (g := gb105) (o := .cells #[.int .i64 a0_0, .string a0_1, .bool a0_2, .string a0_3, .int .i64 a0_4, .string a0_5, .string a0_6] 23 (0, 0)) z63_ hb); have n1_ := Aside0.mk (blk_below (g := gb106) (o := .cells #[.string a1_0, .string a1_1, .string a1_2, .int .i64 a1_3, .string a1_4, .bool a1_5, .string a1_6, .bool a1_7, .string a1_8] 30 (0, 0)) z59_ hb); have n2_ := Aside0.mk (below_step z29_ hb); have n3_ := Aside0.mk (hbox); have n4_ := Aside0.mk ((by rw [hg]; exact (below_size z29_) : w.heap.size ≤ gb107)); have n5_ := Aside0.mk ((by rw [hg]; exact (below_size z29_) : w.heap.size ≤ gb107)); have n6_ := Aside0.mk ((by rw [hg]; exact Nat.ne_of_lt (blk_lt (g := gb105) (o := .cells #[.int .i64 a0_0, .string a0_1, .bool a0_2, .string a0_3, .int .i64 a0_4, .string a0_5, .string a0_6] 23 (0, 0)) z63_) : gb105 ≠ gb107)); have n7_ := Aside0.mk ((by rw [hg]; exact Nat.ne_of_gt (blk_lt (g := gb105) (o := .cells #[.int .i64 a0_0, .string a0_1, .bool a0_2, .string a0_3, .int .i64 a0_4, .string a0_5, .string a0_6] 23 (0, 0)) z63_) : gb107 ≠ gb105)); have n8_ := Aside0.mk ((by rw [hg]; exact Nat.ne_of_lt (blk_lt (g := gb106) (o := .cells #[.string a1_0, .string a1_1, .string a1_2, .int .i64 a1_3, .string a1_4, .bool a1_5, .string a1_6, .bool a1_7, .string a1_8] 30 (0, 0)) z59_) : gb106 ≠ gb107)); have n9_ := Aside0.mk ((by rw [hg]; exact Nat.ne_of_gt (blk_lt (g := gb106) (o := .cells #[.string a1_0, .string a1_1, .string a1_2, .int .i64 a1_3, .string a1_4, .bool a1_5, .string a1_6, .bool a1_7, .string a1_8] 30 (0, 0)) z59_) : gb107 ≠ gb106)); clear BK105; clear BK106; clear HB; have BK105 := n0_; have BK106 := n1_; have HB := n2_; have BK107 := n3_; have GW107 := n4_; have GE107 := n5_; have NB105_107 := n6_; have NB107_105 := n7_; have NB106_107 := n8_; have NB107_106 := n9_; clear n0_ n1_ n2_ n3_ n4_ n5_ n6_ n7_ n8_ n9_; clear hb hbox hg; have hnb13 := NB105_106.out; have hnc13 := NB106_105.out; have hnb14 := NB105_107.out; have hnc14 := NB107_105.out; have hcz15_0 : w12.cell? ⟨gb105, 0, none⟩ = some (.int .i64 a0_0) := (blk_cell BK105.out 0).trans rfl; have hcz15_1 : w12.cell? ⟨gb105, 1, none⟩ = some (.string a0_1) := (blk_cell BK105.out 1).trans rfl; have hcz15_2 : w12.cell? ⟨gb105, 2, none⟩ = some (.bool a0_2) := (blk_cell BK105.out 2).trans rfl; have hcz15_3 : w12.cell? ⟨gb105, 3, none⟩ = some (.string a0_3) := (blk_cell BK105.out 3).trans rfl; have hcz15_4 : w12.cell? ⟨gb105, 4, none⟩ = some (.int .i64 a0_4) := (blk_cell BK105.out 4).trans rfl; have hcz15_5 : w12.cell? ⟨gb105, 5, none⟩ = some (.string a0_5) := (blk_cell BK105.out 5).trans rfl; have hcz15_6 : w12.cell? ⟨gb105, 6, none⟩ = some (.string a0_6) := (blk_cell BK105.out 6).trans rfl; have hfz15_0 := blk_frozen BK105.out 0; have hfz15_1 := blk_frozen BK105.out 1; have hfz15_2 := blk_frozen BK105.out 2; have hfz15_3 := blk_frozen BK105.out 3; have hfz15_4 := blk_frozen BK105.out 4; have hfz15_5 := blk_frozen BK105.out 5; have hfz15_6 := blk_frozen BK105.out 6) | ((with_reducible refine gate_callee (f := 14) rfl ?_); refine goesL_ (some 13) rfl rfl Tryz.func14 (by kernel_rfl) rfl #[.agg #[.int .i64 a0_0, .string a0_1, .bool a0_2, .string a0_3, .int .i64 a0_4, .string a0_5, .string a0_6]] rfl z46_ ?_; (with_reducible refine (pursuivantlaw11_cut.calls a0_0 a0_1 a0_2 a0_3 a0_4 a0_5 a0_6 t108 t109 t110 t111 t112 t113 t114 _ ?gw1_ A4.out).mono ?_); (case gw1_ => exact z3_); rintro e w16 ⟨rfl, hb⟩; refine ⟨_, rfl, ?_⟩; have n0_ := Aside0.mk (blk_below (g := gb105) (o := .cells #[.int .i64 a0_0, .string a0_1, .bool a0_2, .string a0_3, .int .i64 a0_4, .string a0_5, .string a0_6] 23 (0, 0)) z63_ hb); have n1_ := Aside0.mk (blk_below (g := gb106) (o := .cells #[.string a1_0, .string a1_1, .string a1_2, .int .i64 a1_3, .string a1_4, .bool a1_5, .string a1_6, .bool a1_7, .string a1_8] 30 (0, 0)) z59_ hb); have n2_ := Aside0.mk (blk_below (g := gb107) (o := .cells #[.string a2_0, .string a2_1, .int .i64 a2_2] 32 (0, 0)) z49_ hb); have n3_ := Aside0.mk (below_step z22_ hb); clear BK105; clear BK106; clear BK107; clear HB; have BK105 := n0_; have BK106 := n1_; have BK107 := n2_; have HB := n3_; clear n0_ n1_ n2_ n3_; (try clear hb); (try clear hb2); (try clear hk); (try clear hi)) | ((with_reducible refine gate_dst (N := 7) rfl ?_); refine box_event ?hg (N := 7) ?hd (cs := #[.int .i64 0, .string (⟨#[]⟩ : ByteArray), .bool false, .string (⟨#[]⟩ : ByteArray), .int .i64 0, .string (⟨#[]⟩ : ByteArray), .string (⟨#[]⟩ : ByteArray)]) (t := 23) ?hr ?_; (case hd => rfl); (case hg => rfl); (case hr => first | (go_simp; done) | (go_simp; rfl)); intro gb115 hg w17 hbox hb; have n0_ := Aside0.mk (blk_below (g := gb105) (o := .cells #[.int .i64 a0_0, .string a0_1, .bool a0_2, .string a0_3, .int .i64 a0_4, .string a0_5, .string a0_6] 23 (0, 0)) z63_ hb); have n1_ := Aside0.mk (blk_below (g := gb106) (o := .cells #[.string a1_0, .string a1_1, .string a1_2, .int .i64 a1_3, .string a1_4, .bool a1_5, .string a1_6, .bool a1_7, .string a1_8] 30 (0, 0)) z59_ hb); have n2_ := Aside0.mk (blk_below (g := gb107) (o := .cells #[.string a2_0, .string a2_1, .int .i64 a2_2] 32 (0, 0)) z49_ hb); have n3_ := Aside0.mk (below_step z22_ hb); have n4_ := Aside0.mk (hbox); have n5_ := Aside0.mk ((by rw [hg]; exact (below_size z22_) : w.heap.size ≤ gb115)); have n6_ := Aside0.mk ((by rw [hg]; exact (below_size z22_) : w.heap.size ≤ gb115)); have n7_ := Aside0.mk ((by rw [hg]; exact Nat.ne_of_lt (blk_lt (g := gb105) (o := .cells #[.int .i64 a0_0, .string a0_1, .bool a0_2, .string a0_3, .int .i64 a0_4, .string a0_5, .string a0_6] 23 (0, 0)) z63_) : gb105 ≠ gb115)); have n8_ := Aside0.mk ((by rw [hg]; exact Nat.ne_of_gt (blk_lt (g := gb105) (o := .cells #[.int .i64 a0_0, .string a0_1, .bool a0_2, .string a0_3, .int .i64 a0_4, .string a0_5, .string a0_6] 23 (0, 0)) z63_) : gb115 ≠ gb105)); have n9_ := Aside0.mk ((by rw [hg]; exact Nat.ne_of_lt (blk_lt (g := gb106) (o := .cells #[.string a1_0, .string a1_1, .string a1_2, .int .i64 a1_3, .string a1_4, .bool a1_5, .string a1_6, .bool a1_7, .string a1_8] 30 (0, 0)) z59_) : gb106 ≠ gb115)); have n10_ := Aside0.mk ((by rw [hg]; exact Nat.ne_of_gt (blk_lt (g := gb106) (o := .cells #[.string a1_0, .string a1_1, .string a1_2, .int .i64 a1_3, .string a1_4, .bool a1_5, .string a1_6, .bool a1_7, .string a1_8] 30 (0, 0)) z59_) : gb115 ≠ gb106)); have n11_ := Aside0.mk ((by rw [hg]; exact Nat.ne_of_lt (blk_lt (g := gb107) (o := .cells #[.string a2_0, .string a2_1, .int .i64 a2_2] 32 (0, 0)) z49_) : gb107 ≠ gb115)); have n12_ := Aside0.mk ((by rw [hg]; exact Nat.ne_of_gt (blk_lt (g := gb107) (o := .cells #[.string a2_0, .string a2_1, .int .i64 a2_2] 32 (0, 0)) z49_) : gb115 ≠ gb107)); clear BK105; clear BK106; clear BK107; clear HB; have BK105 := n0_; have BK106 := n1_; have BK107 := n2_; have HB := n3_; have BK115 := n4_; have GW115 := n5_; have GE115 := n6_; have NB105_115 := n7_; have NB115_105 := n8_; have NB106_115 := n9_; have NB115_106 := n10_; have NB107_115 := n11_; have NB115_107 := n12_; clear n0_ n1_ n2_ n3_ n4_ n5_ n6_ n7_ n8_ n9_ n10_ n11_ n12_; clear hb hbox hg; have hnb18 := NB115_105.out; have hnc18 := NB105_115.out; have hnb19 := NB115_106.out; have hnc19 := NB106_115.out; have hnb20 := NB115_107.out; have hnc20 := NB107_115.out; have hcz21_0 : w17.cell? ⟨gb115, 0, none⟩ = some (.int .i64 0) := (blk_cell BK115.out 0).trans rfl; have hcz21_1 : w17.cell? ⟨gb115, 1, none⟩ = some (.string (⟨#[]⟩ : ByteArray)) := (blk_cell BK115.out 1).trans rfl; have hcz21_2 : w17.cell? ⟨gb115, 2, none⟩ = some (.bool false) := (blk_cell BK115.out 2).trans rfl; have hcz21_3 : w17.cell? ⟨gb115, 3, none⟩ = some (.string (⟨#[]⟩ : ByteArray)) := (blk_cell BK115.out 3).trans rfl; have hcz21_4 : w17.cell? ⟨gb115, 4, none⟩ = some (.int .i64 0) := (blk_cell BK115.out 4).trans rfl; have hcz21_5 : w17.cell? ⟨gb115, 5, none⟩ = some (.string (⟨#[]⟩ : ByteArray)) := (blk_cell BK115.out 5).trans rfl; have hcz21_6 : w17.cell? ⟨gb115, 6, none⟩ = some (.string (⟨#[]⟩ : ByteArray)) := (blk_cell BK115.out 6).trans rfl; have hfz21_0 := blk_frozen BK115.out 0; have hfz21_1 := blk_frozen BK115.out 1; have hfz21_2 := blk_frozen BK115.out 2; have hfz21_3 := blk_frozen BK115.out 3; have hfz21_4 := blk_frozen BK115.out 4; have hfz21_5 := blk_frozen BK115.out 5; have hfz21_6 := blk_frozen BK115.out 6) | ((with_reducible refine gate_callee (f := 19) rfl ?_); refine goesL_ (some 15) rfl rfl Tryz.func19 (by kernel_rfl) rfl #[.agg #[.int .i64 t108, .string t109, .bool t110, .string t111, .int .i64 t112, .string t113, .string t114]] rfl z46_ ?_; (with_reducible refine (source_Good.calls k t108 t109 t110 t111 t112 t113 t114 true _ ?gw2_ A5.out).mono ?_); (case gw2_ => exact z3_); rintro e w22 ⟨rfl, hb⟩; refine ⟨_, rfl, ?_⟩; have n0_ := Aside0.mk (blk_below (g := gb105) (o := .cells #[.int .i64 a0_0, .string a0_1, .bool a0_2, .string a0_3, .int .i64 a0_4, .string a0_5, .string a0_6] 23 (0, 0)) (by (with_reducible repeat (first | refine blk_drewN ?_ _ | refine blk_drew ?_ | refine blk_alloc ?_ _)); refine blk_far ?_ NB105_115.out _; (with_reducible repeat (first | refine blk_drewN ?_ _ | refine blk_drew ?_ | refine blk_alloc ?_ _)); refine blk_far ?_ NB105_115.out _; (with_reducible repeat (first | refine blk_drewN ?_ _ | refine blk_drew ?_ | refine blk_alloc ?_ _)); refine blk_far ?_ NB105_115.out _; (with_reducible repeat (first | refine blk_drewN ?_ _ | refine blk_drew ?_ | refine blk_alloc ?_ _)); refine blk_far ?_ NB105_115.out _; (with_reducible repeat (first | refine blk_drewN ?_ _ | refine blk_drew ?_ | refine blk_alloc ?_ _)); refine blk_far ?_ NB105_115.out _; (with_reducible repeat (first | refine blk_drewN ?_ _ | refine blk_drew ?_ | refine blk_alloc ?_ _)); refine blk_far ?_ NB105_115.out _; (with_reducible repeat (first | refine blk_drewN ?_ _ | refine blk_drew ?_ | refine blk_alloc ?_ _)); refine blk_far ?_ NB105_115.out _; (with_reducible repeat (first | refine blk_drewN ?_ _ | refine blk_drew ?_ | refine blk_alloc ?_ _)); exact BK105.out) hb); have n1_ := Aside0.mk (blk_below (g := gb106) (o := .cells #[.string a1_0, .string a1_1, .string a1_2, .int .i64 a1_3, .string a1_4, .bool a1_5, .string a1_6, .bool a1_7, .string a1_8] 30 (0, 0)) (by (with_reducible repeat (first | refine blk_drewN ?_ _ | refine blk_drew ?_ | refine blk_alloc ?_ _)); refine blk_far ?_ NB106_115.out _; (with_reducible repeat (first | refine blk_drewN ?_ _ | refine blk_drew ?_ | refine blk_alloc ?_ _)); refine blk_far ?_ NB106_115.out _; (with_reducible repeat (first | refine blk_drewN ?_ _ | refine blk_drew ?_ | refine blk_alloc ?_ _)); refine blk_far ?_ NB106_115.out _; (with_reducible repeat (first | refine blk_drewN ?_ _ | refine blk_drew ?_ | refine blk_alloc ?_ _)); refine blk_far ?_ NB106_115.out _; (with_reducible repeat (first | refine blk_drewN ?_ _ | refine blk_drew ?_ | refine blk_alloc ?_ _)); refine blk_far ?_ NB106_115.out _; (with_reducible repeat (first | refine blk_drewN ?_ _ | refine blk_drew ?_ | refine blk_alloc ?_ _)); refine blk_far ?_ NB106_115.out _; (with_reducible repeat (first | refine blk_drewN ?_ _ | refine blk_drew ?_ | refine blk_alloc ?_ _)); refine blk_far ?_ NB106_115.out _; (with_reducible repeat (first | refine blk_drewN ?_ _ | refine blk_drew ?_ | refine blk_alloc ?_ _)); exact BK106.out) hb); have n2_ := Aside0.mk (blk_below (g := gb107) (o := .cells #[.string a2_0, .string a2_1, .int .i64 a2_2] 32 (0, 0)) (by (with_reducible repeat (first | refine blk_drewN ?_ _ | refine blk_drew ?_ | refine blk_alloc ?_ _)); refine blk_far ?_ NB107_115.out _; (with_reducible repeat (first | refine blk_drewN ?_ _ | refine blk_drew ?_ | refine blk_alloc ?_ _)); refine blk_far ?_ NB107_115.out _; (with_reducible repeat (first | refine blk_drewN ?_ _ | refine blk_drew ?_ | refine blk_alloc ?_ _)); refine blk_far ?_ NB107_115.out _; (with_reducible repeat (first | refine blk_drewN ?_ _ | refine blk_drew ?_ | refine blk_alloc ?_ _)); refine blk_far ?_ NB107_115.out _; (with_reducible repeat (first | refine blk_drewN ?_ _ | refine blk_drew ?_ | refine blk_alloc ?_ _)); refine blk_far ?_ NB107_115.out _; (with_reducible repeat (first | refine blk_drewN ?_ _ | refine blk_drew ?_ | refine blk_alloc ?_ _)); refine blk_far ?_ NB107_115.out _; (with_reducible repeat (first | refine blk_drewN ?_ _ | refine blk_drew ?_ | refine blk_alloc ?_ _)); refine blk_far ?_ NB107_115.out _; (with_reducible repeat (first | refine blk_drewN ?_ _ | refine blk_drew ?_ | refine blk_alloc ?_ _)); exact BK107.out) hb); have n3_ := Aside0.mk (blk_below (g := gb115) (o := .cells #[.int .i64 t108, .string t109, .bool t110, .string t111, .int .i64 t112, .string t113, .string t114] 23 (0, 0)) (by (with_reducible repeat (first | refine blk_drewN ?_ _ | refine blk_drew ?_ | refine blk_alloc ?_ _)); refine blk_put (cs := #[.int .i64 t108, .string t109, .bool t110, .string t111, .int .i64 t112, .string t113, .string (⟨#[]⟩ : ByteArray)]) ?_ 6 _ rfl; (with_reducible repeat (first | refine blk_drewN ?_ _ | refine blk_drew ?_ | refine blk_alloc ?_ _)); refine blk_put (cs := #[.int .i64 t108, .string t109, .bool t110, .string t111, .int .i64 t112, .string (⟨#[]⟩ : ByteArray), .string (⟨#[]⟩ : ByteArray)]) ?_ 5 _ rfl; (with_reducible repeat (first | refine blk_drewN ?_ _ | refine blk_drew ?_ | refine blk_alloc ?_ _)); refine blk_put (cs := #[.int .i64 t108, .string t109, .bool t110, .string t111, .int .i64 0, .string (⟨#[]⟩ : ByteArray), .string (⟨#[]⟩ : ByteArray)]) ?_ 4 _ rfl; (with_reducible repeat (first | refine blk_drewN ?_ _ | refine blk_drew ?_ | refine blk_alloc ?_ _)); refine blk_put (cs := #[.int .i64 t108, .string t109, .bool t110, .string (⟨#[]⟩ : ByteArray), .int .i64 0, .string (⟨#[]⟩ : ByteArray), .string (⟨#[]⟩ : ByteArray)]) ?_ 3 _ rfl; (with_reducible repeat (first | refine blk_drewN ?_ _ | refine blk_drew ?_ | refine blk_alloc ?_ _)); refine blk_put (cs := #[.int .i64 t108, .string t109, .bool false, .string (⟨#[]⟩ : ByteArray), .int .i64 0, .string (⟨#[]⟩ : ByteArray), .string (⟨#[]⟩ : ByteArray)]) ?_ 2 _ rfl; (with_reducible repeat (first | refine blk_drewN ?_ _ | refine blk_drew ?_ | refine blk_alloc ?_ _)); refine blk_put (cs := #[.int .i64 t108, .string (⟨#[]⟩ : ByteArray), .bool false, .string (⟨#[]⟩ : ByteArray), .int .i64 0, .string (⟨#[]⟩ : ByteArray), .string (⟨#[]⟩ : ByteArray)]) ?_ 1 _ rfl; (with_reducible repeat (first | refine blk_drewN ?_ _ | refine blk_drew ?_ | refine blk_alloc ?_ _)); refine blk_put (cs := #[.int .i64 0, .string (⟨#[]⟩ : ByteArray), .bool false, .string (⟨#[]⟩ : ByteArray), .int .i64 0, .string (⟨#[]⟩ : ByteArray), .string (⟨#[]⟩ : ByteArray)]) ?_ 0 _ rfl; (with_reducible repeat (first | refine blk_drewN ?_ _ | refine blk_drew ?_ | refine blk_alloc ?_ _)); exact BK115.out) hb); have n4_ := Aside0.mk (below_step z19_ hb); clear BK105; clear BK106; clear BK107; clear BK115; clear HB; have BK105 := n0_; have BK106 := n1_; have BK107 := n2_; have BK115 := n3_; have HB := n4_; clear n0_ n1_ n2_ n3_ n4_; (try clear hb); (try clear hb2); (try clear hk); (try clear hi); have hcz23_0 : w22.cell? ⟨gb115, 0, none⟩ = some (.int .i64 t108) := (blk_cell BK115.out 0).trans rfl; have hcz23_1 : w22.cell? ⟨gb115, 1, none⟩ = some (.string t109) := (blk_cell BK115.out 1).trans rfl; have hcz23_2 : w22.cell? ⟨gb115, 2, none⟩ = some (.bool t110) := (blk_cell BK115.out 2).trans rfl; have hcz23_3 : w22.cell? ⟨gb115, 3, none⟩ = some (.string t111) := (blk_cell BK115.out 3).trans rfl; have hcz23_4 : w22.cell? ⟨gb115, 4, none⟩ = some (.int .i64 t112) := (blk_cell BK115.out 4).trans rfl; have hcz23_5 : w22.cell? ⟨gb115, 5, none⟩ = some (.string t113) := (blk_cell BK115.out 5).trans rfl; have hcz23_6 : w22.cell? ⟨gb115, 6, none⟩ = some (.string t114) := (blk_cell BK115.out 6).trans rfl; have hfz23_0 := blk_frozen BK115.out 0; have hfz23_1 := blk_frozen BK115.out 1; have hfz23_2 := blk_frozen BK115.out 2; have hfz23_3 := blk_frozen BK115.out 3; have hfz23_4 := blk_frozen BK115.out 4; have hfz23_5 := blk_frozen BK115.out 5; have hfz23_6 := blk_frozen BK115.out 6) | ((with_reducible refine gate_callee (f := 20) rfl ?_); refine goesL_ (some 25) rfl rfl Tryz.func20 (by kernel_rfl) rfl #[.agg #[.int .i64 t108, .string t109, .bool t110, .string t111, .int .i64 t112, .string t113, .string t114]] rfl z46_ ?_; (with_reducible refine (source_Text.calls k t108 t109 t110 t111 t112 t113 t114 t119 _ ?gw3_ A7.out).mono ?_); (case gw3_ => exact z3_); rintro e w24 ⟨rfl, hb⟩; refine ⟨_, rfl, ?_⟩; have n0_ := Aside0.mk (blk_below (g := gb105) (o := .cells #[.int .i64 a0_0, .string a0_1, .bool a0_2, .string a0_3, .int .i64 a0_4, .string a0_5, .string a0_6] 23 (0, 0)) z63_ hb); have n1_ := Aside0.mk (blk_below (g := gb106) (o := .cells #[.string a1_0, .string a1_1, .string a1_2, .int .i64 a1_3, .string a1_4, .bool a1_5, .string a1_6, .bool a1_7, .string a1_8] 30 (0, 0)) z59_ hb); have n2_ := Aside0.mk (blk_below (g := gb107) (o := .cells #[.string a2_0, .string a2_1, .int .i64 a2_2] 32 (0, 0)) z49_ hb); have n3_ := Aside0.mk (blk_below (g := gb115) (o := .cells #[.int .i64 t108, .string t109, .bool t110, .string t111, .int .i64 t112, .string t113, .string t114] 23 (0, 0)) z64_ hb); have n4_ := Aside0.mk (below_step z19_ hb); clear BK105; clear BK106; clear BK107; clear BK115; clear HB; have BK105 := n0_; have BK106 := n1_; have BK107 := n2_; have BK115 := n3_; have HB := n4_; clear n0_ n1_ n2_ n3_ n4_; (try clear hb); (try clear hb2); (try clear hk); (try clear hi)) | ((with_reducible refine gate_callee (f := 9) rfl ?_); refine goesL_ (some 26) rfl rfl Tryz.func9 (by kernel_rfl) rfl #[.string t119] rfl z46_ ?_; (with_reducible refine (source_Parse.calls k t119 t120 t121 t122 t123 t124 t125 t126 t127 _ ?gw4_ A8.out).mono ?_); (case gw4_ => exact z3_); rintro e w25 ⟨rfl, hb⟩; refine ⟨_, rfl, ?_⟩; have n0_ := Aside0.mk (blk_below (g := gb105) (o := .cells #[.int .i64 a0_0, .string a0_1, .bool a0_2, .string a0_3, .int .i64 a0_4, .string a0_5, .string a0_6] 23 (0, 0)) z63_ hb); have n1_ := Aside0.mk (blk_below (g := gb106) (o := .cells #[.string a1_0, .string a1_1, .string a1_2, .int .i64 a1_3, .string a1_4, .bool a1_5, .string a1_6, .bool a1_7, .string a1_8] 30 (0, 0)) z59_ hb); have n2_ := Aside0.mk (blk_below (g := gb107) (o := .cells #[.string a2_0, .string a2_1, .int .i64 a2_2] 32 (0, 0)) z49_ hb); have n3_ := Aside0.mk (blk_below (g := gb115) (o := .cells #[.int .i64 t108, .string t109, .bool t110, .string t111, .int .i64 t112, .string t113, .string t114] 23 (0, 0)) z64_ hb); have n4_ := Aside0.mk (below_step z19_ hb); clear BK105; clear BK106; clear BK107; clear BK115; clear HB; have BK105 := n0_; have BK106 := n1_; have BK107 := n2_; have BK115 := n3_; have HB := n4_; clear n0_ n1_ n2_ n3_ n4_; (try clear hb); (try clear hb2); (try clear hk); (try clear hi)) | ((with_reducible refine gate_dst (N := 8) rfl ?_); refine box_event ?hg (N := 8) ?hd (cs := #[.int .i64 0, .string (⟨#[]⟩ : ByteArray), .bool false, .string (⟨#[]⟩ : ByteArray), .int .i64 0, .string (⟨#[]⟩ : ByteArray), .string (⟨#[]⟩ : ByteArray)]) (t := 23) ?hr ?_; (case hd => rfl); (case hg => rfl); (case hr => first | (go_simp; done) | (go_simp; rfl)); intro gb128 hg w26 hbox hb; have n0_ := Aside0.mk (blk_below (g := gb105) (o := .cells #[.int .i64 a0_0, .string a0_1, .bool a0_2, .string a0_3, .int .i64 a0_4, .string a0_5, .string a0_6] 23 (0, 0)) z63_ hb); have n1_ := Aside0.mk (blk_below (g := gb106) (o := .cells #[.string a1_0, .string a1_1, .string a1_2, .int .i64 a1_3, .string a1_4, .bool a1_5, .string a1_6, .bool a1_7, .string a1_8] 30 (0, 0)) z59_ hb); have n2_ := Aside0.mk (blk_below (g := gb107) (o := .cells #[.string a2_0, .string a2_1, .int .i64 a2_2] 32 (0, 0)) z49_ hb); have n3_ := Aside0.mk (blk_below (g := gb115) (o := .cells #[.int .i64 t108, .string t109, .bool t110, .string t111, .int .i64 t112, .string t113, .string t114] 23 (0, 0)) z64_ hb); have n4_ := Aside0.mk (below_step z19_ hb); have n5_ := Aside0.mk (hbox); have n6_ := Aside0.mk ((by rw [hg]; exact (below_size z19_) : w.heap.size ≤ gb128)); have n7_ := Aside0.mk ((by rw [hg]; exact (below_size z19_) : w.heap.size ≤ gb128)); have n8_ := Aside0.mk ((by rw [hg]; exact Nat.ne_of_lt (blk_lt (g := gb105) (o := .cells #[.int .i64 a0_0, .string a0_1, .bool a0_2, .string a0_3, .int .i64 a0_4, .string a0_5, .string a0_6] 23 (0, 0)) z63_) : gb105 ≠ gb128)); have n9_ := Aside0.mk ((by rw [hg]; exact Nat.ne_of_gt (blk_lt (g := gb105) (o := .cells #[.int .i64 a0_0, .string a0_1, .bool a0_2, .string a0_3, .int .i64 a0_4, .string a0_5, .string a0_6] 23 (0, 0)) z63_) : gb128 ≠ gb105)); have n10_ := Aside0.mk ((by rw [hg]; exact Nat.ne_of_lt (blk_lt (g := gb106) (o := .cells #[.string a1_0, .string a1_1, .string a1_2, .int .i64 a1_3, .string a1_4, .bool a1_5, .string a1_6, .bool a1_7, .string a1_8] 30 (0, 0)) z59_) : gb106 ≠ gb128)); have n11_ := Aside0.mk ((by rw [hg]; exact Nat.ne_of_gt (blk_lt (g := gb106) (o := .cells #[.string a1_0, .string a1_1, .string a1_2, .int .i64 a1_3, .string a1_4, .bool a1_5, .string a1_6, .bool a1_7, .string a1_8] 30 (0, 0)) z59_) : gb128 ≠ gb106)); have n12_ := Aside0.mk ((by rw [hg]; exact Nat.ne_of_lt (blk_lt (g := gb107) (o := .cells #[.string a2_0, .string a2_1, .int .i64 a2_2] 32 (0, 0)) z49_) : gb107 ≠ gb128)); have n13_ := Aside0.mk ((by rw [hg]; exact Nat.ne_of_gt (blk_lt (g := gb107) (o := .cells #[.string a2_0, .string a2_1, .int .i64 a2_2] 32 (0, 0)) z49_) : gb128 ≠ gb107)); have n14_ := Aside0.mk ((by rw [hg]; exact Nat.ne_of_lt (blk_lt (g := gb115) (o := .cells #[.int .i64 t108, .string t109, .bool t110, .string t111, .int .i64 t112, .string t113, .string t114] 23 (0, 0)) z64_) : gb115 ≠ gb128)); have n15_ := Aside0.mk ((by rw [hg]; exact Nat.ne_of_gt (blk_lt (g := gb115) (o := .cells #[.int .i64 t108, .string t109, .bool t110, .string t111, .int .i64 t112, .string t113, .string t114] 23 (0, 0)) z64_) : gb128 ≠ gb115)); clear BK105; clear BK106; clear BK107; clear BK115; clear HB; have BK105 := n0_; have BK106 := n1_; have BK107 := n2_; have BK115 := n3_; have HB := n4_; have BK128 := n5_; have GW128 := n6_; have GE128 := n7_; have NB105_128 := n8_; have NB128_105 := n9_; have NB106_128 := n10_; have NB128_106 := n11_; have NB107_128 := n12_; have NB128_107 := n13_; have NB115_128 := n14_; have NB128_115 := n15_; clear n0_ n1_ n2_ n3_ n4_ n5_ n6_ n7_ n8_ n9_ n10_ n11_ n12_ n13_ n14_ n15_; clear hb hbox hg; have hnb27 := NB128_105.out; have hnc27 := NB105_128.out; have hnb28 := NB128_106.out; have hnc28 := NB106_128.out; have hnb29 := NB128_107.out; have hnc29 := NB107_128.out; have hnb30 := NB128_115.out; have hnc30 := NB115_128.out; have hcz31_0 : w26.cell? ⟨gb128, 0, none⟩ = some (.int .i64 0) := (blk_cell BK128.out 0).trans rfl; have hcz31_1 : w26.cell? ⟨gb128, 1, none⟩ = some (.string (⟨#[]⟩ : ByteArray)) := (blk_cell BK128.out 1).trans rfl; have hcz31_2 : w26.cell? ⟨gb128, 2, none⟩ = some (.bool false) := (blk_cell BK128.out 2).trans rfl; have hcz31_3 : w26.cell? ⟨gb128, 3, none⟩ = some (.string (⟨#[]⟩ : ByteArray)) := (blk_cell BK128.out 3).trans rfl; have hcz31_4 : w26.cell? ⟨gb128, 4, none⟩ = some (.int .i64 0) := (blk_cell BK128.out 4).trans rfl; have hcz31_5 : w26.cell? ⟨gb128, 5, none⟩ = some (.string (⟨#[]⟩ : ByteArray)) := (blk_cell BK128.out 5).trans rfl; have hcz31_6 : w26.cell? ⟨gb128, 6, none⟩ = some (.string (⟨#[]⟩ : ByteArray)) := (blk_cell BK128.out 6).trans rfl; have hfz31_0 := blk_frozen BK128.out 0; have hfz31_1 := blk_frozen BK128.out 1; have hfz31_2 := blk_frozen BK128.out 2; have hfz31_3 := blk_frozen BK128.out 3; have hfz31_4 := blk_frozen BK128.out 4; have hfz31_5 := blk_frozen BK128.out 5; have hfz31_6 := blk_frozen BK128.out 6))
  (try simp only [Act.put, List.setIfInBounds_toArray, List.set_cons_zero, List.set_cons_succ])
  go_cut [35] (fun v35 wc => ∃ (kq : Nat) (x35_8 : Bool), v35 = .bool x35_8 ∧ Aside0 (pursuivantlaw11_SourceRound.j0 kq x35_8 a1_0 a1_1 a1_2 a1_3 a1_4 a1_5 a1_6 a1_7 a1_8 a2_0 a2_1 a2_2 t108 t109 t110 t111 t112 t113 t114 = some r) ∧ Aside0 (kq ≤ k) ∧ Aside0 (wc.heap[gb105]? = some (.cells #[.int .i64 a0_0, .string a0_1, .bool a0_2, .string a0_3, .int .i64 a0_4, .string a0_5, .string a0_6] 23 (0, 0))) ∧ Aside0 (wc.heap[gb106]? = some (.cells #[.string a1_0, .string a1_1, .string a1_2, .int .i64 a1_3, .string a1_4, .bool a1_5, .string a1_6, .bool a1_7, .string a1_8] 30 (0, 0))) ∧ Aside0 (wc.heap[gb107]? = some (.cells #[.string a2_0, .string a2_1, .int .i64 a2_2] 32 (0, 0))) ∧ Aside0 (wc.heap[gb115]? = some (.cells #[.int .i64 t108, .string t109, .bool t110, .string t111, .int .i64 t112, .string t113, .string t114] 23 (0, 0))) ∧ Aside0 (wc.heap[gb128]? = some (.cells #[.int .i64 t120, .string t121, .bool t122, .string t123, .int .i64 t124, .string t125, .string t126] 23 (0, 0))) ∧ Aside0 (Below w.heap.size w wc))
  case first =>
   have H := HC9.out
   clear HC9
   by_cases c32 : (!(t120 == t108) || (!(t121.toList == t109.toList) || (!(t122 == t110) || (!(t123.toList == t111.toList) || (!(t124 == t112) || (!(t125.toList == t113.toList) || (!(t126.toList == t114.toList)))))))) = true
   ·rw [if_pos c32] at H
    have c32b0 : (!(t120 == t108) || (!(t121.toList == t109.toList) || (!(t122 == t110) || (!(t123.toList == t111.toList) || (!(t124 == t112) || (!(t125.toList == t113.toList) || (!(t126.toList == t114.toList)))))))) = true := c32
    clear c32
    (first | rw [c32b0] | (simp only [i64_w, i32_w]; rw [c32b0]) | skip)
    have H' := Aside0.mk H
    clear H; have hnb33 := NB128_105.out; have hnc33 := NB105_128.out; have hnb34 := NB128_106.out; have hnc34 := NB106_128.out; have hnb35 := NB128_107.out; have hnc35 := NB107_128.out; have hnb36 := NB128_115.out; have hnc36 := NB115_128.out; obtain ⟨hcz37_0, hcz37_1, hcz37_2, hcz37_3, hcz37_4, hcz37_5, hcz37_6⟩ := blkc7_ BK128.out; obtain ⟨hfz37_0, hfz37_1, hfz37_2, hfz37_3, hfz37_4, hfz37_5, hfz37_6⟩ := blkf7_ BK128.out; have hnb38 := NB115_105.out; have hnc38 := NB105_115.out; have hnb39 := NB115_106.out; have hnc39 := NB106_115.out; have hnb40 := NB115_107.out; have hnc40 := NB107_115.out; obtain ⟨hcz41_0, hcz41_1, hcz41_2, hcz41_3, hcz41_4, hcz41_5, hcz41_6⟩ := blkc7_ BK115.out; obtain ⟨hfz41_0, hfz41_1, hfz41_2, hfz41_3, hfz41_4, hfz41_5, hfz41_6⟩ := blkf7_ BK115.out; go_wp2; go_meet
    case rel => exact ⟨_, (true), z68_, H', ⟨z74_⟩, ⟨by (with_reducible repeat (first | refine blk_drewN ?_ _ | refine blk_drew ?_ | refine blk_alloc ?_ _)); refine blk_far ?_ NB105_128.out _; (with_reducible repeat (first | refine blk_drewN ?_ _ | refine blk_drew ?_ | refine blk_alloc ?_ _)); refine blk_far ?_ NB105_128.out _; (with_reducible repeat (first | refine blk_drewN ?_ _ | refine blk_drew ?_ | refine blk_alloc ?_ _)); refine blk_far ?_ NB105_128.out _; (with_reducible repeat (first | refine blk_drewN ?_ _ | refine blk_drew ?_ | refine blk_alloc ?_ _)); refine blk_far ?_ NB105_128.out _; (with_reducible repeat (first | refine blk_drewN ?_ _ | refine blk_drew ?_ | refine blk_alloc ?_ _)); refine blk_far ?_ NB105_128.out _; (with_reducible repeat (first | refine blk_drewN ?_ _ | refine blk_drew ?_ | refine blk_alloc ?_ _)); refine blk_far ?_ NB105_128.out _; (with_reducible repeat (first | refine blk_drewN ?_ _ | refine blk_drew ?_ | refine blk_alloc ?_ _)); refine blk_far ?_ NB105_128.out _; (with_reducible repeat (first | refine blk_drewN ?_ _ | refine blk_drew ?_ | refine blk_alloc ?_ _)); exact BK105.out⟩, ⟨by (with_reducible repeat (first | refine blk_drewN ?_ _ | refine blk_drew ?_ | refine blk_alloc ?_ _)); refine blk_far ?_ NB106_128.out _; (with_reducible repeat (first | refine blk_drewN ?_ _ | refine blk_drew ?_ | refine blk_alloc ?_ _)); refine blk_far ?_ NB106_128.out _; (with_reducible repeat (first | refine blk_drewN ?_ _ | refine blk_drew ?_ | refine blk_alloc ?_ _)); refine blk_far ?_ NB106_128.out _; (with_reducible repeat (first | refine blk_drewN ?_ _ | refine blk_drew ?_ | refine blk_alloc ?_ _)); refine blk_far ?_ NB106_128.out _; (with_reducible repeat (first | refine blk_drewN ?_ _ | refine blk_drew ?_ | refine blk_alloc ?_ _)); refine blk_far ?_ NB106_128.out _; (with_reducible repeat (first | refine blk_drewN ?_ _ | refine blk_drew ?_ | refine blk_alloc ?_ _)); refine blk_far ?_ NB106_128.out _; (with_reducible repeat (first | refine blk_drewN ?_ _ | refine blk_drew ?_ | refine blk_alloc ?_ _)); refine blk_far ?_ NB106_128.out _; (with_reducible repeat (first | refine blk_drewN ?_ _ | refine blk_drew ?_ | refine blk_alloc ?_ _)); exact BK106.out⟩, ⟨by (with_reducible repeat (first | refine blk_drewN ?_ _ | refine blk_drew ?_ | refine blk_alloc ?_ _)); refine blk_far ?_ NB107_128.out _; (with_reducible repeat (first | refine blk_drewN ?_ _ | refine blk_drew ?_ | refine blk_alloc ?_ _)); refine blk_far ?_ NB107_128.out _; (with_reducible repeat (first | refine blk_drewN ?_ _ | refine blk_drew ?_ | refine blk_alloc ?_ _)); refine blk_far ?_ NB107_128.out _; (with_reducible repeat (first | refine blk_drewN ?_ _ | refine blk_drew ?_ | refine blk_alloc ?_ _)); refine blk_far ?_ NB107_128.out _; (with_reducible repeat (first | refine blk_drewN ?_ _ | refine blk_drew ?_ | refine blk_alloc ?_ _)); refine blk_far ?_ NB107_128.out _; (with_reducible repeat (first | refine blk_drewN ?_ _ | refine blk_drew ?_ | refine blk_alloc ?_ _)); refine blk_far ?_ NB107_128.out _; (with_reducible repeat (first | refine blk_drewN ?_ _ | refine blk_drew ?_ | refine blk_alloc ?_ _)); refine blk_far ?_ NB107_128.out _; (with_reducible repeat (first | refine blk_drewN ?_ _ | refine blk_drew ?_ | refine blk_alloc ?_ _)); exact BK107.out⟩, ⟨by (with_reducible repeat (first | refine blk_drewN ?_ _ | refine blk_drew ?_ | refine blk_alloc ?_ _)); refine blk_far ?_ NB115_128.out _; (with_reducible repeat (first | refine blk_drewN ?_ _ | refine blk_drew ?_ | refine blk_alloc ?_ _)); refine blk_far ?_ NB115_128.out _; (with_reducible repeat (first | refine blk_drewN ?_ _ | refine blk_drew ?_ | refine blk_alloc ?_ _)); refine blk_far ?_ NB115_128.out _; (with_reducible repeat (first | refine blk_drewN ?_ _ | refine blk_drew ?_ | refine blk_alloc ?_ _)); refine blk_far ?_ NB115_128.out _; (with_reducible repeat (first | refine blk_drewN ?_ _ | refine blk_drew ?_ | refine blk_alloc ?_ _)); refine blk_far ?_ NB115_128.out _; (with_reducible repeat (first | refine blk_drewN ?_ _ | refine blk_drew ?_ | refine blk_alloc ?_ _)); refine blk_far ?_ NB115_128.out _; (with_reducible repeat (first | refine blk_drewN ?_ _ | refine blk_drew ?_ | refine blk_alloc ?_ _)); refine blk_far ?_ NB115_128.out _; (with_reducible repeat (first | refine blk_drewN ?_ _ | refine blk_drew ?_ | refine blk_alloc ?_ _)); exact BK115.out⟩, ⟨by (with_reducible repeat (first | refine blk_drewN ?_ _ | refine blk_drew ?_ | refine blk_alloc ?_ _)); refine blk_put (cs := #[.int .i64 t120, .string t121, .bool t122, .string t123, .int .i64 t124, .string t125, .string (⟨#[]⟩ : ByteArray)]) ?_ 6 _ rfl; (with_reducible repeat (first | refine blk_drewN ?_ _ | refine blk_drew ?_ | refine blk_alloc ?_ _)); refine blk_put (cs := #[.int .i64 t120, .string t121, .bool t122, .string t123, .int .i64 t124, .string (⟨#[]⟩ : ByteArray), .string (⟨#[]⟩ : ByteArray)]) ?_ 5 _ rfl; (with_reducible repeat (first | refine blk_drewN ?_ _ | refine blk_drew ?_ | refine blk_alloc ?_ _)); refine blk_put (cs := #[.int .i64 t120, .string t121, .bool t122, .string t123, .int .i64 0, .string (⟨#[]⟩ : ByteArray), .string (⟨#[]⟩ : ByteArray)]) ?_ 4 _ rfl; (with_reducible repeat (first | refine blk_drewN ?_ _ | refine blk_drew ?_ | refine blk_alloc ?_ _)); refine blk_put (cs := #[.int .i64 t120, .string t121, .bool t122, .string (⟨#[]⟩ : ByteArray), .int .i64 0, .string (⟨#[]⟩ : ByteArray), .string (⟨#[]⟩ : ByteArray)]) ?_ 3 _ rfl; (with_reducible repeat (first | refine blk_drewN ?_ _ | refine blk_drew ?_ | refine blk_alloc ?_ _)); refine blk_put (cs := #[.int .i64 t120, .string t121, .bool false, .string (⟨#[]⟩ : ByteArray), .int .i64 0, .string (⟨#[]⟩ : ByteArray), .string (⟨#[]⟩ : ByteArray)]) ?_ 2 _ rfl; (with_reducible repeat (first | refine blk_drewN ?_ _ | refine blk_drew ?_ | refine blk_alloc ?_ _)); refine blk_put (cs := #[.int .i64 t120, .string (⟨#[]⟩ : ByteArray), .bool false, .string (⟨#[]⟩ : ByteArray), .int .i64 0, .string (⟨#[]⟩ : ByteArray), .string (⟨#[]⟩ : ByteArray)]) ?_ 1 _ rfl; (with_reducible repeat (first | refine blk_drewN ?_ _ | refine blk_drew ?_ | refine blk_alloc ?_ _)); refine blk_put (cs := #[.int .i64 0, .string (⟨#[]⟩ : ByteArray), .bool false, .string (⟨#[]⟩ : ByteArray), .int .i64 0, .string (⟨#[]⟩ : ByteArray), .string (⟨#[]⟩ : ByteArray)]) ?_ 0 _ rfl; (with_reducible repeat (first | refine blk_drewN ?_ _ | refine blk_drew ?_ | refine blk_alloc ?_ _)); exact BK128.out⟩, ⟨z18_⟩⟩
   ·rw [if_neg c32] at H
    have c32b0 : (!(t120 == t108) || (!(t121.toList == t109.toList) || (!(t122 == t110) || (!(t123.toList == t111.toList) || (!(t124 == t112) || (!(t125.toList == t113.toList) || (!(t126.toList == t114.toList)))))))) = false := by simpa using c32
    clear c32
    (first | rw [c32b0] | (simp only [i64_w, i32_w]; rw [c32b0]) | skip)
    have H' := Aside0.mk H
    clear H; have hnb42 := NB128_105.out; have hnc42 := NB105_128.out; have hnb43 := NB128_106.out; have hnc43 := NB106_128.out; have hnb44 := NB128_107.out; have hnc44 := NB107_128.out; have hnb45 := NB128_115.out; have hnc45 := NB115_128.out; obtain ⟨hcz46_0, hcz46_1, hcz46_2, hcz46_3, hcz46_4, hcz46_5, hcz46_6⟩ := blkc7_ BK128.out; obtain ⟨hfz46_0, hfz46_1, hfz46_2, hfz46_3, hfz46_4, hfz46_5, hfz46_6⟩ := blkf7_ BK128.out; have hnb47 := NB115_105.out; have hnc47 := NB105_115.out; have hnb48 := NB115_106.out; have hnc48 := NB106_115.out; have hnb49 := NB115_107.out; have hnc49 := NB107_115.out; obtain ⟨hcz50_0, hcz50_1, hcz50_2, hcz50_3, hcz50_4, hcz50_5, hcz50_6⟩ := blkc7_ BK115.out; obtain ⟨hfz50_0, hfz50_1, hfz50_2, hfz50_3, hfz50_4, hfz50_5, hfz50_6⟩ := blkf7_ BK115.out; go_wp2; go_meet
    case rel => exact ⟨_, (!t127), z68_, H', ⟨z74_⟩, ⟨by (with_reducible repeat (first | refine blk_drewN ?_ _ | refine blk_drew ?_ | refine blk_alloc ?_ _)); refine blk_far ?_ NB105_128.out _; (with_reducible repeat (first | refine blk_drewN ?_ _ | refine blk_drew ?_ | refine blk_alloc ?_ _)); refine blk_far ?_ NB105_128.out _; (with_reducible repeat (first | refine blk_drewN ?_ _ | refine blk_drew ?_ | refine blk_alloc ?_ _)); refine blk_far ?_ NB105_128.out _; (with_reducible repeat (first | refine blk_drewN ?_ _ | refine blk_drew ?_ | refine blk_alloc ?_ _)); refine blk_far ?_ NB105_128.out _; (with_reducible repeat (first | refine blk_drewN ?_ _ | refine blk_drew ?_ | refine blk_alloc ?_ _)); refine blk_far ?_ NB105_128.out _; (with_reducible repeat (first | refine blk_drewN ?_ _ | refine blk_drew ?_ | refine blk_alloc ?_ _)); refine blk_far ?_ NB105_128.out _; (with_reducible repeat (first | refine blk_drewN ?_ _ | refine blk_drew ?_ | refine blk_alloc ?_ _)); refine blk_far ?_ NB105_128.out _; (with_reducible repeat (first | refine blk_drewN ?_ _ | refine blk_drew ?_ | refine blk_alloc ?_ _)); exact BK105.out⟩, ⟨by (with_reducible repeat (first | refine blk_drewN ?_ _ | refine blk_drew ?_ | refine blk_alloc ?_ _)); refine blk_far ?_ NB106_128.out _; (with_reducible repeat (first | refine blk_drewN ?_ _ | refine blk_drew ?_ | refine blk_alloc ?_ _)); refine blk_far ?_ NB106_128.out _; (with_reducible repeat (first | refine blk_drewN ?_ _ | refine blk_drew ?_ | refine blk_alloc ?_ _)); refine blk_far ?_ NB106_128.out _; (with_reducible repeat (first | refine blk_drewN ?_ _ | refine blk_drew ?_ | refine blk_alloc ?_ _)); refine blk_far ?_ NB106_128.out _; (with_reducible repeat (first | refine blk_drewN ?_ _ | refine blk_drew ?_ | refine blk_alloc ?_ _)); refine blk_far ?_ NB106_128.out _; (with_reducible repeat (first | refine blk_drewN ?_ _ | refine blk_drew ?_ | refine blk_alloc ?_ _)); refine blk_far ?_ NB106_128.out _; (with_reducible repeat (first | refine blk_drewN ?_ _ | refine blk_drew ?_ | refine blk_alloc ?_ _)); refine blk_far ?_ NB106_128.out _; (with_reducible repeat (first | refine blk_drewN ?_ _ | refine blk_drew ?_ | refine blk_alloc ?_ _)); exact BK106.out⟩, ⟨by (with_reducible repeat (first | refine blk_drewN ?_ _ | refine blk_drew ?_ | refine blk_alloc ?_ _)); refine blk_far ?_ NB107_128.out _; (with_reducible repeat (first | refine blk_drewN ?_ _ | refine blk_drew ?_ | refine blk_alloc ?_ _)); refine blk_far ?_ NB107_128.out _; (with_reducible repeat (first | refine blk_drewN ?_ _ | refine blk_drew ?_ | refine blk_alloc ?_ _)); refine blk_far ?_ NB107_128.out _; (with_reducible repeat (first | refine blk_drewN ?_ _ | refine blk_drew ?_ | refine blk_alloc ?_ _)); refine blk_far ?_ NB107_128.out _; (with_reducible repeat (first | refine blk_drewN ?_ _ | refine blk_drew ?_ | refine blk_alloc ?_ _)); refine blk_far ?_ NB107_128.out _; (with_reducible repeat (first | refine blk_drewN ?_ _ | refine blk_drew ?_ | refine blk_alloc ?_ _)); refine blk_far ?_ NB107_128.out _; (with_reducible repeat (first | refine blk_drewN ?_ _ | refine blk_drew ?_ | refine blk_alloc ?_ _)); refine blk_far ?_ NB107_128.out _; (with_reducible repeat (first | refine blk_drewN ?_ _ | refine blk_drew ?_ | refine blk_alloc ?_ _)); exact BK107.out⟩, ⟨by (with_reducible repeat (first | refine blk_drewN ?_ _ | refine blk_drew ?_ | refine blk_alloc ?_ _)); refine blk_far ?_ NB115_128.out _; (with_reducible repeat (first | refine blk_drewN ?_ _ | refine blk_drew ?_ | refine blk_alloc ?_ _)); refine blk_far ?_ NB115_128.out _; (with_reducible repeat (first | refine blk_drewN ?_ _ | refine blk_drew ?_ | refine blk_alloc ?_ _)); refine blk_far ?_ NB115_128.out _; (with_reducible repeat (first | refine blk_drewN ?_ _ | refine blk_drew ?_ | refine blk_alloc ?_ _)); refine blk_far ?_ NB115_128.out _; (with_reducible repeat (first | refine blk_drewN ?_ _ | refine blk_drew ?_ | refine blk_alloc ?_ _)); refine blk_far ?_ NB115_128.out _; (with_reducible repeat (first | refine blk_drewN ?_ _ | refine blk_drew ?_ | refine blk_alloc ?_ _)); refine blk_far ?_ NB115_128.out _; (with_reducible repeat (first | refine blk_drewN ?_ _ | refine blk_drew ?_ | refine blk_alloc ?_ _)); refine blk_far ?_ NB115_128.out _; (with_reducible repeat (first | refine blk_drewN ?_ _ | refine blk_drew ?_ | refine blk_alloc ?_ _)); exact BK115.out⟩, ⟨by (with_reducible repeat (first | refine blk_drewN ?_ _ | refine blk_drew ?_ | refine blk_alloc ?_ _)); refine blk_put (cs := #[.int .i64 t120, .string t121, .bool t122, .string t123, .int .i64 t124, .string t125, .string (⟨#[]⟩ : ByteArray)]) ?_ 6 _ rfl; (with_reducible repeat (first | refine blk_drewN ?_ _ | refine blk_drew ?_ | refine blk_alloc ?_ _)); refine blk_put (cs := #[.int .i64 t120, .string t121, .bool t122, .string t123, .int .i64 t124, .string (⟨#[]⟩ : ByteArray), .string (⟨#[]⟩ : ByteArray)]) ?_ 5 _ rfl; (with_reducible repeat (first | refine blk_drewN ?_ _ | refine blk_drew ?_ | refine blk_alloc ?_ _)); refine blk_put (cs := #[.int .i64 t120, .string t121, .bool t122, .string t123, .int .i64 0, .string (⟨#[]⟩ : ByteArray), .string (⟨#[]⟩ : ByteArray)]) ?_ 4 _ rfl; (with_reducible repeat (first | refine blk_drewN ?_ _ | refine blk_drew ?_ | refine blk_alloc ?_ _)); refine blk_put (cs := #[.int .i64 t120, .string t121, .bool t122, .string (⟨#[]⟩ : ByteArray), .int .i64 0, .string (⟨#[]⟩ : ByteArray), .string (⟨#[]⟩ : ByteArray)]) ?_ 3 _ rfl; (with_reducible repeat (first | refine blk_drewN ?_ _ | refine blk_drew ?_ | refine blk_alloc ?_ _)); refine blk_put (cs := #[.int .i64 t120, .string t121, .bool false, .string (⟨#[]⟩ : ByteArray), .int .i64 0, .string (⟨#[]⟩ : ByteArray), .string (⟨#[]⟩ : ByteArray)]) ?_ 2 _ rfl; (with_reducible repeat (first | refine blk_drewN ?_ _ | refine blk_drew ?_ | refine blk_alloc ?_ _)); refine blk_put (cs := #[.int .i64 t120, .string (⟨#[]⟩ : ByteArray), .bool false, .string (⟨#[]⟩ : ByteArray), .int .i64 0, .string (⟨#[]⟩ : ByteArray), .string (⟨#[]⟩ : ByteArray)]) ?_ 1 _ rfl; (with_reducible repeat (first | refine blk_drewN ?_ _ | refine blk_drew ?_ | refine blk_alloc ?_ _)); refine blk_put (cs := #[.int .i64 0, .string (⟨#[]⟩ : ByteArray), .bool false, .string (⟨#[]⟩ : ByteArray), .int .i64 0, .string (⟨#[]⟩ : ByteArray), .string (⟨#[]⟩ : ByteArray)]) ?_ 0 _ rfl; (with_reducible repeat (first | refine blk_drewN ?_ _ | refine blk_drew ?_ | refine blk_alloc ?_ _)); exact BK128.out⟩, ⟨z18_⟩⟩
  case rest =>
   clear HC9; (try clear c6); (try clear hcz15_0 hcz15_1 hcz15_2 hcz15_3 hcz15_4 hcz15_5 hcz15_6); (try clear hcz21_0 hcz21_1 hcz21_2 hcz21_3 hcz21_4 hcz21_5 hcz21_6); (try clear hcz23_0 hcz23_1 hcz23_2 hcz23_3 hcz23_4 hcz23_5 hcz23_6); (try clear hcz31_0 hcz31_1 hcz31_2 hcz31_3 hcz31_4 hcz31_5 hcz31_6); (try clear hfz15_0 hfz15_1 hfz15_2 hfz15_3 hfz15_4 hfz15_5 hfz15_6); (try clear hfz21_0 hfz21_1 hfz21_2 hfz21_3 hfz21_4 hfz21_5 hfz21_6); (try clear hfz23_0 hfz23_1 hfz23_2 hfz23_3 hfz23_4 hfz23_5 hfz23_6); (try clear hfz31_0 hfz31_1 hfz31_2 hfz31_3 hfz31_4 hfz31_5 hfz31_6)
   obtain ⟨kq, x35_8, rfl, HA, HJ8, BK105, BK106, BK107, BK115, BK128, HB⟩ := hcut
   cases kq with
   | zero => exact absurd HA.out (by simp [pursuivantlaw11_SourceRound.j0])
   | succ kj8 =>
    have H := HA.out
    clear HA
    simp only [pursuivantlaw11_SourceRound.j0] at H
    by_cases c51 : x35_8 = true
    ·subst c51
     have H1 : (some false) = some r := by rw [if_pos rfl] at H; exact H
     clear H
     have H := H1
     clear H1
     exact absurd ((Option.some.inj H).trans hr_) Bool.false_ne_true
    ·replace c51 := Bool.eq_false_iff.mpr c51
     subst c51
     have H1 : ((pursuivantref06_Good.f kj8 a1_0 a1_1 a1_2 a1_3 a1_4 a1_5 a1_6 a1_7 a1_8).bind fun t129 => (if t129 = true then ((pursuivantref08_Good.f kj8 a2_0 a2_1 a2_2).bind fun t130 => (pursuivantlaw11_SourceRound.j1 kj8 (!t130) a1_0 a1_1 a1_2 a1_3 a1_4 a1_5 a1_6 a1_7 a1_8 a2_0 a2_1 a2_2 t108 t109 t110 t111 t112 t113 t114)) else (pursuivantlaw11_SourceRound.j1 kj8 true a1_0 a1_1 a1_2 a1_3 a1_4 a1_5 a1_6 a1_7 a1_8 a2_0 a2_1 a2_2 t108 t109 t110 t111 t112 t113 t114))) = some r := by rw [if_neg (show ¬ (false = true) by decide)] at H; exact H
     clear H
     have H := H1
     clear H1; have HC52 := Aside0.mk H; clear H
     go_upto_region 7 with (fail)
     go_cut [43] (fun v43 wc => ∃ (kq : Nat) (x43_51 : Bool), v43 = .bool x43_51 ∧ Aside0 (pursuivantlaw11_SourceRound.j1 kq x43_51 a1_0 a1_1 a1_2 a1_3 a1_4 a1_5 a1_6 a1_7 a1_8 a2_0 a2_1 a2_2 t108 t109 t110 t111 t112 t113 t114 = some r) ∧ Aside0 (kq ≤ kj8) ∧ Aside0 (wc.heap[gb105]? = some (.cells #[.int .i64 a0_0, .string a0_1, .bool a0_2, .string a0_3, .int .i64 a0_4, .string a0_5, .string a0_6] 23 (0, 0))) ∧ Aside0 (wc.heap[gb106]? = some (.cells #[.string a1_0, .string a1_1, .string a1_2, .int .i64 a1_3, .string a1_4, .bool a1_5, .string a1_6, .bool a1_7, .string a1_8] 30 (0, 0))) ∧ Aside0 (wc.heap[gb107]? = some (.cells #[.string a2_0, .string a2_1, .int .i64 a2_2] 32 (0, 0))) ∧ Aside0 (wc.heap[gb115]? = some (.cells #[.int .i64 t108, .string t109, .bool t110, .string t111, .int .i64 t112, .string t113, .string t114] 23 (0, 0))) ∧ Aside0 (wc.heap[gb128]? = some (.cells #[.int .i64 t120, .string t121, .bool t122, .string t123, .int .i64 t124, .string t125, .string t126] 23 (0, 0))) ∧ Aside0 (Below w.heap.size w wc))
     case first =>
      have H := HC52.out
      clear HC52
      replace H := Option.bind_eq_some_iff.mp H
      obtain ⟨t129, A530, H⟩ := H
      replace H : (if t129 = true then ((pursuivantref08_Good.f kj8 a2_0 a2_1 a2_2).bind fun t130 => (pursuivantlaw11_SourceRound.j1 kj8 (!t130) a1_0 a1_1 a1_2 a1_3 a1_4 a1_5 a1_6 a1_7 a1_8 a2_0 a2_1 a2_2 t108 t109 t110 t111 t112 t113 t114)) else (pursuivantlaw11_SourceRound.j1 kj8 true a1_0 a1_1 a1_2 a1_3 a1_4 a1_5 a1_6 a1_7 a1_8 a2_0 a2_1 a2_2 t108 t109 t110 t111 t112 t113 t114)) = some r := H
      have A53 := Aside0.mk A530; clear A530
      by_cases c54 : t129 = true
      ·subst c54
       have H1 : ((pursuivantref08_Good.f kj8 a2_0 a2_1 a2_2).bind fun t130 => (pursuivantlaw11_SourceRound.j1 kj8 (!t130) a1_0 a1_1 a1_2 a1_3 a1_4 a1_5 a1_6 a1_7 a1_8 a2_0 a2_1 a2_2 t108 t109 t110 t111 t112 t113 t114)) = some r := by rw [if_pos rfl] at H; exact H
       clear H
       have H := H1
       clear H1
       replace H := Option.bind_eq_some_iff.mp H
       obtain ⟨t130, A550, H⟩ := H
       replace H : (pursuivantlaw11_SourceRound.j1 kj8 (!t130) a1_0 a1_1 a1_2 a1_3 a1_4 a1_5 a1_6 a1_7 a1_8 a2_0 a2_1 a2_2 t108 t109 t110 t111 t112 t113 t114) = some r := H
       have A55 := Aside0.mk A550; clear A550
       have H' := Aside0.mk H
       clear H; have hnb56 := NB106_105.out; have hnc56 := NB105_106.out; have hnb57 := NB106_107.out; have hnc57 := NB107_106.out; have hnb58 := NB106_115.out; have hnc58 := NB115_106.out; have hnb59 := NB106_128.out; have hnc59 := NB128_106.out; obtain ⟨hcz60_0, hcz60_1, hcz60_2, hcz60_3, hcz60_4, hcz60_5, hcz60_6, hcz60_7, hcz60_8⟩ := blkc9_ BK106.out; obtain ⟨hfz60_0, hfz60_1, hfz60_2, hfz60_3, hfz60_4, hfz60_5, hfz60_6, hfz60_7, hfz60_8⟩ := blkf9_ BK106.out
       go_wp2_with (first | ((with_reducible refine gate_callee (f := 15) rfl ?_); refine goesL_ (some 37) rfl rfl Tryz.func15 (by kernel_rfl) rfl #[.agg #[.string a1_0, .string a1_1, .string a1_2, .int .i64 a1_3, .string a1_4, .bool a1_5, .string a1_6, .bool a1_7, .string a1_8]] rfl z46_ ?_; (with_reducible refine (pursuivantref06_Good.calls kj8 a1_0 a1_1 a1_2 a1_3 a1_4 a1_5 a1_6 a1_7 a1_8 true _ ?gw5_ A53.out).mono ?_); (case gw5_ => exact z3_); rintro e w61 ⟨rfl, hb⟩; refine ⟨_, rfl, ?_⟩; have n0_ := Aside0.mk (blk_below (g := gb105) (o := .cells #[.int .i64 a0_0, .string a0_1, .bool a0_2, .string a0_3, .int .i64 a0_4, .string a0_5, .string a0_6] 23 (0, 0)) z63_ hb); have n1_ := Aside0.mk (blk_below (g := gb106) (o := .cells #[.string a1_0, .string a1_1, .string a1_2, .int .i64 a1_3, .string a1_4, .bool a1_5, .string a1_6, .bool a1_7, .string a1_8] 30 (0, 0)) z59_ hb); have n2_ := Aside0.mk (blk_below (g := gb107) (o := .cells #[.string a2_0, .string a2_1, .int .i64 a2_2] 32 (0, 0)) z49_ hb); have n3_ := Aside0.mk (blk_below (g := gb115) (o := .cells #[.int .i64 t108, .string t109, .bool t110, .string t111, .int .i64 t112, .string t113, .string t114] 23 (0, 0)) z64_ hb); have n4_ := Aside0.mk (blk_below (g := gb128) (o := .cells #[.int .i64 t120, .string t121, .bool t122, .string t123, .int .i64 t124, .string t125, .string t126] 23 (0, 0)) z65_ hb); have n5_ := Aside0.mk (below_step z18_ hb); clear BK105; clear BK106; clear BK107; clear BK115; clear BK128; clear HB; have BK105 := n0_; have BK106 := n1_; have BK107 := n2_; have BK115 := n3_; have BK128 := n4_; have HB := n5_; clear n0_ n1_ n2_ n3_ n4_ n5_; (try clear hb); (try clear hb2); (try clear hk); (try clear hi); have hnb62 := NB107_105.out; have hnc62 := NB105_107.out; have hnb63 := NB107_115.out; have hnc63 := NB115_107.out; have hnb64 := NB107_128.out; have hnc64 := NB128_107.out; have hcz65_0 : w61.cell? ⟨gb107, 0, none⟩ = some (.string a2_0) := (blk_cell BK107.out 0).trans rfl; have hcz65_1 : w61.cell? ⟨gb107, 1, none⟩ = some (.string a2_1) := (blk_cell BK107.out 1).trans rfl; have hcz65_2 : w61.cell? ⟨gb107, 2, none⟩ = some (.int .i64 a2_2) := (blk_cell BK107.out 2).trans rfl; have hfz65_0 := blk_frozen BK107.out 0; have hfz65_1 := blk_frozen BK107.out 1; have hfz65_2 := blk_frozen BK107.out 2) | (go_at_call 16; (fail_if_success (have z_ := U_1)); have U_1 := trivial; (with_reducible refine (pursuivantref08_Good.calls kj8 a2_0 a2_1 a2_2 t130 _ ?gw6_ A55.out).mono ?_); (case gw6_ => exact z3_); rintro e w66 ⟨rfl, hb⟩; have n0_ := Aside0.mk (blk_below (g := gb105) (o := .cells #[.int .i64 a0_0, .string a0_1, .bool a0_2, .string a0_3, .int .i64 a0_4, .string a0_5, .string a0_6] 23 (0, 0)) z63_ hb); have n1_ := Aside0.mk (blk_below (g := gb106) (o := .cells #[.string a1_0, .string a1_1, .string a1_2, .int .i64 a1_3, .string a1_4, .bool a1_5, .string a1_6, .bool a1_7, .string a1_8] 30 (0, 0)) z59_ hb); have n2_ := Aside0.mk (blk_below (g := gb107) (o := .cells #[.string a2_0, .string a2_1, .int .i64 a2_2] 32 (0, 0)) z49_ hb); have n3_ := Aside0.mk (blk_below (g := gb115) (o := .cells #[.int .i64 t108, .string t109, .bool t110, .string t111, .int .i64 t112, .string t113, .string t114] 23 (0, 0)) z64_ hb); have n4_ := Aside0.mk (blk_below (g := gb128) (o := .cells #[.int .i64 t120, .string t121, .bool t122, .string t123, .int .i64 t124, .string t125, .string t126] 23 (0, 0)) z65_ hb); have n5_ := Aside0.mk (below_step z18_ hb); clear BK105; clear BK106; clear BK107; clear BK115; clear BK128; clear HB; have BK105 := n0_; have BK106 := n1_; have BK107 := n2_; have BK115 := n3_; have BK128 := n4_; have HB := n5_; clear n0_ n1_ n2_ n3_ n4_ n5_; (try clear hb); (try clear hb2); (try clear hk); (try clear hi)))
       go_meet
       case rel => exact ⟨_, (!t130), z68_, H', ⟨by have := HJ8.out; first | omega | exact Nat.le_refl _⟩, ⟨z63_⟩, ⟨z59_⟩, ⟨z49_⟩, ⟨z64_⟩, ⟨z65_⟩, ⟨z18_⟩⟩
      ·replace c54 := Bool.eq_false_iff.mpr c54
       subst c54
       have H1 : (pursuivantlaw11_SourceRound.j1 kj8 true a1_0 a1_1 a1_2 a1_3 a1_4 a1_5 a1_6 a1_7 a1_8 a2_0 a2_1 a2_2 t108 t109 t110 t111 t112 t113 t114) = some r := by rw [if_neg (show ¬ (false = true) by decide)] at H; exact H
       clear H
       have H := H1
       clear H1
       have H' := Aside0.mk H
       clear H; have hnb67 := NB106_105.out; have hnc67 := NB105_106.out; have hnb68 := NB106_107.out; have hnc68 := NB107_106.out; have hnb69 := NB106_115.out; have hnc69 := NB115_106.out; have hnb70 := NB106_128.out; have hnc70 := NB128_106.out; obtain ⟨hcz71_0, hcz71_1, hcz71_2, hcz71_3, hcz71_4, hcz71_5, hcz71_6, hcz71_7, hcz71_8⟩ := blkc9_ BK106.out; obtain ⟨hfz71_0, hfz71_1, hfz71_2, hfz71_3, hfz71_4, hfz71_5, hfz71_6, hfz71_7, hfz71_8⟩ := blkf9_ BK106.out
       go_wp2_with (first | ((with_reducible refine gate_callee (f := 15) rfl ?_); refine goesL_ (some 37) rfl rfl Tryz.func15 (by kernel_rfl) rfl #[.agg #[.string a1_0, .string a1_1, .string a1_2, .int .i64 a1_3, .string a1_4, .bool a1_5, .string a1_6, .bool a1_7, .string a1_8]] rfl z46_ ?_; (with_reducible refine (pursuivantref06_Good.calls kj8 a1_0 a1_1 a1_2 a1_3 a1_4 a1_5 a1_6 a1_7 a1_8 false _ ?gw7_ A53.out).mono ?_); (case gw7_ => exact z3_); rintro e w72 ⟨rfl, hb⟩; refine ⟨_, rfl, ?_⟩; have n0_ := Aside0.mk (blk_below (g := gb105) (o := .cells #[.int .i64 a0_0, .string a0_1, .bool a0_2, .string a0_3, .int .i64 a0_4, .string a0_5, .string a0_6] 23 (0, 0)) z63_ hb); have n1_ := Aside0.mk (blk_below (g := gb106) (o := .cells #[.string a1_0, .string a1_1, .string a1_2, .int .i64 a1_3, .string a1_4, .bool a1_5, .string a1_6, .bool a1_7, .string a1_8] 30 (0, 0)) z59_ hb); have n2_ := Aside0.mk (blk_below (g := gb107) (o := .cells #[.string a2_0, .string a2_1, .int .i64 a2_2] 32 (0, 0)) z49_ hb); have n3_ := Aside0.mk (blk_below (g := gb115) (o := .cells #[.int .i64 t108, .string t109, .bool t110, .string t111, .int .i64 t112, .string t113, .string t114] 23 (0, 0)) z64_ hb); have n4_ := Aside0.mk (blk_below (g := gb128) (o := .cells #[.int .i64 t120, .string t121, .bool t122, .string t123, .int .i64 t124, .string t125, .string t126] 23 (0, 0)) z65_ hb); have n5_ := Aside0.mk (below_step z18_ hb); clear BK105; clear BK106; clear BK107; clear BK115; clear BK128; clear HB; have BK105 := n0_; have BK106 := n1_; have BK107 := n2_; have BK115 := n3_; have BK128 := n4_; have HB := n5_; clear n0_ n1_ n2_ n3_ n4_ n5_; (try clear hb); (try clear hb2); (try clear hk); (try clear hi)))
       go_meet
       case rel => exact ⟨_, (true), z68_, H', ⟨by have := HJ8.out; first | omega | exact Nat.le_refl _⟩, ⟨z63_⟩, ⟨z59_⟩, ⟨z49_⟩, ⟨z64_⟩, ⟨z65_⟩, ⟨z18_⟩⟩
     case rest =>
      clear HC52; (try clear c6); (try clear c51); (try clear hcz15_0 hcz15_1 hcz15_2 hcz15_3 hcz15_4 hcz15_5 hcz15_6); (try clear hcz21_0 hcz21_1 hcz21_2 hcz21_3 hcz21_4 hcz21_5 hcz21_6); (try clear hcz23_0 hcz23_1 hcz23_2 hcz23_3 hcz23_4 hcz23_5 hcz23_6); (try clear hcz31_0 hcz31_1 hcz31_2 hcz31_3 hcz31_4 hcz31_5 hcz31_6); (try clear hfz15_0 hfz15_1 hfz15_2 hfz15_3 hfz15_4 hfz15_5 hfz15_6); (try clear hfz21_0 hfz21_1 hfz21_2 hfz21_3 hfz21_4 hfz21_5 hfz21_6); (try clear hfz23_0 hfz23_1 hfz23_2 hfz23_3 hfz23_4 hfz23_5 hfz23_6); (try clear hfz31_0 hfz31_1 hfz31_2 hfz31_3 hfz31_4 hfz31_5 hfz31_6)
      obtain ⟨kq, x43_51, rfl, HA, HJ51, BK105, BK106, BK107, BK115, BK128, HB⟩ := hcut
      cases kq with
      | zero => exact absurd HA.out (by simp [pursuivantlaw11_SourceRound.j1])
      | succ kj51 =>
       have H := HA.out
       clear HA
       simp only [pursuivantlaw11_SourceRound.j1] at H
       by_cases c73 : x43_51 = true
       ·subst c73
        have H1 : ((pursuivantlaw11_awake.f kj51).bind fun t131 => (some t131)) = some r := by rw [if_pos rfl] at H; exact H
        clear H
        have H := H1
        clear H1
        replace H := Option.bind_eq_some_iff.mp H
        obtain ⟨t131, A740, H⟩ := H
        replace H : (some t131) = some r := H
        have A74 := Aside0.mk A740; clear A740
        obtain rfl := Option.some.inj H
        go_wp2_with (first | ((with_reducible refine gate_callee (f := 12) rfl ?_); refine goesL_ (some 44) rfl rfl Tryz.func12 (by kernel_rfl) rfl #[] rfl z46_ ?_; (with_reducible refine (pursuivantlaw11_awake.calls kj51  t131 _ ?gw8_ A74.out z75_).mono ?_); (case gw8_ => exact z3_); rintro e w75 ⟨rfl, hb⟩; refine ⟨_, rfl, ?_⟩; have n0_ := Aside0.mk (blk_below (g := gb105) (o := .cells #[.int .i64 a0_0, .string a0_1, .bool a0_2, .string a0_3, .int .i64 a0_4, .string a0_5, .string a0_6] 23 (0, 0)) z63_ hb); have n1_ := Aside0.mk (blk_below (g := gb106) (o := .cells #[.string a1_0, .string a1_1, .string a1_2, .int .i64 a1_3, .string a1_4, .bool a1_5, .string a1_6, .bool a1_7, .string a1_8] 30 (0, 0)) z59_ hb); have n2_ := Aside0.mk (blk_below (g := gb107) (o := .cells #[.string a2_0, .string a2_1, .int .i64 a2_2] 32 (0, 0)) z49_ hb); have n3_ := Aside0.mk (blk_below (g := gb115) (o := .cells #[.int .i64 t108, .string t109, .bool t110, .string t111, .int .i64 t112, .string t113, .string t114] 23 (0, 0)) z64_ hb); have n4_ := Aside0.mk (blk_below (g := gb128) (o := .cells #[.int .i64 t120, .string t121, .bool t122, .string t123, .int .i64 t124, .string t125, .string t126] 23 (0, 0)) z65_ hb); have n5_ := Aside0.mk (below_step z18_ hb); clear BK105; clear BK106; clear BK107; clear BK115; clear BK128; clear HB; have BK105 := n0_; have BK106 := n1_; have BK107 := n2_; have BK115 := n3_; have BK128 := n4_; have HB := n5_; clear n0_ n1_ n2_ n3_ n4_ n5_; (try clear hb); (try clear hb2); (try clear hk); (try clear hi)))
        go_ret
        exact ⟨z48_, z18_⟩
       ·replace c73 := Bool.eq_false_iff.mpr c73
        subst c73
        have H1 : ((source_Match.f kj51 t108 t109 t110 t111 t112 t113 t114 a1_0 a1_1 a1_2 a1_3 a1_4 a1_5 a1_6 a1_7 a1_8 a2_0 a2_1 a2_2 false).bind fun t132 => ((source_Match.f kj51 t108 t109 t110 t111 t112 t113 t114 a1_0 a1_1 a1_2 a1_3 a1_4 a1_5 a1_6 a1_7 a1_8 a2_0 a2_1 a2_2 true).bind fun t133 => (if t132 = true then (if t133 = true then (if t108 = 4 then (if t110 = true then (pursuivantlaw11_SourceRound.j2 kj51 t132 t133 false a1_0 a1_1 a1_2 a1_3 a1_4 a1_5 a1_6 a1_7 a1_8 a2_0 a2_1 a2_2 t108 t109 t110 t111 t112 t113 t114) else (pursuivantlaw11_SourceRound.j2 kj51 t132 t133 (a1_2.toList != t111.toList) a1_0 a1_1 a1_2 a1_3 a1_4 a1_5 a1_6 a1_7 a1_8 a2_0 a2_1 a2_2 t108 t109 t110 t111 t112 t113 t114)) else (pursuivantlaw11_SourceRound.j2 kj51 t132 t133 false a1_0 a1_1 a1_2 a1_3 a1_4 a1_5 a1_6 a1_7 a1_8 a2_0 a2_1 a2_2 t108 t109 t110 t111 t112 t113 t114)) else (pursuivantlaw11_SourceRound.j2 kj51 t132 t133 true a1_0 a1_1 a1_2 a1_3 a1_4 a1_5 a1_6 a1_7 a1_8 a2_0 a2_1 a2_2 t108 t109 t110 t111 t112 t113 t114)) else (if t133 = true then (if t108 = 4 then (if t110 = true then (pursuivantlaw11_SourceRound.j2 kj51 t132 t133 false a1_0 a1_1 a1_2 a1_3 a1_4 a1_5 a1_6 a1_7 a1_8 a2_0 a2_1 a2_2 t108 t109 t110 t111 t112 t113 t114) else (pursuivantlaw11_SourceRound.j2 kj51 t132 t133 (a1_2.toList != t111.toList) a1_0 a1_1 a1_2 a1_3 a1_4 a1_5 a1_6 a1_7 a1_8 a2_0 a2_1 a2_2 t108 t109 t110 t111 t112 t113 t114)) else (pursuivantlaw11_SourceRound.j2 kj51 t132 t133 false a1_0 a1_1 a1_2 a1_3 a1_4 a1_5 a1_6 a1_7 a1_8 a2_0 a2_1 a2_2 t108 t109 t110 t111 t112 t113 t114)) else (pursuivantlaw11_SourceRound.j2 kj51 t132 t133 false a1_0 a1_1 a1_2 a1_3 a1_4 a1_5 a1_6 a1_7 a1_8 a2_0 a2_1 a2_2 t108 t109 t110 t111 t112 t113 t114))))) = some r := by rw [if_neg (show ¬ (false = true) by decide)] at H; exact H
        clear H
        have H := H1
        clear H1
        replace H := Option.bind_eq_some_iff.mp H
        obtain ⟨t132, A760, H⟩ := H
        replace H : ((source_Match.f kj51 t108 t109 t110 t111 t112 t113 t114 a1_0 a1_1 a1_2 a1_3 a1_4 a1_5 a1_6 a1_7 a1_8 a2_0 a2_1 a2_2 true).bind fun t133 => (if t132 = true then (if t133 = true then (if t108 = 4 then (if t110 = true then (pursuivantlaw11_SourceRound.j2 kj51 t132 t133 false a1_0 a1_1 a1_2 a1_3 a1_4 a1_5 a1_6 a1_7 a1_8 a2_0 a2_1 a2_2 t108 t109 t110 t111 t112 t113 t114) else (pursuivantlaw11_SourceRound.j2 kj51 t132 t133 (a1_2.toList != t111.toList) a1_0 a1_1 a1_2 a1_3 a1_4 a1_5 a1_6 a1_7 a1_8 a2_0 a2_1 a2_2 t108 t109 t110 t111 t112 t113 t114)) else (pursuivantlaw11_SourceRound.j2 kj51 t132 t133 false a1_0 a1_1 a1_2 a1_3 a1_4 a1_5 a1_6 a1_7 a1_8 a2_0 a2_1 a2_2 t108 t109 t110 t111 t112 t113 t114)) else (pursuivantlaw11_SourceRound.j2 kj51 t132 t133 true a1_0 a1_1 a1_2 a1_3 a1_4 a1_5 a1_6 a1_7 a1_8 a2_0 a2_1 a2_2 t108 t109 t110 t111 t112 t113 t114)) else (if t133 = true then (if t108 = 4 then (if t110 = true then (pursuivantlaw11_SourceRound.j2 kj51 t132 t133 false a1_0 a1_1 a1_2 a1_3 a1_4 a1_5 a1_6 a1_7 a1_8 a2_0 a2_1 a2_2 t108 t109 t110 t111 t112 t113 t114) else (pursuivantlaw11_SourceRound.j2 kj51 t132 t133 (a1_2.toList != t111.toList) a1_0 a1_1 a1_2 a1_3 a1_4 a1_5 a1_6 a1_7 a1_8 a2_0 a2_1 a2_2 t108 t109 t110 t111 t112 t113 t114)) else (pursuivantlaw11_SourceRound.j2 kj51 t132 t133 false a1_0 a1_1 a1_2 a1_3 a1_4 a1_5 a1_6 a1_7 a1_8 a2_0 a2_1 a2_2 t108 t109 t110 t111 t112 t113 t114)) else (pursuivantlaw11_SourceRound.j2 kj51 t132 t133 false a1_0 a1_1 a1_2 a1_3 a1_4 a1_5 a1_6 a1_7 a1_8 a2_0 a2_1 a2_2 t108 t109 t110 t111 t112 t113 t114)))) = some r := H
        have A76 := Aside0.mk A760; clear A760
        replace H := Option.bind_eq_some_iff.mp H
        obtain ⟨t133, A770, H⟩ := H
        replace H : (if t132 = true then (if t133 = true then (if t108 = 4 then (if t110 = true then (pursuivantlaw11_SourceRound.j2 kj51 t132 t133 false a1_0 a1_1 a1_2 a1_3 a1_4 a1_5 a1_6 a1_7 a1_8 a2_0 a2_1 a2_2 t108 t109 t110 t111 t112 t113 t114) else (pursuivantlaw11_SourceRound.j2 kj51 t132 t133 (a1_2.toList != t111.toList) a1_0 a1_1 a1_2 a1_3 a1_4 a1_5 a1_6 a1_7 a1_8 a2_0 a2_1 a2_2 t108 t109 t110 t111 t112 t113 t114)) else (pursuivantlaw11_SourceRound.j2 kj51 t132 t133 false a1_0 a1_1 a1_2 a1_3 a1_4 a1_5 a1_6 a1_7 a1_8 a2_0 a2_1 a2_2 t108 t109 t110 t111 t112 t113 t114)) else (pursuivantlaw11_SourceRound.j2 kj51 t132 t133 true a1_0 a1_1 a1_2 a1_3 a1_4 a1_5 a1_6 a1_7 a1_8 a2_0 a2_1 a2_2 t108 t109 t110 t111 t112 t113 t114)) else (if t133 = true then (if t108 = 4 then (if t110 = true then (pursuivantlaw11_SourceRound.j2 kj51 t132 t133 false a1_0 a1_1 a1_2 a1_3 a1_4 a1_5 a1_6 a1_7 a1_8 a2_0 a2_1 a2_2 t108 t109 t110 t111 t112 t113 t114) else (pursuivantlaw11_SourceRound.j2 kj51 t132 t133 (a1_2.toList != t111.toList) a1_0 a1_1 a1_2 a1_3 a1_4 a1_5 a1_6 a1_7 a1_8 a2_0 a2_1 a2_2 t108 t109 t110 t111 t112 t113 t114)) else (pursuivantlaw11_SourceRound.j2 kj51 t132 t133 false a1_0 a1_1 a1_2 a1_3 a1_4 a1_5 a1_6 a1_7 a1_8 a2_0 a2_1 a2_2 t108 t109 t110 t111 t112 t113 t114)) else (pursuivantlaw11_SourceRound.j2 kj51 t132 t133 false a1_0 a1_1 a1_2 a1_3 a1_4 a1_5 a1_6 a1_7 a1_8 a2_0 a2_1 a2_2 t108 t109 t110 t111 t112 t113 t114))) = some r := H
        have A77 := Aside0.mk A770; clear A770; have HC78 := Aside0.mk H; clear H
        try go_wp2
        have n0_ := Aside0.mk (blk_drew BK105.out)
        have n1_ := Aside0.mk (blk_drew BK106.out)
        have n2_ := Aside0.mk (blk_drew BK107.out)
        have n3_ := Aside0.mk (blk_drew BK115.out)
        have n4_ := Aside0.mk (blk_drew BK128.out)
        have n5_ := Aside0.mk (below_drew1 HB.out)
        clear BK105; clear BK106; clear BK107; clear BK115; clear BK128; clear HB
        have BK105 := n0_
        have BK106 := n1_
        have BK107 := n2_
        have BK115 := n3_
        have BK128 := n4_
        have HB := n5_
        clear n0_ n1_ n2_ n3_ n4_ n5_
        refine start_ (n := 10) (S := fun w' => w'.cell? ⟨gb115, 0, none⟩ = some (.int .i64 t108) ∧ w'.cell? ⟨gb115, 1, none⟩ = some (.string t109) ∧ w'.cell? ⟨gb115, 2, none⟩ = some (.bool t110) ∧ w'.cell? ⟨gb115, 3, none⟩ = some (.string t111) ∧ w'.cell? ⟨gb115, 4, none⟩ = some (.int .i64 t112) ∧ w'.cell? ⟨gb115, 5, none⟩ = some (.string t113) ∧ w'.cell? ⟨gb115, 6, none⟩ = some (.string t114) ∧ w'.cell? ⟨gb106, 0, none⟩ = some (.string a1_0) ∧ w'.cell? ⟨gb106, 1, none⟩ = some (.string a1_1) ∧ w'.cell? ⟨gb106, 2, none⟩ = some (.string a1_2) ∧ w'.cell? ⟨gb106, 3, none⟩ = some (.int .i64 a1_3) ∧ w'.cell? ⟨gb106, 4, none⟩ = some (.string a1_4) ∧ w'.cell? ⟨gb106, 5, none⟩ = some (.bool a1_5) ∧ w'.cell? ⟨gb106, 6, none⟩ = some (.string a1_6) ∧ w'.cell? ⟨gb106, 7, none⟩ = some (.bool a1_7) ∧ w'.cell? ⟨gb106, 8, none⟩ = some (.string a1_8) ∧ w'.cell? ⟨gb107, 0, none⟩ = some (.string a2_0) ∧ w'.cell? ⟨gb107, 1, none⟩ = some (.string a2_1) ∧ w'.cell? ⟨gb107, 2, none⟩ = some (.int .i64 a2_2)) (ds := []) #[false, false, false, false, false, false, false, false, false, false] (by kernel_rfl) rfl rfl ⟨(blk_cell BK115.out 0).trans rfl, (blk_cell BK115.out 1).trans rfl, (blk_cell BK115.out 2).trans rfl, (blk_cell BK115.out 3).trans rfl, (blk_cell BK115.out 4).trans rfl, (blk_cell BK115.out 5).trans rfl, (blk_cell BK115.out 6).trans rfl, (blk_cell BK106.out 0).trans rfl, (blk_cell BK106.out 1).trans rfl, (blk_cell BK106.out 2).trans rfl, (blk_cell BK106.out 3).trans rfl, (blk_cell BK106.out 4).trans rfl, (blk_cell BK106.out 5).trans rfl, (blk_cell BK106.out 6).trans rfl, (blk_cell BK106.out 7).trans rfl, (blk_cell BK106.out 8).trans rfl, (blk_cell BK107.out 0).trans rfl, (blk_cell BK107.out 1).trans rfl, (blk_cell BK107.out 2).trans rfl⟩ (fun hHeld => ?_); refine with_tabW pursuivantlaw11_SourceRound.tab9 pursuivantlaw11_SourceRound.bits9 (fun HT_ HW_ => ?_)
        generalize wc.drew = w79 at BK105 BK106 BK107 BK115 BK128 HB hHeld ⊢
        refine take_ (i := 0) (N := some 45) (v := ?_) (a' := ?_) #[true, false, false, false, false, false, false, false, false, false] rfl rfl (take_ofW HT_.out HW_.out (by kernel_rfl)) (fun _ _ _ h => h) (Or.inl ⟨by rfl, ?_⟩) hHeld ?_ ?_
        rotate_left
        ·rintro w' ⟨s0, s1, s2, s3, s4, s5, s6, s7, s8, s9, s10, s11, s12, s13, s14, s15, s16, s17, s18⟩
         go_simp
         with_reducible rfl
        rotate_left
        ·simp only [Act.put, List.setIfInBounds_toArray, List.set_cons_zero, List.set_cons_succ, i64_w, i32_w]
         rfl
        refine take_ (i := 1) (N := some 46) (v := ?_) (a' := ?_) #[true, true, false, false, false, false, false, false, false, false] rfl rfl (take_ofW HT_.out HW_.out (by kernel_rfl)) (fun _ _ _ h => h) (Or.inl ⟨by rfl, ?_⟩) hHeld ?_ ?_
        rotate_left
        ·rintro w' ⟨s0, s1, s2, s3, s4, s5, s6, s7, s8, s9, s10, s11, s12, s13, s14, s15, s16, s17, s18⟩
         go_simp
         with_reducible rfl
        rotate_left
        ·simp only [Act.put, List.setIfInBounds_toArray, List.set_cons_zero, List.set_cons_succ, i64_w, i32_w]
         rfl
        refine take_ (i := 2) (N := some 47) (v := ?_) (a' := ?_) #[true, true, true, false, false, false, false, false, false, false] rfl rfl (take_ofW HT_.out HW_.out (by kernel_rfl)) (fun _ _ _ h => h) (Or.inl ⟨by rfl, ?_⟩) hHeld ?_ ?_
        rotate_left
        ·rintro w' ⟨s0, s1, s2, s3, s4, s5, s6, s7, s8, s9, s10, s11, s12, s13, s14, s15, s16, s17, s18⟩
         go_simp
         with_reducible rfl
        rotate_left
        ·simp only [Act.put, List.setIfInBounds_toArray, List.set_cons_zero, List.set_cons_succ, i64_w, i32_w]
         rfl
        refine take_ (i := 4) (N := some 49) (v := ?_) (a' := ?_) #[true, true, true, false, true, false, false, false, false, false] rfl rfl (take_ofW HT_.out HW_.out (by kernel_rfl)) (fun _ _ _ h => h) (Or.inl ⟨by rfl, ?_⟩) hHeld ?_ ?_
        rotate_left
        ·rintro w' ⟨s0, s1, s2, s3, s4, s5, s6, s7, s8, s9, s10, s11, s12, s13, s14, s15, s16, s17, s18⟩
         go_simp
         with_reducible rfl
        rotate_left
        ·simp only [Act.put, List.setIfInBounds_toArray, List.set_cons_zero, List.set_cons_succ, i64_w, i32_w]
         rfl
        refine take_ (i := 5) (N := some 50) (v := ?_) (a' := ?_) #[true, true, true, false, true, true, false, false, false, false] rfl rfl (take_ofW HT_.out HW_.out (by kernel_rfl)) (fun _ _ _ h => h) (Or.inl ⟨by rfl, ?_⟩) hHeld ?_ ?_
        rotate_left
        ·rintro w' ⟨s0, s1, s2, s3, s4, s5, s6, s7, s8, s9, s10, s11, s12, s13, s14, s15, s16, s17, s18⟩
         go_simp
         with_reducible rfl
        rotate_left
        ·simp only [Act.put, List.setIfInBounds_toArray, List.set_cons_zero, List.set_cons_succ, i64_w, i32_w]
         rfl
        refine take_ (i := 6) (N := some 51) (v := ?_) (a' := ?_) #[true, true, true, false, true, true, true, false, false, false] rfl rfl (take_ofW HT_.out HW_.out (by kernel_rfl)) (fun _ _ _ h => h) (Or.inl ⟨by rfl, ?_⟩) hHeld ?_ ?_
        rotate_left
        ·rintro w' ⟨s0, s1, s2, s3, s4, s5, s6, s7, s8, s9, s10, s11, s12, s13, s14, s15, s16, s17, s18⟩
         go_simp
         with_reducible rfl
        rotate_left
        ·simp only [Act.put, List.setIfInBounds_toArray, List.set_cons_zero, List.set_cons_succ, i64_w, i32_w]
         rfl
        refine one_ (i := 3) (N := some 48) #[true, true, true, true, true, true, true, false, false, false] rfl rfl (one_of HT_.out (by kernel_rfl)) (by decide) (fun K hK => ?_)
        refine goes_ Tryz.func17 (by kernel_rfl) rfl #[.agg #[.int .i64 t108, .string t109, .bool t110, .string t111, .int .i64 t112, .string t113, .string t114], .agg #[.string a1_0, .string a1_1, .string a1_2, .int .i64 a1_3, .string a1_4, .bool a1_5, .string a1_6, .bool a1_7, .string a1_8], .agg #[.string a2_0, .string a2_1, .int .i64 a2_2], .bool false] (by rfl) rfl rfl z46_ ?_
        with_reducible refine (source_Match.calls kj51 t108 t109 t110 t111 t112 t113 t114 a1_0 a1_1 a1_2 a1_3 a1_4 a1_5 a1_6 a1_7 a1_8 a2_0 a2_1 a2_2 false t132 _ ?gw15_ A76.out).mono ?_
        case gw15_ => exact z3_
        rintro e w80 ⟨rfl, hb⟩
        refine ⟨_, rfl, ?_⟩
        have n0_ := Aside0.mk (blk_below (g := gb105) (o := .cells #[.int .i64 a0_0, .string a0_1, .bool a0_2, .string a0_3, .int .i64 a0_4, .string a0_5, .string a0_6] 23 (0, 0)) z63_ hb)
        have n1_ := Aside0.mk (blk_below (g := gb106) (o := .cells #[.string a1_0, .string a1_1, .string a1_2, .int .i64 a1_3, .string a1_4, .bool a1_5, .string a1_6, .bool a1_7, .string a1_8] 30 (0, 0)) z59_ hb)
        have n2_ := Aside0.mk (blk_below (g := gb107) (o := .cells #[.string a2_0, .string a2_1, .int .i64 a2_2] 32 (0, 0)) z49_ hb)
        have n3_ := Aside0.mk (blk_below (g := gb115) (o := .cells #[.int .i64 t108, .string t109, .bool t110, .string t111, .int .i64 t112, .string t113, .string t114] 23 (0, 0)) z64_ hb)
        have n4_ := Aside0.mk (blk_below (g := gb128) (o := .cells #[.int .i64 t120, .string t121, .bool t122, .string t123, .int .i64 t124, .string t125, .string t126] 23 (0, 0)) z65_ hb)
        have n5_ := Aside0.mk (below_step z18_ hb)
        clear BK105; clear BK106; clear BK107; clear BK115; clear BK128; clear HB
        have BK105 := n0_
        have BK106 := n1_
        have BK107 := n2_
        have BK115 := n3_
        have BK128 := n4_
        have HB := n5_
        clear n0_ n1_ n2_ n3_ n4_ n5_
        (try clear hb)
        (try clear hb2)
        (try clear hk)
        (try clear hi)
        refine hK.out _ _ ⟨(blk_cell BK115.out 0).trans rfl, (blk_cell BK115.out 1).trans rfl, (blk_cell BK115.out 2).trans rfl, (blk_cell BK115.out 3).trans rfl, (blk_cell BK115.out 4).trans rfl, (blk_cell BK115.out 5).trans rfl, (blk_cell BK115.out 6).trans rfl, (blk_cell BK106.out 0).trans rfl, (blk_cell BK106.out 1).trans rfl, (blk_cell BK106.out 2).trans rfl, (blk_cell BK106.out 3).trans rfl, (blk_cell BK106.out 4).trans rfl, (blk_cell BK106.out 5).trans rfl, (blk_cell BK106.out 6).trans rfl, (blk_cell BK106.out 7).trans rfl, (blk_cell BK106.out 8).trans rfl, (blk_cell BK107.out 0).trans rfl, (blk_cell BK107.out 1).trans rfl, (blk_cell BK107.out 2).trans rfl⟩ (fun hHeld => ?_)
        clear hK K
        refine norm_ (a' := ?_) ?_ ?_
        rotate_left
        ·show Act.put _ (some 48) _ = _
         simp only [Act.put, List.setIfInBounds_toArray, List.set_cons_zero, List.set_cons_succ, i64_w, i32_w]
         rfl
        refine one_ (i := 7) (N := some 52) #[true, true, true, true, true, true, true, true, false, false] rfl rfl (one_of HT_.out (by kernel_rfl)) (by decide) (fun K hK => ?_)
        refine goes_ Tryz.func17 (by kernel_rfl) rfl #[.agg #[.int .i64 t108, .string t109, .bool t110, .string t111, .int .i64 t112, .string t113, .string t114], .agg #[.string a1_0, .string a1_1, .string a1_2, .int .i64 a1_3, .string a1_4, .bool a1_5, .string a1_6, .bool a1_7, .string a1_8], .agg #[.string a2_0, .string a2_1, .int .i64 a2_2], .bool true] (by rfl) rfl rfl z46_ ?_
        with_reducible refine (source_Match.calls kj51 t108 t109 t110 t111 t112 t113 t114 a1_0 a1_1 a1_2 a1_3 a1_4 a1_5 a1_6 a1_7 a1_8 a2_0 a2_1 a2_2 true t133 _ ?gw16_ A77.out).mono ?_
        case gw16_ => exact z3_
        rintro e w81 ⟨rfl, hb⟩
        refine ⟨_, rfl, ?_⟩
        have n0_ := Aside0.mk (blk_below (g := gb105) (o := .cells #[.int .i64 a0_0, .string a0_1, .bool a0_2, .string a0_3, .int .i64 a0_4, .string a0_5, .string a0_6] 23 (0, 0)) z63_ hb)
        have n1_ := Aside0.mk (blk_below (g := gb106) (o := .cells #[.string a1_0, .string a1_1, .string a1_2, .int .i64 a1_3, .string a1_4, .bool a1_5, .string a1_6, .bool a1_7, .string a1_8] 30 (0, 0)) z59_ hb)
        have n2_ := Aside0.mk (blk_below (g := gb107) (o := .cells #[.string a2_0, .string a2_1, .int .i64 a2_2] 32 (0, 0)) z49_ hb)
        have n3_ := Aside0.mk (blk_below (g := gb115) (o := .cells #[.int .i64 t108, .string t109, .bool t110, .string t111, .int .i64 t112, .string t113, .string t114] 23 (0, 0)) z64_ hb)
        have n4_ := Aside0.mk (blk_below (g := gb128) (o := .cells #[.int .i64 t120, .string t121, .bool t122, .string t123, .int .i64 t124, .string t125, .string t126] 23 (0, 0)) z65_ hb)
        have n5_ := Aside0.mk (below_step z18_ hb)
        clear BK105; clear BK106; clear BK107; clear BK115; clear BK128; clear HB
        have BK105 := n0_
        have BK106 := n1_
        have BK107 := n2_
        have BK115 := n3_
        have BK128 := n4_
        have HB := n5_
        clear n0_ n1_ n2_ n3_ n4_ n5_
        (try clear hb)
        (try clear hb2)
        (try clear hk)
        (try clear hi)
        refine hK.out _ _ ⟨(blk_cell BK115.out 0).trans rfl, (blk_cell BK115.out 1).trans rfl, (blk_cell BK115.out 2).trans rfl, (blk_cell BK115.out 3).trans rfl, (blk_cell BK115.out 4).trans rfl, (blk_cell BK115.out 5).trans rfl, (blk_cell BK115.out 6).trans rfl, (blk_cell BK106.out 0).trans rfl, (blk_cell BK106.out 1).trans rfl, (blk_cell BK106.out 2).trans rfl, (blk_cell BK106.out 3).trans rfl, (blk_cell BK106.out 4).trans rfl, (blk_cell BK106.out 5).trans rfl, (blk_cell BK106.out 6).trans rfl, (blk_cell BK106.out 7).trans rfl, (blk_cell BK106.out 8).trans rfl, (blk_cell BK107.out 0).trans rfl, (blk_cell BK107.out 1).trans rfl, (blk_cell BK107.out 2).trans rfl⟩ (fun hHeld => ?_)
        clear hK K
        refine norm_ (a' := ?_) ?_ ?_
        rotate_left
        ·show Act.put _ (some 52) _ = _
         simp only [Act.put, List.setIfInBounds_toArray, List.set_cons_zero, List.set_cons_succ, i64_w, i32_w]
         rfl
        refine pure_ (i := 8) (N := some 10) (v := ?_) (a' := ?_) #[true, true, true, true, true, true, true, true, true, false] rfl rfl (any_of HT_.out (by kernel_rfl)) (fun _ _ _ h => h) (Or.inl ⟨by rfl, ?_⟩) ?_ ?_
        rotate_left
        ·intro w'
         go_simp
         with_reducible rfl
        rotate_left
        ·simp only [Act.put, List.setIfInBounds_toArray, List.set_cons_zero, List.set_cons_succ, i64_w, i32_w]
         rfl
        refine pure_ (i := 9) (N := some 11) (v := ?_) (a' := ?_) #[true, true, true, true, true, true, true, true, true, true] rfl rfl (any_of HT_.out (by kernel_rfl)) (fun _ _ _ h => h) (Or.inl ⟨by rfl, ?_⟩) ?_ ?_
        rotate_left
        ·intro w'
         go_simp
         with_reducible rfl
        rotate_left
        ·simp only [Act.put, List.setIfInBounds_toArray, List.set_cons_zero, List.set_cons_succ, i64_w, i32_w]
         rfl
        refine done_ (done_of HT_.out (by kernel_rfl)) ?_
        go_upto_region 10 with (fail)
        go_cut [77] (fun v77 wc => ∃ (kq : Nat) (x77_77 : Bool), v77 = .bool x77_77 ∧ Aside0 (pursuivantlaw11_SourceRound.j2 kq t132 t133 x77_77 a1_0 a1_1 a1_2 a1_3 a1_4 a1_5 a1_6 a1_7 a1_8 a2_0 a2_1 a2_2 t108 t109 t110 t111 t112 t113 t114 = some r) ∧ Aside0 (kq ≤ kj51) ∧ Aside0 (wc.heap[gb105]? = some (.cells #[.int .i64 a0_0, .string a0_1, .bool a0_2, .string a0_3, .int .i64 a0_4, .string a0_5, .string a0_6] 23 (0, 0))) ∧ Aside0 (wc.heap[gb106]? = some (.cells #[.string a1_0, .string a1_1, .string a1_2, .int .i64 a1_3, .string a1_4, .bool a1_5, .string a1_6, .bool a1_7, .string a1_8] 30 (0, 0))) ∧ Aside0 (wc.heap[gb107]? = some (.cells #[.string a2_0, .string a2_1, .int .i64 a2_2] 32 (0, 0))) ∧ Aside0 (wc.heap[gb115]? = some (.cells #[.int .i64 t108, .string t109, .bool t110, .string t111, .int .i64 t112, .string t113, .string t114] 23 (0, 0))) ∧ Aside0 (wc.heap[gb128]? = some (.cells #[.int .i64 t120, .string t121, .bool t122, .string t123, .int .i64 t124, .string t125, .string t126] 23 (0, 0))) ∧ Aside0 (Below w.heap.size w wc))
        case first =>
         have H := HC78.out
         clear HC78
         by_cases c82 : t132 = true
         ·subst c82
          have H1 : (if t133 = true then (if t108 = 4 then (if t110 = true then (pursuivantlaw11_SourceRound.j2 kj51 true t133 false a1_0 a1_1 a1_2 a1_3 a1_4 a1_5 a1_6 a1_7 a1_8 a2_0 a2_1 a2_2 t108 t109 t110 t111 t112 t113 t114) else (pursuivantlaw11_SourceRound.j2 kj51 true t133 (a1_2.toList != t111.toList) a1_0 a1_1 a1_2 a1_3 a1_4 a1_5 a1_6 a1_7 a1_8 a2_0 a2_1 a2_2 t108 t109 t110 t111 t112 t113 t114)) else (pursuivantlaw11_SourceRound.j2 kj51 true t133 false a1_0 a1_1 a1_2 a1_3 a1_4 a1_5 a1_6 a1_7 a1_8 a2_0 a2_1 a2_2 t108 t109 t110 t111 t112 t113 t114)) else (pursuivantlaw11_SourceRound.j2 kj51 true t133 true a1_0 a1_1 a1_2 a1_3 a1_4 a1_5 a1_6 a1_7 a1_8 a2_0 a2_1 a2_2 t108 t109 t110 t111 t112 t113 t114)) = some r := by rw [if_pos rfl] at H; exact H
          clear H
          have H := H1
          clear H1
          by_cases c83 : t133 = true
          ·subst c83
           have H1 : (if t108 = 4 then (if t110 = true then (pursuivantlaw11_SourceRound.j2 kj51 true true false a1_0 a1_1 a1_2 a1_3 a1_4 a1_5 a1_6 a1_7 a1_8 a2_0 a2_1 a2_2 t108 t109 t110 t111 t112 t113 t114) else (pursuivantlaw11_SourceRound.j2 kj51 true true (a1_2.toList != t111.toList) a1_0 a1_1 a1_2 a1_3 a1_4 a1_5 a1_6 a1_7 a1_8 a2_0 a2_1 a2_2 t108 t109 t110 t111 t112 t113 t114)) else (pursuivantlaw11_SourceRound.j2 kj51 true true false a1_0 a1_1 a1_2 a1_3 a1_4 a1_5 a1_6 a1_7 a1_8 a2_0 a2_1 a2_2 t108 t109 t110 t111 t112 t113 t114)) = some r := by rw [if_pos rfl] at H; exact H
           clear H
           have H := H1
           clear H1
           by_cases c84 : t108 = 4
           ·rw [if_pos c84] at H
            have c84b0 : (t108 == 4) = true := beq_iff_eq.mpr c84
            have c84b1 : (t108 != 4) = false := bne_eq_false_iff_eq.mpr c84
            clear c84
            (first | rw [c84b0] | (simp only [i64_w, i32_w]; rw [c84b0]) | skip)
            by_cases c85 : t110 = true
            ·subst c85
             have H1 : (pursuivantlaw11_SourceRound.j2 kj51 true true false a1_0 a1_1 a1_2 a1_3 a1_4 a1_5 a1_6 a1_7 a1_8 a2_0 a2_1 a2_2 t108 t109 true t111 t112 t113 t114) = some r := by rw [if_pos rfl] at H; exact H
             clear H
             have H := H1
             clear H1
             have H' := Aside0.mk H
             clear H; have hnb86 := NB115_105.out; have hnc86 := NB105_115.out; have hnb87 := NB115_106.out; have hnc87 := NB106_115.out; have hnb88 := NB115_107.out; have hnc88 := NB107_115.out; have hnb89 := NB115_128.out; have hnc89 := NB128_115.out; obtain ⟨hcz90_0, hcz90_1, hcz90_2, hcz90_3, hcz90_4, hcz90_5, hcz90_6⟩ := blkc7_ BK115.out; obtain ⟨hfz90_0, hfz90_1, hfz90_2, hfz90_3, hfz90_4, hfz90_5, hfz90_6⟩ := blkf7_ BK115.out; go_wp2; go_meet
             case rel => exact ⟨_, (false), z68_, H', ⟨z69_⟩, ⟨z63_⟩, ⟨z59_⟩, ⟨z49_⟩, ⟨z64_⟩, ⟨z65_⟩, ⟨z18_⟩⟩
            ·replace c85 := Bool.eq_false_iff.mpr c85
             subst c85
             have H1 : (pursuivantlaw11_SourceRound.j2 kj51 true true (a1_2.toList != t111.toList) a1_0 a1_1 a1_2 a1_3 a1_4 a1_5 a1_6 a1_7 a1_8 a2_0 a2_1 a2_2 t108 t109 false t111 t112 t113 t114) = some r := by rw [if_neg (show ¬ (false = true) by decide)] at H; exact H
             clear H
             have H := H1
             clear H1
             have H' := Aside0.mk H
             clear H; have hnb91 := NB115_105.out; have hnc91 := NB105_115.out; have hnb92 := NB115_106.out; have hnc92 := NB106_115.out; have hnb93 := NB115_107.out; have hnc93 := NB107_115.out; have hnb94 := NB115_128.out; have hnc94 := NB128_115.out; obtain ⟨hcz95_0, hcz95_1, hcz95_2, hcz95_3, hcz95_4, hcz95_5, hcz95_6⟩ := blkc7_ BK115.out; obtain ⟨hfz95_0, hfz95_1, hfz95_2, hfz95_3, hfz95_4, hfz95_5, hfz95_6⟩ := blkf7_ BK115.out; have hnb96 := NB106_105.out; have hnc96 := NB105_106.out; have hnb97 := NB106_107.out; have hnc97 := NB107_106.out; have hnb98 := NB106_128.out; have hnc98 := NB128_106.out; obtain ⟨hcz99_0, hcz99_1, hcz99_2, hcz99_3, hcz99_4, hcz99_5, hcz99_6, hcz99_7, hcz99_8⟩ := blkc9_ BK106.out; obtain ⟨hfz99_0, hfz99_1, hfz99_2, hfz99_3, hfz99_4, hfz99_5, hfz99_6, hfz99_7, hfz99_8⟩ := blkf9_ BK106.out; go_wp2; go_meet
             case rel => exact ⟨_, ((a1_2.toList != t111.toList)), z68_, H', ⟨z69_⟩, ⟨z63_⟩, ⟨z59_⟩, ⟨z49_⟩, ⟨z64_⟩, ⟨z65_⟩, ⟨z18_⟩⟩
           ·rw [if_neg c84] at H
            have c84b0 : (t108 == 4) = false := beq_eq_false_iff_ne.mpr c84
            have c84b1 : (t108 != 4) = true := bne_iff_ne.mpr c84
            (first | rw [c84b0] | (simp only [i64_w, i32_w]; rw [c84b0]) | skip)
            have H' := Aside0.mk H
            clear H; have hnb100 := NB115_105.out; have hnc100 := NB105_115.out; have hnb101 := NB115_106.out; have hnc101 := NB106_115.out; have hnb102 := NB115_107.out; have hnc102 := NB107_115.out; have hnb103 := NB115_128.out; have hnc103 := NB128_115.out; obtain ⟨hcz104_0, hcz104_1, hcz104_2, hcz104_3, hcz104_4, hcz104_5, hcz104_6⟩ := blkc7_ BK115.out; obtain ⟨hfz104_0, hfz104_1, hfz104_2, hfz104_3, hfz104_4, hfz104_5, hfz104_6⟩ := blkf7_ BK115.out; go_wp2; go_meet
            case rel => exact ⟨_, (false), z68_, H', ⟨z69_⟩, ⟨z63_⟩, ⟨z59_⟩, ⟨z49_⟩, ⟨z64_⟩, ⟨z65_⟩, ⟨z18_⟩⟩
          ·replace c83 := Bool.eq_false_iff.mpr c83
           subst c83
           have H1 : (pursuivantlaw11_SourceRound.j2 kj51 true false true a1_0 a1_1 a1_2 a1_3 a1_4 a1_5 a1_6 a1_7 a1_8 a2_0 a2_1 a2_2 t108 t109 t110 t111 t112 t113 t114) = some r := by rw [if_neg (show ¬ (false = true) by decide)] at H; exact H
           clear H
           have H := H1
           clear H1
           have H' := Aside0.mk H
           clear H; go_wp2; go_meet
           case rel => exact ⟨_, (true), z68_, H', ⟨z69_⟩, ⟨z63_⟩, ⟨z59_⟩, ⟨z49_⟩, ⟨z64_⟩, ⟨z65_⟩, ⟨z18_⟩⟩
         ·replace c82 := Bool.eq_false_iff.mpr c82
          subst c82
          have H1 : (if t133 = true then (if t108 = 4 then (if t110 = true then (pursuivantlaw11_SourceRound.j2 kj51 false t133 false a1_0 a1_1 a1_2 a1_3 a1_4 a1_5 a1_6 a1_7 a1_8 a2_0 a2_1 a2_2 t108 t109 t110 t111 t112 t113 t114) else (pursuivantlaw11_SourceRound.j2 kj51 false t133 (a1_2.toList != t111.toList) a1_0 a1_1 a1_2 a1_3 a1_4 a1_5 a1_6 a1_7 a1_8 a2_0 a2_1 a2_2 t108 t109 t110 t111 t112 t113 t114)) else (pursuivantlaw11_SourceRound.j2 kj51 false t133 false a1_0 a1_1 a1_2 a1_3 a1_4 a1_5 a1_6 a1_7 a1_8 a2_0 a2_1 a2_2 t108 t109 t110 t111 t112 t113 t114)) else (pursuivantlaw11_SourceRound.j2 kj51 false t133 false a1_0 a1_1 a1_2 a1_3 a1_4 a1_5 a1_6 a1_7 a1_8 a2_0 a2_1 a2_2 t108 t109 t110 t111 t112 t113 t114)) = some r := by rw [if_neg (show ¬ (false = true) by decide)] at H; exact H
          clear H
          have H := H1
          clear H1
          by_cases c105 : t133 = true
          ·subst c105
           have H1 : (if t108 = 4 then (if t110 = true then (pursuivantlaw11_SourceRound.j2 kj51 false true false a1_0 a1_1 a1_2 a1_3 a1_4 a1_5 a1_6 a1_7 a1_8 a2_0 a2_1 a2_2 t108 t109 t110 t111 t112 t113 t114) else (pursuivantlaw11_SourceRound.j2 kj51 false true (a1_2.toList != t111.toList) a1_0 a1_1 a1_2 a1_3 a1_4 a1_5 a1_6 a1_7 a1_8 a2_0 a2_1 a2_2 t108 t109 t110 t111 t112 t113 t114)) else (pursuivantlaw11_SourceRound.j2 kj51 false true false a1_0 a1_1 a1_2 a1_3 a1_4 a1_5 a1_6 a1_7 a1_8 a2_0 a2_1 a2_2 t108 t109 t110 t111 t112 t113 t114)) = some r := by rw [if_pos rfl] at H; exact H
           clear H
           have H := H1
           clear H1
           by_cases c106 : t108 = 4
           ·rw [if_pos c106] at H
            have c106b0 : (t108 == 4) = true := beq_iff_eq.mpr c106
            have c106b1 : (t108 != 4) = false := bne_eq_false_iff_eq.mpr c106
            clear c106
            by_cases c107 : t110 = true
            ·subst c107
             have H1 : (pursuivantlaw11_SourceRound.j2 kj51 false true false a1_0 a1_1 a1_2 a1_3 a1_4 a1_5 a1_6 a1_7 a1_8 a2_0 a2_1 a2_2 t108 t109 true t111 t112 t113 t114) = some r := by rw [if_pos rfl] at H; exact H
             clear H
             have H := H1
             clear H1
             have H' := Aside0.mk H
             clear H; have hnb108 := NB115_105.out; have hnc108 := NB105_115.out; have hnb109 := NB115_106.out; have hnc109 := NB106_115.out; have hnb110 := NB115_107.out; have hnc110 := NB107_115.out; have hnb111 := NB115_128.out; have hnc111 := NB128_115.out; obtain ⟨hcz112_0, hcz112_1, hcz112_2, hcz112_3, hcz112_4, hcz112_5, hcz112_6⟩ := blkc7_ BK115.out; obtain ⟨hfz112_0, hfz112_1, hfz112_2, hfz112_3, hfz112_4, hfz112_5, hfz112_6⟩ := blkf7_ BK115.out; go_wp2; go_meet
             case rel => exact ⟨_, (false), z68_, H', ⟨z69_⟩, ⟨z63_⟩, ⟨z59_⟩, ⟨z49_⟩, ⟨z64_⟩, ⟨z65_⟩, ⟨z18_⟩⟩
            ·replace c107 := Bool.eq_false_iff.mpr c107
             subst c107
             have H1 : (pursuivantlaw11_SourceRound.j2 kj51 false true (a1_2.toList != t111.toList) a1_0 a1_1 a1_2 a1_3 a1_4 a1_5 a1_6 a1_7 a1_8 a2_0 a2_1 a2_2 t108 t109 false t111 t112 t113 t114) = some r := by rw [if_neg (show ¬ (false = true) by decide)] at H; exact H
             clear H
             have H := H1
             clear H1
             have H' := Aside0.mk H
             clear H; have hnb113 := NB115_105.out; have hnc113 := NB105_115.out; have hnb114 := NB115_106.out; have hnc114 := NB106_115.out; have hnb115 := NB115_107.out; have hnc115 := NB107_115.out; have hnb116 := NB115_128.out; have hnc116 := NB128_115.out; obtain ⟨hcz117_0, hcz117_1, hcz117_2, hcz117_3, hcz117_4, hcz117_5, hcz117_6⟩ := blkc7_ BK115.out; obtain ⟨hfz117_0, hfz117_1, hfz117_2, hfz117_3, hfz117_4, hfz117_5, hfz117_6⟩ := blkf7_ BK115.out; have hnb118 := NB106_105.out; have hnc118 := NB105_106.out; have hnb119 := NB106_107.out; have hnc119 := NB107_106.out; have hnb120 := NB106_128.out; have hnc120 := NB128_106.out; obtain ⟨hcz121_0, hcz121_1, hcz121_2, hcz121_3, hcz121_4, hcz121_5, hcz121_6, hcz121_7, hcz121_8⟩ := blkc9_ BK106.out; obtain ⟨hfz121_0, hfz121_1, hfz121_2, hfz121_3, hfz121_4, hfz121_5, hfz121_6, hfz121_7, hfz121_8⟩ := blkf9_ BK106.out; go_wp2; go_meet
             case rel => exact ⟨_, ((a1_2.toList != t111.toList)), z68_, H', ⟨z69_⟩, ⟨z63_⟩, ⟨z59_⟩, ⟨z49_⟩, ⟨z64_⟩, ⟨z65_⟩, ⟨z18_⟩⟩
           ·rw [if_neg c106] at H
            have c106b0 : (t108 == 4) = false := beq_eq_false_iff_ne.mpr c106
            have c106b1 : (t108 != 4) = true := bne_iff_ne.mpr c106
            have H' := Aside0.mk H
            clear H; have hnb122 := NB115_105.out; have hnc122 := NB105_115.out; have hnb123 := NB115_106.out; have hnc123 := NB106_115.out; have hnb124 := NB115_107.out; have hnc124 := NB107_115.out; have hnb125 := NB115_128.out; have hnc125 := NB128_115.out; obtain ⟨hcz126_0, hcz126_1, hcz126_2, hcz126_3, hcz126_4, hcz126_5, hcz126_6⟩ := blkc7_ BK115.out; obtain ⟨hfz126_0, hfz126_1, hfz126_2, hfz126_3, hfz126_4, hfz126_5, hfz126_6⟩ := blkf7_ BK115.out; go_wp2; go_meet
            case rel => exact ⟨_, (false), z68_, H', ⟨z69_⟩, ⟨z63_⟩, ⟨z59_⟩, ⟨z49_⟩, ⟨z64_⟩, ⟨z65_⟩, ⟨z18_⟩⟩
          ·replace c105 := Bool.eq_false_iff.mpr c105
           subst c105
           have H1 : (pursuivantlaw11_SourceRound.j2 kj51 false false false a1_0 a1_1 a1_2 a1_3 a1_4 a1_5 a1_6 a1_7 a1_8 a2_0 a2_1 a2_2 t108 t109 t110 t111 t112 t113 t114) = some r := by rw [if_neg (show ¬ (false = true) by decide)] at H; exact H
           clear H
           have H := H1
           clear H1
           have H' := Aside0.mk H
           clear H; go_wp2; go_meet
           case rel => exact ⟨_, (false), z68_, H', ⟨z69_⟩, ⟨z63_⟩, ⟨z59_⟩, ⟨z49_⟩, ⟨z64_⟩, ⟨z65_⟩, ⟨z18_⟩⟩
        case rest =>
         clear HC78; (try clear c73); (try clear hfz15_0 hfz15_1 hfz15_2 hfz15_3 hfz15_4 hfz15_5 hfz15_6); (try clear hfz21_0 hfz21_1 hfz21_2 hfz21_3 hfz21_4 hfz21_5 hfz21_6); (try clear hfz23_0 hfz23_1 hfz23_2 hfz23_3 hfz23_4 hfz23_5 hfz23_6); (try clear hfz31_0 hfz31_1 hfz31_2 hfz31_3 hfz31_4 hfz31_5 hfz31_6)
         obtain ⟨kq, x77_77, rfl, HA, HJ77, BK105, BK106, BK107, BK115, BK128, HB⟩ := hcut
         cases kq with
         | zero => exact absurd HA.out (by simp [pursuivantlaw11_SourceRound.j2])
         | succ kj77 =>
          have H := HA.out
          clear HA
          simp only [pursuivantlaw11_SourceRound.j2] at H
          by_cases c127 : x77_77 = true
          ·subst c127
           have H1 : (some false) = some r := by rw [if_pos rfl] at H; exact H
           clear H
           have H := H1
           clear H1
           exact absurd ((Option.some.inj H).trans hr_) Bool.false_ne_true
          ·replace c127 := Bool.eq_false_iff.mpr c127
           subst c127
           have H1 : ((pursuivantlaw11_awake.f kj77).bind fun t134 => (if t134 = true then (if t108 = 2 then (if t132 = true then (if t108 = 1 then (if (t132 == t133) = true then (some true) else (some false)) else (some true)) else (some false)) else (if t108 = 1 then (if (t132 == t133) = true then (if t132 = true then (some true) else ((pursuivantref08_Of.f kj77 a1_0 a1_1 a1_2 a1_3 a1_4 a1_5 a1_6 a1_7 a1_8).bind fun bt135 => ((pursuivantref08_Same.f kj77 bt135.1 bt135.2.1 bt135.2.2 a2_0 a2_1 a2_2).bind fun t138 => (some (!t138))))) else (some false)) else (some true))) else (some false))) = some r := by rw [if_neg (show ¬ (false = true) by decide)] at H; exact H
           clear H
           have H := H1
           clear H1
           replace H := Option.bind_eq_some_iff.mp H
           obtain ⟨t134, A1280, H⟩ := H
           replace H : (if t134 = true then (if t108 = 2 then (if t132 = true then (if t108 = 1 then (if (t132 == t133) = true then (some true) else (some false)) else (some true)) else (some false)) else (if t108 = 1 then (if (t132 == t133) = true then (if t132 = true then (some true) else ((pursuivantref08_Of.f kj77 a1_0 a1_1 a1_2 a1_3 a1_4 a1_5 a1_6 a1_7 a1_8).bind fun bt135 => ((pursuivantref08_Same.f kj77 bt135.1 bt135.2.1 bt135.2.2 a2_0 a2_1 a2_2).bind fun t138 => (some (!t138))))) else (some false)) else (some true))) else (some false)) = some r := H
           have A128 := Aside0.mk A1280; clear A1280
           by_cases c129 : t134 = true
           ·subst c129
            have H1 : (if t108 = 2 then (if t132 = true then (if t108 = 1 then (if (t132 == t133) = true then (some true) else (some false)) else (some true)) else (some false)) else (if t108 = 1 then (if (t132 == t133) = true then (if t132 = true then (some true) else ((pursuivantref08_Of.f kj77 a1_0 a1_1 a1_2 a1_3 a1_4 a1_5 a1_6 a1_7 a1_8).bind fun bt135 => ((pursuivantref08_Same.f kj77 bt135.1 bt135.2.1 bt135.2.2 a2_0 a2_1 a2_2).bind fun t138 => (some (!t138))))) else (some false)) else (some true))) = some r := by rw [if_pos rfl] at H; exact H
            clear H
            have H := H1
            clear H1
            by_cases c130 : t108 = 2
            ·rw [if_pos c130] at H
             have c130b0 : (t108 == 2) = true := beq_iff_eq.mpr c130
             have c130b1 : (t108 != 2) = false := bne_eq_false_iff_eq.mpr c130
             clear c130
             by_cases c131 : t132 = true
             ·subst c131
              have H1 : (if t108 = 1 then (if (true == t133) = true then (some true) else (some false)) else (some true)) = some r := by rw [if_pos rfl] at H; exact H
              clear H
              have H := H1
              clear H1
              by_cases c132 : t108 = 1
              ·rw [if_pos c132] at H
               have c132b0 : (t108 == 1) = true := beq_iff_eq.mpr c132
               have c132b1 : (t108 != 1) = false := bne_eq_false_iff_eq.mpr c132
               clear c132
               by_cases c133 : (true == t133) = true
               ·rw [if_pos c133] at H
                have c133b0 : (true == t133) = true := c133
                (try (have c133b1 : decide (true = t133) = true := by simpa using c133))
                (try (have c133b2 : (true == t133) = true := by simpa using c133))
                clear c133
                obtain rfl := Option.some.inj H
                try go_wp2
                have n0_ := Aside0.mk (blk_drew BK105.out)
                have n1_ := Aside0.mk (blk_drew BK106.out)
                have n2_ := Aside0.mk (blk_drew BK107.out)
                have n3_ := Aside0.mk (blk_drew BK115.out)
                have n4_ := Aside0.mk (blk_drew BK128.out)
                have n5_ := Aside0.mk (below_drew1 HB.out)
                clear BK105; clear BK106; clear BK107; clear BK115; clear BK128; clear HB
                have BK105 := n0_
                have BK106 := n1_
                have BK107 := n2_
                have BK115 := n3_
                have BK128 := n4_
                have HB := n5_
                clear n0_ n1_ n2_ n3_ n4_ n5_
                refine start_ (n := 30) (S := fun w' => w'.cell? ⟨gb115, 0, none⟩ = some (.int .i64 t108) ∧ w'.cell? ⟨gb115, 1, none⟩ = some (.string t109) ∧ w'.cell? ⟨gb115, 2, none⟩ = some (.bool t110) ∧ w'.cell? ⟨gb115, 3, none⟩ = some (.string t111) ∧ w'.cell? ⟨gb115, 4, none⟩ = some (.int .i64 t112) ∧ w'.cell? ⟨gb115, 5, none⟩ = some (.string t113) ∧ w'.cell? ⟨gb115, 6, none⟩ = some (.string t114)) (ds := []) #[false, false, false, false, false, false, false, false, false, false, false, false, false, false, false, false, false, false, false, false, false, false, false, false, false, false, false, false, false, false] (by kernel_rfl) rfl rfl ⟨(blk_cell BK115.out 0).trans rfl, (blk_cell BK115.out 1).trans rfl, (blk_cell BK115.out 2).trans rfl, (blk_cell BK115.out 3).trans rfl, (blk_cell BK115.out 4).trans rfl, (blk_cell BK115.out 5).trans rfl, (blk_cell BK115.out 6).trans rfl⟩ (fun hHeld => ?_); refine with_tabW pursuivantlaw11_SourceRound.tab12 pursuivantlaw11_SourceRound.bits12 (fun HT_ HW_ => ?_)
                generalize wc.drew = w134 at BK105 BK106 BK107 BK115 BK128 HB hHeld ⊢
                refine one_ (i := 0) (N := some 78) #[true, false, false, false, false, false, false, false, false, false, false, false, false, false, false, false, false, false, false, false, false, false, false, false, false, false, false, false, false, false] rfl rfl (one_of HT_.out (by kernel_rfl)) (by decide) (fun K hK => ?_)
                refine goes_ Tryz.func12 (by kernel_rfl) rfl #[] (by rfl) rfl rfl z46_ ?_
                with_reducible refine (pursuivantlaw11_awake.calls kj77  true _ ?gw17_ A128.out z75_).mono ?_
                case gw17_ => exact z3_
                rintro e w135 ⟨rfl, hb⟩
                refine ⟨_, rfl, ?_⟩
                have n0_ := Aside0.mk (blk_below (g := gb105) (o := .cells #[.int .i64 a0_0, .string a0_1, .bool a0_2, .string a0_3, .int .i64 a0_4, .string a0_5, .string a0_6] 23 (0, 0)) z63_ hb)
                have n1_ := Aside0.mk (blk_below (g := gb106) (o := .cells #[.string a1_0, .string a1_1, .string a1_2, .int .i64 a1_3, .string a1_4, .bool a1_5, .string a1_6, .bool a1_7, .string a1_8] 30 (0, 0)) z59_ hb)
                have n2_ := Aside0.mk (blk_below (g := gb107) (o := .cells #[.string a2_0, .string a2_1, .int .i64 a2_2] 32 (0, 0)) z49_ hb)
                have n3_ := Aside0.mk (blk_below (g := gb115) (o := .cells #[.int .i64 t108, .string t109, .bool t110, .string t111, .int .i64 t112, .string t113, .string t114] 23 (0, 0)) z64_ hb)
                have n4_ := Aside0.mk (blk_below (g := gb128) (o := .cells #[.int .i64 t120, .string t121, .bool t122, .string t123, .int .i64 t124, .string t125, .string t126] 23 (0, 0)) z65_ hb)
                have n5_ := Aside0.mk (below_step z18_ hb)
                clear BK105; clear BK106; clear BK107; clear BK115; clear BK128; clear HB
                have BK105 := n0_
                have BK106 := n1_
                have BK107 := n2_
                have BK115 := n3_
                have BK128 := n4_
                have HB := n5_
                clear n0_ n1_ n2_ n3_ n4_ n5_
                (try clear hb)
                (try clear hb2)
                (try clear hk)
                (try clear hi)
                refine hK.out _ _ ⟨(blk_cell BK115.out 0).trans rfl, (blk_cell BK115.out 1).trans rfl, (blk_cell BK115.out 2).trans rfl, (blk_cell BK115.out 3).trans rfl, (blk_cell BK115.out 4).trans rfl, (blk_cell BK115.out 5).trans rfl, (blk_cell BK115.out 6).trans rfl⟩ (fun hHeld => ?_)
                clear hK K
                refine norm_ (a' := ?_) ?_ ?_
                rotate_left
                ·show Act.put _ (some 78) _ = _
                 simp only [Act.put, List.setIfInBounds_toArray, List.set_cons_zero, List.set_cons_succ, i64_w, i32_w]
                 rfl
                refine pure_ (i := 1) (N := some 79) (v := ?_) (a' := ?_) #[true, true, false, false, false, false, false, false, false, false, false, false, false, false, false, false, false, false, false, false, false, false, false, false, false, false, false, false, false, false] rfl rfl (any_of HT_.out (by kernel_rfl)) (fun _ _ _ h => h) (Or.inl ⟨by rfl, ?_⟩) ?_ ?_
                rotate_left
                ·intro w'
                 go_simp
                 with_reducible rfl
                rotate_left
                ·simp only [Act.put, List.setIfInBounds_toArray, List.set_cons_zero, List.set_cons_succ, i64_w, i32_w]
                 rfl
                refine pure_ (i := 2) (N := some 80) (v := ?_) (a' := ?_) #[true, true, true, false, false, false, false, false, false, false, false, false, false, false, false, false, false, false, false, false, false, false, false, false, false, false, false, false, false, false] rfl rfl (any_of HT_.out (by kernel_rfl)) (fun _ _ _ h => h) (Or.inl ⟨by rfl, ?_⟩) ?_ ?_
                rotate_left
                ·intro w'
                 go_simp
                 with_reducible rfl
                rotate_left
                ·simp only [Act.put, List.setIfInBounds_toArray, List.set_cons_zero, List.set_cons_succ, i64_w, i32_w]
                 rfl
                refine take_ (i := 3) (N := some 81) (v := ?_) (a' := ?_) #[true, true, true, true, false, false, false, false, false, false, false, false, false, false, false, false, false, false, false, false, false, false, false, false, false, false, false, false, false, false] rfl rfl (take_ofW HT_.out HW_.out (by kernel_rfl)) (fun _ _ _ h => h) (Or.inl ⟨by rfl, ?_⟩) hHeld ?_ ?_
                rotate_left
                ·rintro w' ⟨s0, s1, s2, s3, s4, s5, s6⟩
                 go_simp
                 with_reducible rfl
                rotate_left
                ·simp only [Act.put, List.setIfInBounds_toArray, List.set_cons_zero, List.set_cons_succ, i64_w, i32_w]
                 rfl
                refine pure_ (i := 4) (N := some 82) (v := ?_) (a' := ?_) #[true, true, true, true, true, false, false, false, false, false, false, false, false, false, false, false, false, false, false, false, false, false, false, false, false, false, false, false, false, false] rfl rfl (any_of HT_.out (by kernel_rfl)) (fun _ _ _ h => h) (Or.inl ⟨by rfl, ?_⟩) ?_ ?_
                rotate_left
                ·intro w'
                 go_simp
                 with_reducible rfl
                rotate_left
                ·simp only [Act.put, List.setIfInBounds_toArray, List.set_cons_zero, List.set_cons_succ, i64_w, i32_w]
                 rfl
                refine pure_ (i := 5) (N := some 83) (v := ?_) (a' := ?_) #[true, true, true, true, true, true, false, false, false, false, false, false, false, false, false, false, false, false, false, false, false, false, false, false, false, false, false, false, false, false] rfl rfl (any_of HT_.out (by kernel_rfl)) (fun _ _ _ h => h) (Or.inl ⟨by rfl, ?_⟩) ?_ ?_
                rotate_left
                ·intro w'
                 go_simp
                 with_reducible rfl
                rotate_left
                ·simp only [Act.put, List.setIfInBounds_toArray, List.set_cons_zero, List.set_cons_succ, i64_w, i32_w]
                 rfl
                refine pure_ (i := 6) (N := some 84) (v := ?_) (a' := ?_) #[true, true, true, true, true, true, true, false, false, false, false, false, false, false, false, false, false, false, false, false, false, false, false, false, false, false, false, false, false, false] rfl rfl (any_of HT_.out (by kernel_rfl)) (fun _ _ _ h => h) (Or.inl ⟨by rfl, ?_⟩) ?_ ?_
                rotate_left
                ·intro w'
                 go_simp
                 with_reducible rfl
                rotate_left
                ·simp only [Act.put, List.setIfInBounds_toArray, List.set_cons_zero, List.set_cons_succ, i64_w, i32_w]
                 rfl
                refine pure_ (i := 7) (N := some 85) (v := ?_) (a' := ?_) #[true, true, true, true, true, true, true, true, false, false, false, false, false, false, false, false, false, false, false, false, false, false, false, false, false, false, false, false, false, false] rfl rfl (any_of HT_.out (by kernel_rfl)) (fun _ _ _ h => h) (Or.inl ⟨by rfl, ?_⟩) ?_ ?_
                rotate_left
                ·intro w'
                 go_simp
                 with_reducible rfl
                rotate_left
                ·simp only [Act.put, List.setIfInBounds_toArray, List.set_cons_zero, List.set_cons_succ, i64_w, i32_w]
                 rfl
                refine pure_ (i := 8) (N := some 86) (v := ?_) (a' := ?_) #[true, true, true, true, true, true, true, true, true, false, false, false, false, false, false, false, false, false, false, false, false, false, false, false, false, false, false, false, false, false] rfl rfl (any_of HT_.out (by kernel_rfl)) (fun _ _ _ h => h) (Or.inl ⟨by rfl, ?_⟩) ?_ ?_
                rotate_left
                ·intro w'
                 go_simp
                 with_reducible rfl
                rotate_left
                ·simp only [Act.put, List.setIfInBounds_toArray, List.set_cons_zero, List.set_cons_succ, i64_w, i32_w]
                 rfl
                refine pure_ (i := 9) (N := some 87) (v := ?_) (a' := ?_) #[true, true, true, true, true, true, true, true, true, true, false, false, false, false, false, false, false, false, false, false, false, false, false, false, false, false, false, false, false, false] rfl rfl (any_of HT_.out (by kernel_rfl)) (fun _ _ _ h => h) (Or.inl ⟨by rfl, ?_⟩) ?_ ?_
                rotate_left
                ·intro w'
                 go_simp
                 with_reducible rfl
                rotate_left
                ·simp only [Act.put, List.setIfInBounds_toArray, List.set_cons_zero, List.set_cons_succ, i64_w, i32_w]
                 rfl
                refine pure_ (i := 10) (N := some 88) (v := ?_) (a' := ?_) #[true, true, true, true, true, true, true, true, true, true, true, false, false, false, false, false, false, false, false, false, false, false, false, false, false, false, false, false, false, false] rfl rfl (any_of HT_.out (by kernel_rfl)) (fun _ _ _ h => h) (Or.inl ⟨by rfl, ?_⟩) ?_ ?_
                rotate_left
                ·intro w'
                 go_simp
                 with_reducible rfl
                rotate_left
                ·simp only [Act.put, List.setIfInBounds_toArray, List.set_cons_zero, List.set_cons_succ, i64_w, i32_w]
                 rfl
                refine take_ (i := 11) (N := some 89) (v := ?_) (a' := ?_) #[true, true, true, true, true, true, true, true, true, true, true, true, false, false, false, false, false, false, false, false, false, false, false, false, false, false, false, false, false, false] rfl rfl (take_ofW HT_.out HW_.out (by kernel_rfl)) (fun _ _ _ h => h) (Or.inl ⟨by rfl, ?_⟩) hHeld ?_ ?_
                rotate_left
                ·rintro w' ⟨s0, s1, s2, s3, s4, s5, s6⟩
                 go_simp
                 with_reducible rfl
                rotate_left
                ·simp only [Act.put, List.setIfInBounds_toArray, List.set_cons_zero, List.set_cons_succ, i64_w, i32_w]
                 rfl
                refine pure_ (i := 12) (N := some 90) (v := ?_) (a' := ?_) #[true, true, true, true, true, true, true, true, true, true, true, true, true, false, false, false, false, false, false, false, false, false, false, false, false, false, false, false, false, false] rfl rfl (any_of HT_.out (by kernel_rfl)) (fun _ _ _ h => h) (Or.inl ⟨by rfl, ?_⟩) ?_ ?_
                rotate_left
                ·intro w'
                 go_simp
                 with_reducible rfl
                rotate_left
                ·simp only [Act.put, List.setIfInBounds_toArray, List.set_cons_zero, List.set_cons_succ, i64_w, i32_w]
                 rfl
                refine pure_ (i := 13) (N := some 91) (v := ?_) (a' := ?_) #[true, true, true, true, true, true, true, true, true, true, true, true, true, true, false, false, false, false, false, false, false, false, false, false, false, false, false, false, false, false] rfl rfl (any_of HT_.out (by kernel_rfl)) (fun _ _ _ h => h) (Or.inl ⟨by rfl, ?_⟩) ?_ ?_
                rotate_left
                ·intro w'
                 go_simp
                 with_reducible rfl
                rotate_left
                ·simp only [Act.put, List.setIfInBounds_toArray, List.set_cons_zero, List.set_cons_succ, i64_w, i32_w]
                 rfl
                refine pure_ (i := 14) (N := some 92) (v := ?_) (a' := ?_) #[true, true, true, true, true, true, true, true, true, true, true, true, true, true, true, false, false, false, false, false, false, false, false, false, false, false, false, false, false, false] rfl rfl (any_of HT_.out (by kernel_rfl)) (fun _ _ _ h => h) (Or.inl ⟨by rfl, ?_⟩) ?_ ?_
                rotate_left
                ·intro w'
                 go_simp
                 with_reducible rfl
                rotate_left
                ·simp only [Act.put, List.setIfInBounds_toArray, List.set_cons_zero, List.set_cons_succ, i64_w, i32_w]
                 rfl
                refine pure_ (i := 15) (N := some 93) (v := ?_) (a' := ?_) #[true, true, true, true, true, true, true, true, true, true, true, true, true, true, true, true, false, false, false, false, false, false, false, false, false, false, false, false, false, false] rfl rfl (any_of HT_.out (by kernel_rfl)) (fun _ _ _ h => h) (Or.inl ⟨by rfl, ?_⟩) ?_ ?_
                rotate_left
                ·intro w'
                 go_simp
                 with_reducible rfl
                rotate_left
                ·simp only [Act.put, List.setIfInBounds_toArray, List.set_cons_zero, List.set_cons_succ, i64_w, i32_w]
                 rfl
                refine pure_ (i := 16) (N := some 94) (v := ?_) (a' := ?_) #[true, true, true, true, true, true, true, true, true, true, true, true, true, true, true, true, true, false, false, false, false, false, false, false, false, false, false, false, false, false] rfl rfl (any_of HT_.out (by kernel_rfl)) (fun _ _ _ h => h) (Or.inl ⟨by rfl, ?_⟩) ?_ ?_
                rotate_left
                ·intro w'
                 go_simp
                 with_reducible rfl
                rotate_left
                ·simp only [Act.put, List.setIfInBounds_toArray, List.set_cons_zero, List.set_cons_succ, i64_w, i32_w]
                 rfl
                refine pure_ (i := 17) (N := some 95) (v := ?_) (a' := ?_) #[true, true, true, true, true, true, true, true, true, true, true, true, true, true, true, true, true, true, false, false, false, false, false, false, false, false, false, false, false, false] rfl rfl (any_of HT_.out (by kernel_rfl)) (fun _ _ _ h => h) (Or.inl ⟨by rfl, ?_⟩) ?_ ?_
                rotate_left
                ·intro w'
                 go_simp
                 with_reducible rfl
                rotate_left
                ·simp only [Act.put, List.setIfInBounds_toArray, List.set_cons_zero, List.set_cons_succ, i64_w, i32_w]
                 rfl
                refine pure_ (i := 18) (N := some 96) (v := ?_) (a' := ?_) #[true, true, true, true, true, true, true, true, true, true, true, true, true, true, true, true, true, true, true, false, false, false, false, false, false, false, false, false, false, false] rfl rfl (any_of HT_.out (by kernel_rfl)) (fun _ _ _ h => h) (Or.inl ⟨by rfl, ?_⟩) ?_ ?_
                rotate_left
                ·intro w'
                 go_simp
                 with_reducible rfl
                rotate_left
                ·simp only [Act.put, List.setIfInBounds_toArray, List.set_cons_zero, List.set_cons_succ, i64_w, i32_w]
                 rfl
                refine pure_ (i := 19) (N := some 97) (v := ?_) (a' := ?_) #[true, true, true, true, true, true, true, true, true, true, true, true, true, true, true, true, true, true, true, true, false, false, false, false, false, false, false, false, false, false] rfl rfl (any_of HT_.out (by kernel_rfl)) (fun _ _ _ h => h) (Or.inl ⟨by rfl, ?_⟩) ?_ ?_
                rotate_left
                ·intro w'
                 go_simp
                 with_reducible rfl
                rotate_left
                ·simp only [Act.put, List.setIfInBounds_toArray, List.set_cons_zero, List.set_cons_succ, i64_w, i32_w]
                 rfl
                refine pure_ (i := 20) (N := some 98) (v := undef) (a' := ?_) #[true, true, true, true, true, true, true, true, true, true, true, true, true, true, true, true, true, true, true, true, true, false, false, false, false, false, false, false, false, false] rfl rfl (any_of HT_.out (by kernel_rfl)) (fun _ _ _ h => h) (Or.inr ⟨by rfl, rfl⟩) ?_ ?_
                rotate_left
                ·simp only [Act.put, List.setIfInBounds_toArray, List.set_cons_zero, List.set_cons_succ, i64_w, i32_w]
                 rfl
                refine pure_ (i := 21) (N := some 99) (v := undef) (a' := ?_) #[true, true, true, true, true, true, true, true, true, true, true, true, true, true, true, true, true, true, true, true, true, true, false, false, false, false, false, false, false, false] rfl rfl (any_of HT_.out (by kernel_rfl)) (fun _ _ _ h => h) (Or.inr ⟨by rfl, rfl⟩) ?_ ?_
                rotate_left
                ·simp only [Act.put, List.setIfInBounds_toArray, List.set_cons_zero, List.set_cons_succ, i64_w, i32_w]
                 rfl
                refine pure_ (i := 22) (N := some 100) (v := undef) (a' := ?_) #[true, true, true, true, true, true, true, true, true, true, true, true, true, true, true, true, true, true, true, true, true, true, true, false, false, false, false, false, false, false] rfl rfl (any_of HT_.out (by kernel_rfl)) (fun _ _ _ h => h) (Or.inr ⟨by rfl, rfl⟩) ?_ ?_
                rotate_left
                ·simp only [Act.put, List.setIfInBounds_toArray, List.set_cons_zero, List.set_cons_succ, i64_w, i32_w]
                 rfl
                refine pure_ (i := 23) (N := some 101) (v := undef) (a' := ?_) #[true, true, true, true, true, true, true, true, true, true, true, true, true, true, true, true, true, true, true, true, true, true, true, true, false, false, false, false, false, false] rfl rfl (any_of HT_.out (by kernel_rfl)) (fun _ _ _ h => h) (Or.inr ⟨by rfl, rfl⟩) ?_ ?_
                rotate_left
                ·simp only [Act.put, List.setIfInBounds_toArray, List.set_cons_zero, List.set_cons_succ, i64_w, i32_w]
                 rfl
                refine pure_ (i := 24) (N := some 102) (v := undef) (a' := ?_) #[true, true, true, true, true, true, true, true, true, true, true, true, true, true, true, true, true, true, true, true, true, true, true, true, true, false, false, false, false, false] rfl rfl (any_of HT_.out (by kernel_rfl)) (fun _ _ _ h => h) (Or.inr ⟨by rfl, rfl⟩) ?_ ?_
                rotate_left
                ·simp only [Act.put, List.setIfInBounds_toArray, List.set_cons_zero, List.set_cons_succ, i64_w, i32_w]
                 rfl
                refine pure_ (i := 25) (N := some 103) (v := ?_) (a' := ?_) #[true, true, true, true, true, true, true, true, true, true, true, true, true, true, true, true, true, true, true, true, true, true, true, true, true, true, false, false, false, false] rfl rfl (any_of HT_.out (by kernel_rfl)) (fun _ _ _ h => h) (Or.inl ⟨by rfl, ?_⟩) ?_ ?_
                rotate_left
                ·intro w'
                 go_simp
                 with_reducible rfl
                rotate_left
                ·simp only [Act.put, List.setIfInBounds_toArray, List.set_cons_zero, List.set_cons_succ, i64_w, i32_w]
                 rfl
                refine pure_ (i := 26) (N := some 104) (v := ?_) (a' := ?_) #[true, true, true, true, true, true, true, true, true, true, true, true, true, true, true, true, true, true, true, true, true, true, true, true, true, true, true, false, false, false] rfl rfl (any_of HT_.out (by kernel_rfl)) (fun _ _ _ h => h) (Or.inl ⟨by rfl, ?_⟩) ?_ ?_
                rotate_left
                ·intro w'
                 go_simp
                 with_reducible rfl
                rotate_left
                ·simp only [Act.put, List.setIfInBounds_toArray, List.set_cons_zero, List.set_cons_succ, i64_w, i32_w]
                 rfl
                refine pure_ (i := 27) (N := some 105) (v := ?_) (a' := ?_) #[true, true, true, true, true, true, true, true, true, true, true, true, true, true, true, true, true, true, true, true, true, true, true, true, true, true, true, true, false, false] rfl rfl (any_of HT_.out (by kernel_rfl)) (fun _ _ _ h => h) (Or.inl ⟨by rfl, ?_⟩) ?_ ?_
                rotate_left
                ·intro w'
                 go_simp
                 with_reducible rfl
                rotate_left
                ·simp only [Act.put, List.setIfInBounds_toArray, List.set_cons_zero, List.set_cons_succ, i64_w, i32_w]
                 rfl
                refine pure_ (i := 28) (N := some 106) (v := ?_) (a' := ?_) #[true, true, true, true, true, true, true, true, true, true, true, true, true, true, true, true, true, true, true, true, true, true, true, true, true, true, true, true, true, false] rfl rfl (any_of HT_.out (by kernel_rfl)) (fun _ _ _ h => h) (Or.inl ⟨by rfl, ?_⟩) ?_ ?_
                rotate_left
                ·intro w'
                 go_simp
                 with_reducible rfl
                rotate_left
                ·simp only [Act.put, List.setIfInBounds_toArray, List.set_cons_zero, List.set_cons_succ, i64_w, i32_w]
                 rfl
                refine pure_ (i := 29) (N := some 6) (v := ?_) (a' := ?_) #[true, true, true, true, true, true, true, true, true, true, true, true, true, true, true, true, true, true, true, true, true, true, true, true, true, true, true, true, true, true] rfl rfl (any_of HT_.out (by kernel_rfl)) (fun _ _ _ h => h) (Or.inl ⟨by rfl, ?_⟩) ?_ ?_
                rotate_left
                ·intro w'
                 go_simp
                 with_reducible rfl
                rotate_left
                ·simp only [Act.put, List.setIfInBounds_toArray, List.set_cons_zero, List.set_cons_succ, i64_w, i32_w]
                 rfl
                refine done_ (done_of HT_.out (by kernel_rfl)) ?_
                try go_wp2
                go_ret
                exact ⟨z48_, z18_⟩
               ·rw [if_neg c133] at H
                have c133b0 : (true == t133) = false := by simpa using c133
                (try (have c133b1 : decide (true = t133) = false := by simpa using c133))
                (try (have c133b2 : (true == t133) = false := by simpa using c133))
                (try (have c133b3 : ¬ (true = t133) := by simpa using c133))
                clear c133
                exact absurd ((Option.some.inj H).trans hr_) Bool.false_ne_true
              ·rw [if_neg c132] at H
               have c132b0 : (t108 == 1) = false := beq_eq_false_iff_ne.mpr c132
               have c132b1 : (t108 != 1) = true := bne_iff_ne.mpr c132
               obtain rfl := Option.some.inj H
               try go_wp2
               have n0_ := Aside0.mk (blk_drew BK105.out)
               have n1_ := Aside0.mk (blk_drew BK106.out)
               have n2_ := Aside0.mk (blk_drew BK107.out)
               have n3_ := Aside0.mk (blk_drew BK115.out)
               have n4_ := Aside0.mk (blk_drew BK128.out)
               have n5_ := Aside0.mk (below_drew1 HB.out)
               clear BK105; clear BK106; clear BK107; clear BK115; clear BK128; clear HB
               have BK105 := n0_
               have BK106 := n1_
               have BK107 := n2_
               have BK115 := n3_
               have BK128 := n4_
               have HB := n5_
               clear n0_ n1_ n2_ n3_ n4_ n5_
               refine start_ (n := 30) (S := fun w' => w'.cell? ⟨gb115, 0, none⟩ = some (.int .i64 t108) ∧ w'.cell? ⟨gb115, 1, none⟩ = some (.string t109) ∧ w'.cell? ⟨gb115, 2, none⟩ = some (.bool t110) ∧ w'.cell? ⟨gb115, 3, none⟩ = some (.string t111) ∧ w'.cell? ⟨gb115, 4, none⟩ = some (.int .i64 t112) ∧ w'.cell? ⟨gb115, 5, none⟩ = some (.string t113) ∧ w'.cell? ⟨gb115, 6, none⟩ = some (.string t114)) (ds := []) #[false, false, false, false, false, false, false, false, false, false, false, false, false, false, false, false, false, false, false, false, false, false, false, false, false, false, false, false, false, false] (by kernel_rfl) rfl rfl ⟨(blk_cell BK115.out 0).trans rfl, (blk_cell BK115.out 1).trans rfl, (blk_cell BK115.out 2).trans rfl, (blk_cell BK115.out 3).trans rfl, (blk_cell BK115.out 4).trans rfl, (blk_cell BK115.out 5).trans rfl, (blk_cell BK115.out 6).trans rfl⟩ (fun hHeld => ?_); refine with_tabW pursuivantlaw11_SourceRound.tab12 pursuivantlaw11_SourceRound.bits12 (fun HT_ HW_ => ?_)
               generalize wc.drew = w136 at BK105 BK106 BK107 BK115 BK128 HB hHeld ⊢
               refine one_ (i := 0) (N := some 78) #[true, false, false, false, false, false, false, false, false, false, false, false, false, false, false, false, false, false, false, false, false, false, false, false, false, false, false, false, false, false] rfl rfl (one_of HT_.out (by kernel_rfl)) (by decide) (fun K hK => ?_)
               refine goes_ Tryz.func12 (by kernel_rfl) rfl #[] (by rfl) rfl rfl z46_ ?_
               with_reducible refine (pursuivantlaw11_awake.calls kj77  true _ ?gw18_ A128.out z75_).mono ?_
               case gw18_ => exact z3_
               rintro e w137 ⟨rfl, hb⟩
               refine ⟨_, rfl, ?_⟩
               have n0_ := Aside0.mk (blk_below (g := gb105) (o := .cells #[.int .i64 a0_0, .string a0_1, .bool a0_2, .string a0_3, .int .i64 a0_4, .string a0_5, .string a0_6] 23 (0, 0)) z63_ hb)
               have n1_ := Aside0.mk (blk_below (g := gb106) (o := .cells #[.string a1_0, .string a1_1, .string a1_2, .int .i64 a1_3, .string a1_4, .bool a1_5, .string a1_6, .bool a1_7, .string a1_8] 30 (0, 0)) z59_ hb)
               have n2_ := Aside0.mk (blk_below (g := gb107) (o := .cells #[.string a2_0, .string a2_1, .int .i64 a2_2] 32 (0, 0)) z49_ hb)
               have n3_ := Aside0.mk (blk_below (g := gb115) (o := .cells #[.int .i64 t108, .string t109, .bool t110, .string t111, .int .i64 t112, .string t113, .string t114] 23 (0, 0)) z64_ hb)
               have n4_ := Aside0.mk (blk_below (g := gb128) (o := .cells #[.int .i64 t120, .string t121, .bool t122, .string t123, .int .i64 t124, .string t125, .string t126] 23 (0, 0)) z65_ hb)
               have n5_ := Aside0.mk (below_step z18_ hb)
               clear BK105; clear BK106; clear BK107; clear BK115; clear BK128; clear HB
               have BK105 := n0_
               have BK106 := n1_
               have BK107 := n2_
               have BK115 := n3_
               have BK128 := n4_
               have HB := n5_
               clear n0_ n1_ n2_ n3_ n4_ n5_
               (try clear hb)
               (try clear hb2)
               (try clear hk)
               (try clear hi)
               refine hK.out _ _ ⟨(blk_cell BK115.out 0).trans rfl, (blk_cell BK115.out 1).trans rfl, (blk_cell BK115.out 2).trans rfl, (blk_cell BK115.out 3).trans rfl, (blk_cell BK115.out 4).trans rfl, (blk_cell BK115.out 5).trans rfl, (blk_cell BK115.out 6).trans rfl⟩ (fun hHeld => ?_)
               clear hK K
               refine norm_ (a' := ?_) ?_ ?_
               rotate_left
               ·show Act.put _ (some 78) _ = _
                simp only [Act.put, List.setIfInBounds_toArray, List.set_cons_zero, List.set_cons_succ, i64_w, i32_w]
                rfl
               refine pure_ (i := 1) (N := some 79) (v := ?_) (a' := ?_) #[true, true, false, false, false, false, false, false, false, false, false, false, false, false, false, false, false, false, false, false, false, false, false, false, false, false, false, false, false, false] rfl rfl (any_of HT_.out (by kernel_rfl)) (fun _ _ _ h => h) (Or.inl ⟨by rfl, ?_⟩) ?_ ?_
               rotate_left
               ·intro w'
                go_simp
                with_reducible rfl
               rotate_left
               ·simp only [Act.put, List.setIfInBounds_toArray, List.set_cons_zero, List.set_cons_succ, i64_w, i32_w]
                rfl
               refine pure_ (i := 2) (N := some 80) (v := ?_) (a' := ?_) #[true, true, true, false, false, false, false, false, false, false, false, false, false, false, false, false, false, false, false, false, false, false, false, false, false, false, false, false, false, false] rfl rfl (any_of HT_.out (by kernel_rfl)) (fun _ _ _ h => h) (Or.inl ⟨by rfl, ?_⟩) ?_ ?_
               rotate_left
               ·intro w'
                go_simp
                with_reducible rfl
               rotate_left
               ·simp only [Act.put, List.setIfInBounds_toArray, List.set_cons_zero, List.set_cons_succ, i64_w, i32_w]
                rfl
               refine take_ (i := 3) (N := some 81) (v := ?_) (a' := ?_) #[true, true, true, true, false, false, false, false, false, false, false, false, false, false, false, false, false, false, false, false, false, false, false, false, false, false, false, false, false, false] rfl rfl (take_ofW HT_.out HW_.out (by kernel_rfl)) (fun _ _ _ h => h) (Or.inl ⟨by rfl, ?_⟩) hHeld ?_ ?_
               rotate_left
               ·rintro w' ⟨s0, s1, s2, s3, s4, s5, s6⟩
                go_simp
                with_reducible rfl
               rotate_left
               ·simp only [Act.put, List.setIfInBounds_toArray, List.set_cons_zero, List.set_cons_succ, i64_w, i32_w]
                rfl
               refine pure_ (i := 4) (N := some 82) (v := ?_) (a' := ?_) #[true, true, true, true, true, false, false, false, false, false, false, false, false, false, false, false, false, false, false, false, false, false, false, false, false, false, false, false, false, false] rfl rfl (any_of HT_.out (by kernel_rfl)) (fun _ _ _ h => h) (Or.inl ⟨by rfl, ?_⟩) ?_ ?_
               rotate_left
               ·intro w'
                go_simp
                with_reducible rfl
               rotate_left
               ·simp only [Act.put, List.setIfInBounds_toArray, List.set_cons_zero, List.set_cons_succ, i64_w, i32_w]
                rfl
               refine pure_ (i := 5) (N := some 83) (v := ?_) (a' := ?_) #[true, true, true, true, true, true, false, false, false, false, false, false, false, false, false, false, false, false, false, false, false, false, false, false, false, false, false, false, false, false] rfl rfl (any_of HT_.out (by kernel_rfl)) (fun _ _ _ h => h) (Or.inl ⟨by rfl, ?_⟩) ?_ ?_
               rotate_left
               ·intro w'
                go_simp
                with_reducible rfl
               rotate_left
               ·simp only [Act.put, List.setIfInBounds_toArray, List.set_cons_zero, List.set_cons_succ, i64_w, i32_w]
                rfl
               refine pure_ (i := 6) (N := some 84) (v := ?_) (a' := ?_) #[true, true, true, true, true, true, true, false, false, false, false, false, false, false, false, false, false, false, false, false, false, false, false, false, false, false, false, false, false, false] rfl rfl (any_of HT_.out (by kernel_rfl)) (fun _ _ _ h => h) (Or.inl ⟨by rfl, ?_⟩) ?_ ?_
               rotate_left
               ·intro w'
                go_simp
                with_reducible rfl
               rotate_left
               ·simp only [Act.put, List.setIfInBounds_toArray, List.set_cons_zero, List.set_cons_succ, i64_w, i32_w]
                rfl
               refine pure_ (i := 7) (N := some 85) (v := ?_) (a' := ?_) #[true, true, true, true, true, true, true, true, false, false, false, false, false, false, false, false, false, false, false, false, false, false, false, false, false, false, false, false, false, false] rfl rfl (any_of HT_.out (by kernel_rfl)) (fun _ _ _ h => h) (Or.inl ⟨by rfl, ?_⟩) ?_ ?_
               rotate_left
               ·intro w'
                go_simp
                with_reducible rfl
               rotate_left
               ·simp only [Act.put, List.setIfInBounds_toArray, List.set_cons_zero, List.set_cons_succ, i64_w, i32_w]
                rfl
               refine pure_ (i := 8) (N := some 86) (v := ?_) (a' := ?_) #[true, true, true, true, true, true, true, true, true, false, false, false, false, false, false, false, false, false, false, false, false, false, false, false, false, false, false, false, false, false] rfl rfl (any_of HT_.out (by kernel_rfl)) (fun _ _ _ h => h) (Or.inl ⟨by rfl, ?_⟩) ?_ ?_
               rotate_left
               ·intro w'
                go_simp
                with_reducible rfl
               rotate_left
               ·simp only [Act.put, List.setIfInBounds_toArray, List.set_cons_zero, List.set_cons_succ, i64_w, i32_w]
                rfl
               refine pure_ (i := 9) (N := some 87) (v := ?_) (a' := ?_) #[true, true, true, true, true, true, true, true, true, true, false, false, false, false, false, false, false, false, false, false, false, false, false, false, false, false, false, false, false, false] rfl rfl (any_of HT_.out (by kernel_rfl)) (fun _ _ _ h => h) (Or.inl ⟨by rfl, ?_⟩) ?_ ?_
               rotate_left
               ·intro w'
                go_simp
                with_reducible rfl
               rotate_left
               ·simp only [Act.put, List.setIfInBounds_toArray, List.set_cons_zero, List.set_cons_succ, i64_w, i32_w]
                rfl
               refine pure_ (i := 10) (N := some 88) (v := ?_) (a' := ?_) #[true, true, true, true, true, true, true, true, true, true, true, false, false, false, false, false, false, false, false, false, false, false, false, false, false, false, false, false, false, false] rfl rfl (any_of HT_.out (by kernel_rfl)) (fun _ _ _ h => h) (Or.inl ⟨by rfl, ?_⟩) ?_ ?_
               rotate_left
               ·intro w'
                go_simp
                with_reducible rfl
               rotate_left
               ·simp only [Act.put, List.setIfInBounds_toArray, List.set_cons_zero, List.set_cons_succ, i64_w, i32_w]
                rfl
               refine take_ (i := 11) (N := some 89) (v := ?_) (a' := ?_) #[true, true, true, true, true, true, true, true, true, true, true, true, false, false, false, false, false, false, false, false, false, false, false, false, false, false, false, false, false, false] rfl rfl (take_ofW HT_.out HW_.out (by kernel_rfl)) (fun _ _ _ h => h) (Or.inl ⟨by rfl, ?_⟩) hHeld ?_ ?_
               rotate_left
               ·rintro w' ⟨s0, s1, s2, s3, s4, s5, s6⟩
                go_simp
                with_reducible rfl
               rotate_left
               ·simp only [Act.put, List.setIfInBounds_toArray, List.set_cons_zero, List.set_cons_succ, i64_w, i32_w]
                rfl
               refine pure_ (i := 12) (N := some 90) (v := ?_) (a' := ?_) #[true, true, true, true, true, true, true, true, true, true, true, true, true, false, false, false, false, false, false, false, false, false, false, false, false, false, false, false, false, false] rfl rfl (any_of HT_.out (by kernel_rfl)) (fun _ _ _ h => h) (Or.inl ⟨by rfl, ?_⟩) ?_ ?_
               rotate_left
               ·intro w'
                go_simp
                with_reducible rfl
               rotate_left
               ·simp only [Act.put, List.setIfInBounds_toArray, List.set_cons_zero, List.set_cons_succ, i64_w, i32_w]
                rfl
               refine pure_ (i := 13) (N := some 91) (v := ?_) (a' := ?_) #[true, true, true, true, true, true, true, true, true, true, true, true, true, true, false, false, false, false, false, false, false, false, false, false, false, false, false, false, false, false] rfl rfl (any_of HT_.out (by kernel_rfl)) (fun _ _ _ h => h) (Or.inl ⟨by rfl, ?_⟩) ?_ ?_
               rotate_left
               ·intro w'
                go_simp
                with_reducible rfl
               rotate_left
               ·simp only [Act.put, List.setIfInBounds_toArray, List.set_cons_zero, List.set_cons_succ, i64_w, i32_w]
                rfl
               refine pure_ (i := 14) (N := some 92) (v := undef) (a' := ?_) #[true, true, true, true, true, true, true, true, true, true, true, true, true, true, true, false, false, false, false, false, false, false, false, false, false, false, false, false, false, false] rfl rfl (any_of HT_.out (by kernel_rfl)) (fun _ _ _ h => h) (Or.inr ⟨by rfl, rfl⟩) ?_ ?_
               rotate_left
               ·simp only [Act.put, List.setIfInBounds_toArray, List.set_cons_zero, List.set_cons_succ, i64_w, i32_w]
                rfl
               refine pure_ (i := 15) (N := some 93) (v := undef) (a' := ?_) #[true, true, true, true, true, true, true, true, true, true, true, true, true, true, true, true, false, false, false, false, false, false, false, false, false, false, false, false, false, false] rfl rfl (any_of HT_.out (by kernel_rfl)) (fun _ _ _ h => h) (Or.inr ⟨by rfl, rfl⟩) ?_ ?_
               rotate_left
               ·simp only [Act.put, List.setIfInBounds_toArray, List.set_cons_zero, List.set_cons_succ, i64_w, i32_w]
                rfl
               refine pure_ (i := 16) (N := some 94) (v := undef) (a' := ?_) #[true, true, true, true, true, true, true, true, true, true, true, true, true, true, true, true, true, false, false, false, false, false, false, false, false, false, false, false, false, false] rfl rfl (any_of HT_.out (by kernel_rfl)) (fun _ _ _ h => h) (Or.inr ⟨by rfl, rfl⟩) ?_ ?_
               rotate_left
               ·simp only [Act.put, List.setIfInBounds_toArray, List.set_cons_zero, List.set_cons_succ, i64_w, i32_w]
                rfl
               refine pure_ (i := 17) (N := some 95) (v := undef) (a' := ?_) #[true, true, true, true, true, true, true, true, true, true, true, true, true, true, true, true, true, true, false, false, false, false, false, false, false, false, false, false, false, false] rfl rfl (any_of HT_.out (by kernel_rfl)) (fun _ _ _ h => h) (Or.inr ⟨by rfl, rfl⟩) ?_ ?_
               rotate_left
               ·simp only [Act.put, List.setIfInBounds_toArray, List.set_cons_zero, List.set_cons_succ, i64_w, i32_w]
                rfl
               refine pure_ (i := 18) (N := some 96) (v := undef) (a' := ?_) #[true, true, true, true, true, true, true, true, true, true, true, true, true, true, true, true, true, true, true, false, false, false, false, false, false, false, false, false, false, false] rfl rfl (any_of HT_.out (by kernel_rfl)) (fun _ _ _ h => h) (Or.inr ⟨by rfl, rfl⟩) ?_ ?_
               rotate_left
               ·simp only [Act.put, List.setIfInBounds_toArray, List.set_cons_zero, List.set_cons_succ, i64_w, i32_w]
                rfl
               refine pure_ (i := 19) (N := some 97) (v := undef) (a' := ?_) #[true, true, true, true, true, true, true, true, true, true, true, true, true, true, true, true, true, true, true, true, false, false, false, false, false, false, false, false, false, false] rfl rfl (any_of HT_.out (by kernel_rfl)) (fun _ _ _ h => h) (Or.inr ⟨by rfl, rfl⟩) ?_ ?_
               rotate_left
               ·simp only [Act.put, List.setIfInBounds_toArray, List.set_cons_zero, List.set_cons_succ, i64_w, i32_w]
                rfl
               refine pure_ (i := 20) (N := some 98) (v := undef) (a' := ?_) #[true, true, true, true, true, true, true, true, true, true, true, true, true, true, true, true, true, true, true, true, true, false, false, false, false, false, false, false, false, false] rfl rfl (any_of HT_.out (by kernel_rfl)) (fun _ _ _ h => h) (Or.inr ⟨by rfl, rfl⟩) ?_ ?_
               rotate_left
               ·simp only [Act.put, List.setIfInBounds_toArray, List.set_cons_zero, List.set_cons_succ, i64_w, i32_w]
                rfl
               refine pure_ (i := 21) (N := some 99) (v := undef) (a' := ?_) #[true, true, true, true, true, true, true, true, true, true, true, true, true, true, true, true, true, true, true, true, true, true, false, false, false, false, false, false, false, false] rfl rfl (any_of HT_.out (by kernel_rfl)) (fun _ _ _ h => h) (Or.inr ⟨by rfl, rfl⟩) ?_ ?_
               rotate_left
               ·simp only [Act.put, List.setIfInBounds_toArray, List.set_cons_zero, List.set_cons_succ, i64_w, i32_w]
                rfl
               refine pure_ (i := 22) (N := some 100) (v := undef) (a' := ?_) #[true, true, true, true, true, true, true, true, true, true, true, true, true, true, true, true, true, true, true, true, true, true, true, false, false, false, false, false, false, false] rfl rfl (any_of HT_.out (by kernel_rfl)) (fun _ _ _ h => h) (Or.inr ⟨by rfl, rfl⟩) ?_ ?_
               rotate_left
               ·simp only [Act.put, List.setIfInBounds_toArray, List.set_cons_zero, List.set_cons_succ, i64_w, i32_w]
                rfl
               refine pure_ (i := 23) (N := some 101) (v := undef) (a' := ?_) #[true, true, true, true, true, true, true, true, true, true, true, true, true, true, true, true, true, true, true, true, true, true, true, true, false, false, false, false, false, false] rfl rfl (any_of HT_.out (by kernel_rfl)) (fun _ _ _ h => h) (Or.inr ⟨by rfl, rfl⟩) ?_ ?_
               rotate_left
               ·simp only [Act.put, List.setIfInBounds_toArray, List.set_cons_zero, List.set_cons_succ, i64_w, i32_w]
                rfl
               refine pure_ (i := 24) (N := some 102) (v := undef) (a' := ?_) #[true, true, true, true, true, true, true, true, true, true, true, true, true, true, true, true, true, true, true, true, true, true, true, true, true, false, false, false, false, false] rfl rfl (any_of HT_.out (by kernel_rfl)) (fun _ _ _ h => h) (Or.inr ⟨by rfl, rfl⟩) ?_ ?_
               rotate_left
               ·simp only [Act.put, List.setIfInBounds_toArray, List.set_cons_zero, List.set_cons_succ, i64_w, i32_w]
                rfl
               refine pure_ (i := 25) (N := some 103) (v := undef) (a' := ?_) #[true, true, true, true, true, true, true, true, true, true, true, true, true, true, true, true, true, true, true, true, true, true, true, true, true, true, false, false, false, false] rfl rfl (any_of HT_.out (by kernel_rfl)) (fun _ _ _ h => h) (Or.inr ⟨by rfl, rfl⟩) ?_ ?_
               rotate_left
               ·simp only [Act.put, List.setIfInBounds_toArray, List.set_cons_zero, List.set_cons_succ, i64_w, i32_w]
                rfl
               refine pure_ (i := 26) (N := some 104) (v := undef) (a' := ?_) #[true, true, true, true, true, true, true, true, true, true, true, true, true, true, true, true, true, true, true, true, true, true, true, true, true, true, true, false, false, false] rfl rfl (any_of HT_.out (by kernel_rfl)) (fun _ _ _ h => h) (Or.inr ⟨by rfl, rfl⟩) ?_ ?_
               rotate_left
               ·simp only [Act.put, List.setIfInBounds_toArray, List.set_cons_zero, List.set_cons_succ, i64_w, i32_w]
                rfl
               refine pure_ (i := 27) (N := some 105) (v := ?_) (a' := ?_) #[true, true, true, true, true, true, true, true, true, true, true, true, true, true, true, true, true, true, true, true, true, true, true, true, true, true, true, true, false, false] rfl rfl (any_of HT_.out (by kernel_rfl)) (fun _ _ _ h => h) (Or.inl ⟨by rfl, ?_⟩) ?_ ?_
               rotate_left
               ·intro w'
                go_simp
                with_reducible rfl
               rotate_left
               ·simp only [Act.put, List.setIfInBounds_toArray, List.set_cons_zero, List.set_cons_succ, i64_w, i32_w]
                rfl
               refine pure_ (i := 28) (N := some 106) (v := ?_) (a' := ?_) #[true, true, true, true, true, true, true, true, true, true, true, true, true, true, true, true, true, true, true, true, true, true, true, true, true, true, true, true, true, false] rfl rfl (any_of HT_.out (by kernel_rfl)) (fun _ _ _ h => h) (Or.inl ⟨by rfl, ?_⟩) ?_ ?_
               rotate_left
               ·intro w'
                go_simp
                with_reducible rfl
               rotate_left
               ·simp only [Act.put, List.setIfInBounds_toArray, List.set_cons_zero, List.set_cons_succ, i64_w, i32_w]
                rfl
               refine pure_ (i := 29) (N := some 6) (v := ?_) (a' := ?_) #[true, true, true, true, true, true, true, true, true, true, true, true, true, true, true, true, true, true, true, true, true, true, true, true, true, true, true, true, true, true] rfl rfl (any_of HT_.out (by kernel_rfl)) (fun _ _ _ h => h) (Or.inl ⟨by rfl, ?_⟩) ?_ ?_
               rotate_left
               ·intro w'
                go_simp
                with_reducible rfl
               rotate_left
               ·simp only [Act.put, List.setIfInBounds_toArray, List.set_cons_zero, List.set_cons_succ, i64_w, i32_w]
                rfl
               refine done_ (done_of HT_.out (by kernel_rfl)) ?_
               try go_wp2
               go_ret
               exact ⟨z48_, z18_⟩
             ·replace c131 := Bool.eq_false_iff.mpr c131
              subst c131
              have H1 : (some false) = some r := by rw [if_neg (show ¬ (false = true) by decide)] at H; exact H
              clear H
              have H := H1
              clear H1
              exact absurd ((Option.some.inj H).trans hr_) Bool.false_ne_true
            ·rw [if_neg c130] at H
             have c130b0 : (t108 == 2) = false := beq_eq_false_iff_ne.mpr c130
             have c130b1 : (t108 != 2) = true := bne_iff_ne.mpr c130
             by_cases c138 : t108 = 1
             ·rw [if_pos c138] at H
              have c138b0 : (t108 == 1) = true := beq_iff_eq.mpr c138
              have c138b1 : (t108 != 1) = false := bne_eq_false_iff_eq.mpr c138
              clear c138
              by_cases c139 : (t132 == t133) = true
              ·rw [if_pos c139] at H
               have c139b0 : (t132 == t133) = true := c139
               (try (have c139b1 : decide (t132 = t133) = true := by simpa using c139))
               (try (have c139b2 : (t132 == t133) = true := by simpa using c139))
               clear c139
               by_cases c140 : t132 = true
               ·subst c140
                have H1 : (some true) = some r := by rw [if_pos rfl] at H; exact H
                clear H
                have H := H1
                clear H1
                obtain rfl := Option.some.inj H
                try go_wp2
                have n0_ := Aside0.mk (blk_drew BK105.out)
                have n1_ := Aside0.mk (blk_drew BK106.out)
                have n2_ := Aside0.mk (blk_drew BK107.out)
                have n3_ := Aside0.mk (blk_drew BK115.out)
                have n4_ := Aside0.mk (blk_drew BK128.out)
                have n5_ := Aside0.mk (below_drew1 HB.out)
                clear BK105; clear BK106; clear BK107; clear BK115; clear BK128; clear HB
                have BK105 := n0_
                have BK106 := n1_
                have BK107 := n2_
                have BK115 := n3_
                have BK128 := n4_
                have HB := n5_
                clear n0_ n1_ n2_ n3_ n4_ n5_
                refine start_ (n := 30) (S := fun w' => w'.cell? ⟨gb115, 0, none⟩ = some (.int .i64 t108) ∧ w'.cell? ⟨gb115, 1, none⟩ = some (.string t109) ∧ w'.cell? ⟨gb115, 2, none⟩ = some (.bool t110) ∧ w'.cell? ⟨gb115, 3, none⟩ = some (.string t111) ∧ w'.cell? ⟨gb115, 4, none⟩ = some (.int .i64 t112) ∧ w'.cell? ⟨gb115, 5, none⟩ = some (.string t113) ∧ w'.cell? ⟨gb115, 6, none⟩ = some (.string t114)) (ds := []) #[false, false, false, false, false, false, false, false, false, false, false, false, false, false, false, false, false, false, false, false, false, false, false, false, false, false, false, false, false, false] (by kernel_rfl) rfl rfl ⟨(blk_cell BK115.out 0).trans rfl, (blk_cell BK115.out 1).trans rfl, (blk_cell BK115.out 2).trans rfl, (blk_cell BK115.out 3).trans rfl, (blk_cell BK115.out 4).trans rfl, (blk_cell BK115.out 5).trans rfl, (blk_cell BK115.out 6).trans rfl⟩ (fun hHeld => ?_); refine with_tabW pursuivantlaw11_SourceRound.tab12 pursuivantlaw11_SourceRound.bits12 (fun HT_ HW_ => ?_)
                generalize wc.drew = w141 at BK105 BK106 BK107 BK115 BK128 HB hHeld ⊢
                refine one_ (i := 0) (N := some 78) #[true, false, false, false, false, false, false, false, false, false, false, false, false, false, false, false, false, false, false, false, false, false, false, false, false, false, false, false, false, false] rfl rfl (one_of HT_.out (by kernel_rfl)) (by decide) (fun K hK => ?_)
                refine goes_ Tryz.func12 (by kernel_rfl) rfl #[] (by rfl) rfl rfl z46_ ?_
                with_reducible refine (pursuivantlaw11_awake.calls kj77  true _ ?gw19_ A128.out z75_).mono ?_
                case gw19_ => exact z3_
                rintro e w142 ⟨rfl, hb⟩
                refine ⟨_, rfl, ?_⟩
                have n0_ := Aside0.mk (blk_below (g := gb105) (o := .cells #[.int .i64 a0_0, .string a0_1, .bool a0_2, .string a0_3, .int .i64 a0_4, .string a0_5, .string a0_6] 23 (0, 0)) z63_ hb)
                have n1_ := Aside0.mk (blk_below (g := gb106) (o := .cells #[.string a1_0, .string a1_1, .string a1_2, .int .i64 a1_3, .string a1_4, .bool a1_5, .string a1_6, .bool a1_7, .string a1_8] 30 (0, 0)) z59_ hb)
                have n2_ := Aside0.mk (blk_below (g := gb107) (o := .cells #[.string a2_0, .string a2_1, .int .i64 a2_2] 32 (0, 0)) z49_ hb)
                have n3_ := Aside0.mk (blk_below (g := gb115) (o := .cells #[.int .i64 t108, .string t109, .bool t110, .string t111, .int .i64 t112, .string t113, .string t114] 23 (0, 0)) z64_ hb)
                have n4_ := Aside0.mk (blk_below (g := gb128) (o := .cells #[.int .i64 t120, .string t121, .bool t122, .string t123, .int .i64 t124, .string t125, .string t126] 23 (0, 0)) z65_ hb)
                have n5_ := Aside0.mk (below_step z18_ hb)
                clear BK105; clear BK106; clear BK107; clear BK115; clear BK128; clear HB
                have BK105 := n0_
                have BK106 := n1_
                have BK107 := n2_
                have BK115 := n3_
                have BK128 := n4_
                have HB := n5_
                clear n0_ n1_ n2_ n3_ n4_ n5_
                (try clear hb)
                (try clear hb2)
                (try clear hk)
                (try clear hi)
                refine hK.out _ _ ⟨(blk_cell BK115.out 0).trans rfl, (blk_cell BK115.out 1).trans rfl, (blk_cell BK115.out 2).trans rfl, (blk_cell BK115.out 3).trans rfl, (blk_cell BK115.out 4).trans rfl, (blk_cell BK115.out 5).trans rfl, (blk_cell BK115.out 6).trans rfl⟩ (fun hHeld => ?_)
                clear hK K
                refine norm_ (a' := ?_) ?_ ?_
                rotate_left
                ·show Act.put _ (some 78) _ = _
                 simp only [Act.put, List.setIfInBounds_toArray, List.set_cons_zero, List.set_cons_succ, i64_w, i32_w]
                 rfl
                refine pure_ (i := 1) (N := some 79) (v := ?_) (a' := ?_) #[true, true, false, false, false, false, false, false, false, false, false, false, false, false, false, false, false, false, false, false, false, false, false, false, false, false, false, false, false, false] rfl rfl (any_of HT_.out (by kernel_rfl)) (fun _ _ _ h => h) (Or.inl ⟨by rfl, ?_⟩) ?_ ?_
                rotate_left
                ·intro w'
                 go_simp
                 with_reducible rfl
                rotate_left
                ·simp only [Act.put, List.setIfInBounds_toArray, List.set_cons_zero, List.set_cons_succ, i64_w, i32_w]
                 rfl
                refine pure_ (i := 2) (N := some 80) (v := ?_) (a' := ?_) #[true, true, true, false, false, false, false, false, false, false, false, false, false, false, false, false, false, false, false, false, false, false, false, false, false, false, false, false, false, false] rfl rfl (any_of HT_.out (by kernel_rfl)) (fun _ _ _ h => h) (Or.inl ⟨by rfl, ?_⟩) ?_ ?_
                rotate_left
                ·intro w'
                 go_simp
                 with_reducible rfl
                rotate_left
                ·simp only [Act.put, List.setIfInBounds_toArray, List.set_cons_zero, List.set_cons_succ, i64_w, i32_w]
                 rfl
                refine take_ (i := 3) (N := some 81) (v := ?_) (a' := ?_) #[true, true, true, true, false, false, false, false, false, false, false, false, false, false, false, false, false, false, false, false, false, false, false, false, false, false, false, false, false, false] rfl rfl (take_ofW HT_.out HW_.out (by kernel_rfl)) (fun _ _ _ h => h) (Or.inl ⟨by rfl, ?_⟩) hHeld ?_ ?_
                rotate_left
                ·rintro w' ⟨s0, s1, s2, s3, s4, s5, s6⟩
                 go_simp
                 with_reducible rfl
                rotate_left
                ·simp only [Act.put, List.setIfInBounds_toArray, List.set_cons_zero, List.set_cons_succ, i64_w, i32_w]
                 rfl
                refine pure_ (i := 4) (N := some 82) (v := ?_) (a' := ?_) #[true, true, true, true, true, false, false, false, false, false, false, false, false, false, false, false, false, false, false, false, false, false, false, false, false, false, false, false, false, false] rfl rfl (any_of HT_.out (by kernel_rfl)) (fun _ _ _ h => h) (Or.inl ⟨by rfl, ?_⟩) ?_ ?_
                rotate_left
                ·intro w'
                 go_simp
                 with_reducible rfl
                rotate_left
                ·simp only [Act.put, List.setIfInBounds_toArray, List.set_cons_zero, List.set_cons_succ, i64_w, i32_w]
                 rfl
                refine pure_ (i := 5) (N := some 83) (v := ?_) (a' := ?_) #[true, true, true, true, true, true, false, false, false, false, false, false, false, false, false, false, false, false, false, false, false, false, false, false, false, false, false, false, false, false] rfl rfl (any_of HT_.out (by kernel_rfl)) (fun _ _ _ h => h) (Or.inl ⟨by rfl, ?_⟩) ?_ ?_
                rotate_left
                ·intro w'
                 go_simp
                 with_reducible rfl
                rotate_left
                ·simp only [Act.put, List.setIfInBounds_toArray, List.set_cons_zero, List.set_cons_succ, i64_w, i32_w]
                 rfl
                refine pure_ (i := 6) (N := some 84) (v := undef) (a' := ?_) #[true, true, true, true, true, true, true, false, false, false, false, false, false, false, false, false, false, false, false, false, false, false, false, false, false, false, false, false, false, false] rfl rfl (any_of HT_.out (by kernel_rfl)) (fun _ _ _ h => h) (Or.inr ⟨by rfl, rfl⟩) ?_ ?_
                rotate_left
                ·simp only [Act.put, List.setIfInBounds_toArray, List.set_cons_zero, List.set_cons_succ, i64_w, i32_w]
                 rfl
                refine pure_ (i := 7) (N := some 85) (v := ?_) (a' := ?_) #[true, true, true, true, true, true, true, true, false, false, false, false, false, false, false, false, false, false, false, false, false, false, false, false, false, false, false, false, false, false] rfl rfl (any_of HT_.out (by kernel_rfl)) (fun _ _ _ h => h) (Or.inl ⟨by rfl, ?_⟩) ?_ ?_
                rotate_left
                ·intro w'
                 go_simp
                 with_reducible rfl
                rotate_left
                ·simp only [Act.put, List.setIfInBounds_toArray, List.set_cons_zero, List.set_cons_succ, i64_w, i32_w]
                 rfl
                refine pure_ (i := 8) (N := some 86) (v := ?_) (a' := ?_) #[true, true, true, true, true, true, true, true, true, false, false, false, false, false, false, false, false, false, false, false, false, false, false, false, false, false, false, false, false, false] rfl rfl (any_of HT_.out (by kernel_rfl)) (fun _ _ _ h => h) (Or.inl ⟨by rfl, ?_⟩) ?_ ?_
                rotate_left
                ·intro w'
                 go_simp
                 with_reducible rfl
                rotate_left
                ·simp only [Act.put, List.setIfInBounds_toArray, List.set_cons_zero, List.set_cons_succ, i64_w, i32_w]
                 rfl
                refine pure_ (i := 9) (N := some 87) (v := ?_) (a' := ?_) #[true, true, true, true, true, true, true, true, true, true, false, false, false, false, false, false, false, false, false, false, false, false, false, false, false, false, false, false, false, false] rfl rfl (any_of HT_.out (by kernel_rfl)) (fun _ _ _ h => h) (Or.inl ⟨by rfl, ?_⟩) ?_ ?_
                rotate_left
                ·intro w'
                 go_simp
                 with_reducible rfl
                rotate_left
                ·simp only [Act.put, List.setIfInBounds_toArray, List.set_cons_zero, List.set_cons_succ, i64_w, i32_w]
                 rfl
                refine pure_ (i := 10) (N := some 88) (v := ?_) (a' := ?_) #[true, true, true, true, true, true, true, true, true, true, true, false, false, false, false, false, false, false, false, false, false, false, false, false, false, false, false, false, false, false] rfl rfl (any_of HT_.out (by kernel_rfl)) (fun _ _ _ h => h) (Or.inl ⟨by rfl, ?_⟩) ?_ ?_
                rotate_left
                ·intro w'
                 go_simp
                 with_reducible rfl
                rotate_left
                ·simp only [Act.put, List.setIfInBounds_toArray, List.set_cons_zero, List.set_cons_succ, i64_w, i32_w]
                 rfl
                refine take_ (i := 11) (N := some 89) (v := ?_) (a' := ?_) #[true, true, true, true, true, true, true, true, true, true, true, true, false, false, false, false, false, false, false, false, false, false, false, false, false, false, false, false, false, false] rfl rfl (take_ofW HT_.out HW_.out (by kernel_rfl)) (fun _ _ _ h => h) (Or.inl ⟨by rfl, ?_⟩) hHeld ?_ ?_
                rotate_left
                ·rintro w' ⟨s0, s1, s2, s3, s4, s5, s6⟩
                 go_simp
                 with_reducible rfl
                rotate_left
                ·simp only [Act.put, List.setIfInBounds_toArray, List.set_cons_zero, List.set_cons_succ, i64_w, i32_w]
                 rfl
                refine pure_ (i := 12) (N := some 90) (v := ?_) (a' := ?_) #[true, true, true, true, true, true, true, true, true, true, true, true, true, false, false, false, false, false, false, false, false, false, false, false, false, false, false, false, false, false] rfl rfl (any_of HT_.out (by kernel_rfl)) (fun _ _ _ h => h) (Or.inl ⟨by rfl, ?_⟩) ?_ ?_
                rotate_left
                ·intro w'
                 go_simp
                 with_reducible rfl
                rotate_left
                ·simp only [Act.put, List.setIfInBounds_toArray, List.set_cons_zero, List.set_cons_succ, i64_w, i32_w]
                 rfl
                refine pure_ (i := 13) (N := some 91) (v := ?_) (a' := ?_) #[true, true, true, true, true, true, true, true, true, true, true, true, true, true, false, false, false, false, false, false, false, false, false, false, false, false, false, false, false, false] rfl rfl (any_of HT_.out (by kernel_rfl)) (fun _ _ _ h => h) (Or.inl ⟨by rfl, ?_⟩) ?_ ?_
                rotate_left
                ·intro w'
                 go_simp
                 with_reducible rfl
                rotate_left
                ·simp only [Act.put, List.setIfInBounds_toArray, List.set_cons_zero, List.set_cons_succ, i64_w, i32_w]
                 rfl
                refine pure_ (i := 14) (N := some 92) (v := ?_) (a' := ?_) #[true, true, true, true, true, true, true, true, true, true, true, true, true, true, true, false, false, false, false, false, false, false, false, false, false, false, false, false, false, false] rfl rfl (any_of HT_.out (by kernel_rfl)) (fun _ _ _ h => h) (Or.inl ⟨by rfl, ?_⟩) ?_ ?_
                rotate_left
                ·intro w'
                 go_simp
                 with_reducible rfl
                rotate_left
                ·simp only [Act.put, List.setIfInBounds_toArray, List.set_cons_zero, List.set_cons_succ, i64_w, i32_w]
                 rfl
                refine pure_ (i := 15) (N := some 93) (v := ?_) (a' := ?_) #[true, true, true, true, true, true, true, true, true, true, true, true, true, true, true, true, false, false, false, false, false, false, false, false, false, false, false, false, false, false] rfl rfl (any_of HT_.out (by kernel_rfl)) (fun _ _ _ h => h) (Or.inl ⟨by rfl, ?_⟩) ?_ ?_
                rotate_left
                ·intro w'
                 go_simp
                 with_reducible rfl
                rotate_left
                ·simp only [Act.put, List.setIfInBounds_toArray, List.set_cons_zero, List.set_cons_succ, i64_w, i32_w]
                 rfl
                refine pure_ (i := 16) (N := some 94) (v := ?_) (a' := ?_) #[true, true, true, true, true, true, true, true, true, true, true, true, true, true, true, true, true, false, false, false, false, false, false, false, false, false, false, false, false, false] rfl rfl (any_of HT_.out (by kernel_rfl)) (fun _ _ _ h => h) (Or.inl ⟨by rfl, ?_⟩) ?_ ?_
                rotate_left
                ·intro w'
                 go_simp
                 with_reducible rfl
                rotate_left
                ·simp only [Act.put, List.setIfInBounds_toArray, List.set_cons_zero, List.set_cons_succ, i64_w, i32_w]
                 rfl
                refine pure_ (i := 17) (N := some 95) (v := ?_) (a' := ?_) #[true, true, true, true, true, true, true, true, true, true, true, true, true, true, true, true, true, true, false, false, false, false, false, false, false, false, false, false, false, false] rfl rfl (any_of HT_.out (by kernel_rfl)) (fun _ _ _ h => h) (Or.inl ⟨by rfl, ?_⟩) ?_ ?_
                rotate_left
                ·intro w'
                 go_simp
                 with_reducible rfl
                rotate_left
                ·simp only [Act.put, List.setIfInBounds_toArray, List.set_cons_zero, List.set_cons_succ, i64_w, i32_w]
                 rfl
                refine pure_ (i := 18) (N := some 96) (v := ?_) (a' := ?_) #[true, true, true, true, true, true, true, true, true, true, true, true, true, true, true, true, true, true, true, false, false, false, false, false, false, false, false, false, false, false] rfl rfl (any_of HT_.out (by kernel_rfl)) (fun _ _ _ h => h) (Or.inl ⟨by rfl, ?_⟩) ?_ ?_
                rotate_left
                ·intro w'
                 go_simp
                 with_reducible rfl
                rotate_left
                ·simp only [Act.put, List.setIfInBounds_toArray, List.set_cons_zero, List.set_cons_succ, i64_w, i32_w]
                 rfl
                refine pure_ (i := 19) (N := some 97) (v := ?_) (a' := ?_) #[true, true, true, true, true, true, true, true, true, true, true, true, true, true, true, true, true, true, true, true, false, false, false, false, false, false, false, false, false, false] rfl rfl (any_of HT_.out (by kernel_rfl)) (fun _ _ _ h => h) (Or.inl ⟨by rfl, ?_⟩) ?_ ?_
                rotate_left
                ·intro w'
                 go_simp
                 with_reducible rfl
                rotate_left
                ·simp only [Act.put, List.setIfInBounds_toArray, List.set_cons_zero, List.set_cons_succ, i64_w, i32_w]
                 rfl
                refine pure_ (i := 20) (N := some 98) (v := undef) (a' := ?_) #[true, true, true, true, true, true, true, true, true, true, true, true, true, true, true, true, true, true, true, true, true, false, false, false, false, false, false, false, false, false] rfl rfl (any_of HT_.out (by kernel_rfl)) (fun _ _ _ h => h) (Or.inr ⟨by rfl, rfl⟩) ?_ ?_
                rotate_left
                ·simp only [Act.put, List.setIfInBounds_toArray, List.set_cons_zero, List.set_cons_succ, i64_w, i32_w]
                 rfl
                refine pure_ (i := 21) (N := some 99) (v := undef) (a' := ?_) #[true, true, true, true, true, true, true, true, true, true, true, true, true, true, true, true, true, true, true, true, true, true, false, false, false, false, false, false, false, false] rfl rfl (any_of HT_.out (by kernel_rfl)) (fun _ _ _ h => h) (Or.inr ⟨by rfl, rfl⟩) ?_ ?_
                rotate_left
                ·simp only [Act.put, List.setIfInBounds_toArray, List.set_cons_zero, List.set_cons_succ, i64_w, i32_w]
                 rfl
                refine pure_ (i := 22) (N := some 100) (v := undef) (a' := ?_) #[true, true, true, true, true, true, true, true, true, true, true, true, true, true, true, true, true, true, true, true, true, true, true, false, false, false, false, false, false, false] rfl rfl (any_of HT_.out (by kernel_rfl)) (fun _ _ _ h => h) (Or.inr ⟨by rfl, rfl⟩) ?_ ?_
                rotate_left
                ·simp only [Act.put, List.setIfInBounds_toArray, List.set_cons_zero, List.set_cons_succ, i64_w, i32_w]
                 rfl
                refine pure_ (i := 23) (N := some 101) (v := undef) (a' := ?_) #[true, true, true, true, true, true, true, true, true, true, true, true, true, true, true, true, true, true, true, true, true, true, true, true, false, false, false, false, false, false] rfl rfl (any_of HT_.out (by kernel_rfl)) (fun _ _ _ h => h) (Or.inr ⟨by rfl, rfl⟩) ?_ ?_
                rotate_left
                ·simp only [Act.put, List.setIfInBounds_toArray, List.set_cons_zero, List.set_cons_succ, i64_w, i32_w]
                 rfl
                refine pure_ (i := 24) (N := some 102) (v := undef) (a' := ?_) #[true, true, true, true, true, true, true, true, true, true, true, true, true, true, true, true, true, true, true, true, true, true, true, true, true, false, false, false, false, false] rfl rfl (any_of HT_.out (by kernel_rfl)) (fun _ _ _ h => h) (Or.inr ⟨by rfl, rfl⟩) ?_ ?_
                rotate_left
                ·simp only [Act.put, List.setIfInBounds_toArray, List.set_cons_zero, List.set_cons_succ, i64_w, i32_w]
                 rfl
                refine pure_ (i := 25) (N := some 103) (v := ?_) (a' := ?_) #[true, true, true, true, true, true, true, true, true, true, true, true, true, true, true, true, true, true, true, true, true, true, true, true, true, true, false, false, false, false] rfl rfl (any_of HT_.out (by kernel_rfl)) (fun _ _ _ h => h) (Or.inl ⟨by rfl, ?_⟩) ?_ ?_
                rotate_left
                ·intro w'
                 go_simp
                 with_reducible rfl
                rotate_left
                ·simp only [Act.put, List.setIfInBounds_toArray, List.set_cons_zero, List.set_cons_succ, i64_w, i32_w]
                 rfl
                refine pure_ (i := 26) (N := some 104) (v := ?_) (a' := ?_) #[true, true, true, true, true, true, true, true, true, true, true, true, true, true, true, true, true, true, true, true, true, true, true, true, true, true, true, false, false, false] rfl rfl (any_of HT_.out (by kernel_rfl)) (fun _ _ _ h => h) (Or.inl ⟨by rfl, ?_⟩) ?_ ?_
                rotate_left
                ·intro w'
                 go_simp
                 with_reducible rfl
                rotate_left
                ·simp only [Act.put, List.setIfInBounds_toArray, List.set_cons_zero, List.set_cons_succ, i64_w, i32_w]
                 rfl
                refine pure_ (i := 27) (N := some 105) (v := ?_) (a' := ?_) #[true, true, true, true, true, true, true, true, true, true, true, true, true, true, true, true, true, true, true, true, true, true, true, true, true, true, true, true, false, false] rfl rfl (any_of HT_.out (by kernel_rfl)) (fun _ _ _ h => h) (Or.inl ⟨by rfl, ?_⟩) ?_ ?_
                rotate_left
                ·intro w'
                 go_simp
                 with_reducible rfl
                rotate_left
                ·simp only [Act.put, List.setIfInBounds_toArray, List.set_cons_zero, List.set_cons_succ, i64_w, i32_w]
                 rfl
                refine pure_ (i := 28) (N := some 106) (v := ?_) (a' := ?_) #[true, true, true, true, true, true, true, true, true, true, true, true, true, true, true, true, true, true, true, true, true, true, true, true, true, true, true, true, true, false] rfl rfl (any_of HT_.out (by kernel_rfl)) (fun _ _ _ h => h) (Or.inl ⟨by rfl, ?_⟩) ?_ ?_
                rotate_left
                ·intro w'
                 go_simp
                 with_reducible rfl
                rotate_left
                ·simp only [Act.put, List.setIfInBounds_toArray, List.set_cons_zero, List.set_cons_succ, i64_w, i32_w]
                 rfl
                refine pure_ (i := 29) (N := some 6) (v := ?_) (a' := ?_) #[true, true, true, true, true, true, true, true, true, true, true, true, true, true, true, true, true, true, true, true, true, true, true, true, true, true, true, true, true, true] rfl rfl (any_of HT_.out (by kernel_rfl)) (fun _ _ _ h => h) (Or.inl ⟨by rfl, ?_⟩) ?_ ?_
                rotate_left
                ·intro w'
                 go_simp
                 with_reducible rfl
                rotate_left
                ·simp only [Act.put, List.setIfInBounds_toArray, List.set_cons_zero, List.set_cons_succ, i64_w, i32_w]
                 rfl
                refine done_ (done_of HT_.out (by kernel_rfl)) ?_
                try go_wp2
                go_ret
                exact ⟨z48_, z18_⟩
               ·replace c140 := Bool.eq_false_iff.mpr c140
                subst c140
                have H1 : ((pursuivantref08_Of.f kj77 a1_0 a1_1 a1_2 a1_3 a1_4 a1_5 a1_6 a1_7 a1_8).bind fun bt135 => ((pursuivantref08_Same.f kj77 bt135.1 bt135.2.1 bt135.2.2 a2_0 a2_1 a2_2).bind fun t138 => (some (!t138)))) = some r := by rw [if_neg (show ¬ (false = true) by decide)] at H; exact H
                clear H
                have H := H1
                clear H1
                replace H := Option.bind_eq_some_iff.mp H
                obtain ⟨⟨t135, t136, t137⟩, A1430, H⟩ := H
                replace H : ((pursuivantref08_Same.f kj77 t135 t136 t137 a2_0 a2_1 a2_2).bind fun t138 => (some (!t138))) = some r := H
                have A143 := Aside0.mk A1430; clear A1430
                replace H := Option.bind_eq_some_iff.mp H
                obtain ⟨t138, A1440, H⟩ := H
                replace H : (some (!t138)) = some r := H
                have A144 := Aside0.mk A1440; clear A1440
                obtain rfl := Option.some.inj H
                try go_wp2
                have n0_ := Aside0.mk (blk_drew BK105.out)
                have n1_ := Aside0.mk (blk_drew BK106.out)
                have n2_ := Aside0.mk (blk_drew BK107.out)
                have n3_ := Aside0.mk (blk_drew BK115.out)
                have n4_ := Aside0.mk (blk_drew BK128.out)
                have n5_ := Aside0.mk (below_drew1 HB.out)
                clear BK105; clear BK106; clear BK107; clear BK115; clear BK128; clear HB
                have BK105 := n0_
                have BK106 := n1_
                have BK107 := n2_
                have BK115 := n3_
                have BK128 := n4_
                have HB := n5_
                clear n0_ n1_ n2_ n3_ n4_ n5_
                refine start_ (n := 30) (S := fun w' => w'.cell? ⟨gb115, 0, none⟩ = some (.int .i64 t108) ∧ w'.cell? ⟨gb115, 1, none⟩ = some (.string t109) ∧ w'.cell? ⟨gb115, 2, none⟩ = some (.bool t110) ∧ w'.cell? ⟨gb115, 3, none⟩ = some (.string t111) ∧ w'.cell? ⟨gb115, 4, none⟩ = some (.int .i64 t112) ∧ w'.cell? ⟨gb115, 5, none⟩ = some (.string t113) ∧ w'.cell? ⟨gb115, 6, none⟩ = some (.string t114) ∧ w'.cell? ⟨gb106, 0, none⟩ = some (.string a1_0) ∧ w'.cell? ⟨gb106, 1, none⟩ = some (.string a1_1) ∧ w'.cell? ⟨gb106, 2, none⟩ = some (.string a1_2) ∧ w'.cell? ⟨gb106, 3, none⟩ = some (.int .i64 a1_3) ∧ w'.cell? ⟨gb106, 4, none⟩ = some (.string a1_4) ∧ w'.cell? ⟨gb106, 5, none⟩ = some (.bool a1_5) ∧ w'.cell? ⟨gb106, 6, none⟩ = some (.string a1_6) ∧ w'.cell? ⟨gb106, 7, none⟩ = some (.bool a1_7) ∧ w'.cell? ⟨gb106, 8, none⟩ = some (.string a1_8) ∧ w'.cell? ⟨gb107, 0, none⟩ = some (.string a2_0) ∧ w'.cell? ⟨gb107, 1, none⟩ = some (.string a2_1) ∧ w'.cell? ⟨gb107, 2, none⟩ = some (.int .i64 a2_2)) (ds := []) #[false, false, false, false, false, false, false, false, false, false, false, false, false, false, false, false, false, false, false, false, false, false, false, false, false, false, false, false, false, false] (by kernel_rfl) rfl rfl ⟨(blk_cell BK115.out 0).trans rfl, (blk_cell BK115.out 1).trans rfl, (blk_cell BK115.out 2).trans rfl, (blk_cell BK115.out 3).trans rfl, (blk_cell BK115.out 4).trans rfl, (blk_cell BK115.out 5).trans rfl, (blk_cell BK115.out 6).trans rfl, (blk_cell BK106.out 0).trans rfl, (blk_cell BK106.out 1).trans rfl, (blk_cell BK106.out 2).trans rfl, (blk_cell BK106.out 3).trans rfl, (blk_cell BK106.out 4).trans rfl, (blk_cell BK106.out 5).trans rfl, (blk_cell BK106.out 6).trans rfl, (blk_cell BK106.out 7).trans rfl, (blk_cell BK106.out 8).trans rfl, (blk_cell BK107.out 0).trans rfl, (blk_cell BK107.out 1).trans rfl, (blk_cell BK107.out 2).trans rfl⟩ (fun hHeld => ?_); refine with_tabW pursuivantlaw11_SourceRound.tab12 pursuivantlaw11_SourceRound.bits12 (fun HT_ HW_ => ?_)
                generalize wc.drew = w145 at BK105 BK106 BK107 BK115 BK128 HB hHeld ⊢
                refine one_ (i := 0) (N := some 78) #[true, false, false, false, false, false, false, false, false, false, false, false, false, false, false, false, false, false, false, false, false, false, false, false, false, false, false, false, false, false] rfl rfl (one_of HT_.out (by kernel_rfl)) (by decide) (fun K hK => ?_)
                refine goes_ Tryz.func12 (by kernel_rfl) rfl #[] (by rfl) rfl rfl z46_ ?_
                with_reducible refine (pursuivantlaw11_awake.calls kj77  true _ ?gw20_ A128.out z75_).mono ?_
                case gw20_ => exact z3_
                rintro e w146 ⟨rfl, hb⟩
                refine ⟨_, rfl, ?_⟩
                have n0_ := Aside0.mk (blk_below (g := gb105) (o := .cells #[.int .i64 a0_0, .string a0_1, .bool a0_2, .string a0_3, .int .i64 a0_4, .string a0_5, .string a0_6] 23 (0, 0)) z63_ hb)
                have n1_ := Aside0.mk (blk_below (g := gb106) (o := .cells #[.string a1_0, .string a1_1, .string a1_2, .int .i64 a1_3, .string a1_4, .bool a1_5, .string a1_6, .bool a1_7, .string a1_8] 30 (0, 0)) z59_ hb)
                have n2_ := Aside0.mk (blk_below (g := gb107) (o := .cells #[.string a2_0, .string a2_1, .int .i64 a2_2] 32 (0, 0)) z49_ hb)
                have n3_ := Aside0.mk (blk_below (g := gb115) (o := .cells #[.int .i64 t108, .string t109, .bool t110, .string t111, .int .i64 t112, .string t113, .string t114] 23 (0, 0)) z64_ hb)
                have n4_ := Aside0.mk (blk_below (g := gb128) (o := .cells #[.int .i64 t120, .string t121, .bool t122, .string t123, .int .i64 t124, .string t125, .string t126] 23 (0, 0)) z65_ hb)
                have n5_ := Aside0.mk (below_step z18_ hb)
                clear BK105; clear BK106; clear BK107; clear BK115; clear BK128; clear HB
                have BK105 := n0_
                have BK106 := n1_
                have BK107 := n2_
                have BK115 := n3_
                have BK128 := n4_
                have HB := n5_
                clear n0_ n1_ n2_ n3_ n4_ n5_
                (try clear hb)
                (try clear hb2)
                (try clear hk)
                (try clear hi)
                refine hK.out _ _ ⟨(blk_cell BK115.out 0).trans rfl, (blk_cell BK115.out 1).trans rfl, (blk_cell BK115.out 2).trans rfl, (blk_cell BK115.out 3).trans rfl, (blk_cell BK115.out 4).trans rfl, (blk_cell BK115.out 5).trans rfl, (blk_cell BK115.out 6).trans rfl, (blk_cell BK106.out 0).trans rfl, (blk_cell BK106.out 1).trans rfl, (blk_cell BK106.out 2).trans rfl, (blk_cell BK106.out 3).trans rfl, (blk_cell BK106.out 4).trans rfl, (blk_cell BK106.out 5).trans rfl, (blk_cell BK106.out 6).trans rfl, (blk_cell BK106.out 7).trans rfl, (blk_cell BK106.out 8).trans rfl, (blk_cell BK107.out 0).trans rfl, (blk_cell BK107.out 1).trans rfl, (blk_cell BK107.out 2).trans rfl⟩ (fun hHeld => ?_)
                clear hK K
                refine norm_ (a' := ?_) ?_ ?_
                rotate_left
                ·show Act.put _ (some 78) _ = _
                 simp only [Act.put, List.setIfInBounds_toArray, List.set_cons_zero, List.set_cons_succ, i64_w, i32_w]
                 rfl
                refine pure_ (i := 1) (N := some 79) (v := ?_) (a' := ?_) #[true, true, false, false, false, false, false, false, false, false, false, false, false, false, false, false, false, false, false, false, false, false, false, false, false, false, false, false, false, false] rfl rfl (any_of HT_.out (by kernel_rfl)) (fun _ _ _ h => h) (Or.inl ⟨by rfl, ?_⟩) ?_ ?_
                rotate_left
                ·intro w'
                 go_simp
                 with_reducible rfl
                rotate_left
                ·simp only [Act.put, List.setIfInBounds_toArray, List.set_cons_zero, List.set_cons_succ, i64_w, i32_w]
                 rfl
                refine pure_ (i := 2) (N := some 80) (v := ?_) (a' := ?_) #[true, true, true, false, false, false, false, false, false, false, false, false, false, false, false, false, false, false, false, false, false, false, false, false, false, false, false, false, false, false] rfl rfl (any_of HT_.out (by kernel_rfl)) (fun _ _ _ h => h) (Or.inl ⟨by rfl, ?_⟩) ?_ ?_
                rotate_left
                ·intro w'
                 go_simp
                 with_reducible rfl
                rotate_left
                ·simp only [Act.put, List.setIfInBounds_toArray, List.set_cons_zero, List.set_cons_succ, i64_w, i32_w]
                 rfl
                refine take_ (i := 3) (N := some 81) (v := ?_) (a' := ?_) #[true, true, true, true, false, false, false, false, false, false, false, false, false, false, false, false, false, false, false, false, false, false, false, false, false, false, false, false, false, false] rfl rfl (take_ofW HT_.out HW_.out (by kernel_rfl)) (fun _ _ _ h => h) (Or.inl ⟨by rfl, ?_⟩) hHeld ?_ ?_
                rotate_left
                ·rintro w' ⟨s0, s1, s2, s3, s4, s5, s6, s7, s8, s9, s10, s11, s12, s13, s14, s15, s16, s17, s18⟩
                 go_simp
                 with_reducible rfl
                rotate_left
                ·simp only [Act.put, List.setIfInBounds_toArray, List.set_cons_zero, List.set_cons_succ, i64_w, i32_w]
                 rfl
                refine pure_ (i := 4) (N := some 82) (v := ?_) (a' := ?_) #[true, true, true, true, true, false, false, false, false, false, false, false, false, false, false, false, false, false, false, false, false, false, false, false, false, false, false, false, false, false] rfl rfl (any_of HT_.out (by kernel_rfl)) (fun _ _ _ h => h) (Or.inl ⟨by rfl, ?_⟩) ?_ ?_
                rotate_left
                ·intro w'
                 go_simp
                 with_reducible rfl
                rotate_left
                ·simp only [Act.put, List.setIfInBounds_toArray, List.set_cons_zero, List.set_cons_succ, i64_w, i32_w]
                 rfl
                refine pure_ (i := 5) (N := some 83) (v := ?_) (a' := ?_) #[true, true, true, true, true, true, false, false, false, false, false, false, false, false, false, false, false, false, false, false, false, false, false, false, false, false, false, false, false, false] rfl rfl (any_of HT_.out (by kernel_rfl)) (fun _ _ _ h => h) (Or.inl ⟨by rfl, ?_⟩) ?_ ?_
                rotate_left
                ·intro w'
                 go_simp
                 with_reducible rfl
                rotate_left
                ·simp only [Act.put, List.setIfInBounds_toArray, List.set_cons_zero, List.set_cons_succ, i64_w, i32_w]
                 rfl
                refine pure_ (i := 6) (N := some 84) (v := undef) (a' := ?_) #[true, true, true, true, true, true, true, false, false, false, false, false, false, false, false, false, false, false, false, false, false, false, false, false, false, false, false, false, false, false] rfl rfl (any_of HT_.out (by kernel_rfl)) (fun _ _ _ h => h) (Or.inr ⟨by rfl, rfl⟩) ?_ ?_
                rotate_left
                ·simp only [Act.put, List.setIfInBounds_toArray, List.set_cons_zero, List.set_cons_succ, i64_w, i32_w]
                 rfl
                refine pure_ (i := 7) (N := some 85) (v := ?_) (a' := ?_) #[true, true, true, true, true, true, true, true, false, false, false, false, false, false, false, false, false, false, false, false, false, false, false, false, false, false, false, false, false, false] rfl rfl (any_of HT_.out (by kernel_rfl)) (fun _ _ _ h => h) (Or.inl ⟨by rfl, ?_⟩) ?_ ?_
                rotate_left
                ·intro w'
                 go_simp
                 with_reducible rfl
                rotate_left
                ·simp only [Act.put, List.setIfInBounds_toArray, List.set_cons_zero, List.set_cons_succ, i64_w, i32_w]
                 rfl
                refine pure_ (i := 8) (N := some 86) (v := ?_) (a' := ?_) #[true, true, true, true, true, true, true, true, true, false, false, false, false, false, false, false, false, false, false, false, false, false, false, false, false, false, false, false, false, false] rfl rfl (any_of HT_.out (by kernel_rfl)) (fun _ _ _ h => h) (Or.inl ⟨by rfl, ?_⟩) ?_ ?_
                rotate_left
                ·intro w'
                 go_simp
                 with_reducible rfl
                rotate_left
                ·simp only [Act.put, List.setIfInBounds_toArray, List.set_cons_zero, List.set_cons_succ, i64_w, i32_w]
                 rfl
                refine pure_ (i := 9) (N := some 87) (v := ?_) (a' := ?_) #[true, true, true, true, true, true, true, true, true, true, false, false, false, false, false, false, false, false, false, false, false, false, false, false, false, false, false, false, false, false] rfl rfl (any_of HT_.out (by kernel_rfl)) (fun _ _ _ h => h) (Or.inl ⟨by rfl, ?_⟩) ?_ ?_
                rotate_left
                ·intro w'
                 go_simp
                 with_reducible rfl
                rotate_left
                ·simp only [Act.put, List.setIfInBounds_toArray, List.set_cons_zero, List.set_cons_succ, i64_w, i32_w]
                 rfl
                refine pure_ (i := 10) (N := some 88) (v := ?_) (a' := ?_) #[true, true, true, true, true, true, true, true, true, true, true, false, false, false, false, false, false, false, false, false, false, false, false, false, false, false, false, false, false, false] rfl rfl (any_of HT_.out (by kernel_rfl)) (fun _ _ _ h => h) (Or.inl ⟨by rfl, ?_⟩) ?_ ?_
                rotate_left
                ·intro w'
                 go_simp
                 with_reducible rfl
                rotate_left
                ·simp only [Act.put, List.setIfInBounds_toArray, List.set_cons_zero, List.set_cons_succ, i64_w, i32_w]
                 rfl
                refine take_ (i := 11) (N := some 89) (v := ?_) (a' := ?_) #[true, true, true, true, true, true, true, true, true, true, true, true, false, false, false, false, false, false, false, false, false, false, false, false, false, false, false, false, false, false] rfl rfl (take_ofW HT_.out HW_.out (by kernel_rfl)) (fun _ _ _ h => h) (Or.inl ⟨by rfl, ?_⟩) hHeld ?_ ?_
                rotate_left
                ·rintro w' ⟨s0, s1, s2, s3, s4, s5, s6, s7, s8, s9, s10, s11, s12, s13, s14, s15, s16, s17, s18⟩
                 go_simp
                 with_reducible rfl
                rotate_left
                ·simp only [Act.put, List.setIfInBounds_toArray, List.set_cons_zero, List.set_cons_succ, i64_w, i32_w]
                 rfl
                refine pure_ (i := 12) (N := some 90) (v := ?_) (a' := ?_) #[true, true, true, true, true, true, true, true, true, true, true, true, true, false, false, false, false, false, false, false, false, false, false, false, false, false, false, false, false, false] rfl rfl (any_of HT_.out (by kernel_rfl)) (fun _ _ _ h => h) (Or.inl ⟨by rfl, ?_⟩) ?_ ?_
                rotate_left
                ·intro w'
                 go_simp
                 with_reducible rfl
                rotate_left
                ·simp only [Act.put, List.setIfInBounds_toArray, List.set_cons_zero, List.set_cons_succ, i64_w, i32_w]
                 rfl
                refine pure_ (i := 13) (N := some 91) (v := ?_) (a' := ?_) #[true, true, true, true, true, true, true, true, true, true, true, true, true, true, false, false, false, false, false, false, false, false, false, false, false, false, false, false, false, false] rfl rfl (any_of HT_.out (by kernel_rfl)) (fun _ _ _ h => h) (Or.inl ⟨by rfl, ?_⟩) ?_ ?_
                rotate_left
                ·intro w'
                 go_simp
                 with_reducible rfl
                rotate_left
                ·simp only [Act.put, List.setIfInBounds_toArray, List.set_cons_zero, List.set_cons_succ, i64_w, i32_w]
                 rfl
                refine pure_ (i := 14) (N := some 92) (v := ?_) (a' := ?_) #[true, true, true, true, true, true, true, true, true, true, true, true, true, true, true, false, false, false, false, false, false, false, false, false, false, false, false, false, false, false] rfl rfl (any_of HT_.out (by kernel_rfl)) (fun _ _ _ h => h) (Or.inl ⟨by rfl, ?_⟩) ?_ ?_
                rotate_left
                ·intro w'
                 go_simp
                 with_reducible rfl
                rotate_left
                ·simp only [Act.put, List.setIfInBounds_toArray, List.set_cons_zero, List.set_cons_succ, i64_w, i32_w]
                 rfl
                refine pure_ (i := 15) (N := some 93) (v := ?_) (a' := ?_) #[true, true, true, true, true, true, true, true, true, true, true, true, true, true, true, true, false, false, false, false, false, false, false, false, false, false, false, false, false, false] rfl rfl (any_of HT_.out (by kernel_rfl)) (fun _ _ _ h => h) (Or.inl ⟨by rfl, ?_⟩) ?_ ?_
                rotate_left
                ·intro w'
                 go_simp
                 with_reducible rfl
                rotate_left
                ·simp only [Act.put, List.setIfInBounds_toArray, List.set_cons_zero, List.set_cons_succ, i64_w, i32_w]
                 rfl
                refine pure_ (i := 16) (N := some 94) (v := ?_) (a' := ?_) #[true, true, true, true, true, true, true, true, true, true, true, true, true, true, true, true, true, false, false, false, false, false, false, false, false, false, false, false, false, false] rfl rfl (any_of HT_.out (by kernel_rfl)) (fun _ _ _ h => h) (Or.inl ⟨by rfl, ?_⟩) ?_ ?_
                rotate_left
                ·intro w'
                 go_simp
                 with_reducible rfl
                rotate_left
                ·simp only [Act.put, List.setIfInBounds_toArray, List.set_cons_zero, List.set_cons_succ, i64_w, i32_w]
                 rfl
                refine pure_ (i := 17) (N := some 95) (v := ?_) (a' := ?_) #[true, true, true, true, true, true, true, true, true, true, true, true, true, true, true, true, true, true, false, false, false, false, false, false, false, false, false, false, false, false] rfl rfl (any_of HT_.out (by kernel_rfl)) (fun _ _ _ h => h) (Or.inl ⟨by rfl, ?_⟩) ?_ ?_
                rotate_left
                ·intro w'
                 go_simp
                 with_reducible rfl
                rotate_left
                ·simp only [Act.put, List.setIfInBounds_toArray, List.set_cons_zero, List.set_cons_succ, i64_w, i32_w]
                 rfl
                refine pure_ (i := 18) (N := some 96) (v := ?_) (a' := ?_) #[true, true, true, true, true, true, true, true, true, true, true, true, true, true, true, true, true, true, true, false, false, false, false, false, false, false, false, false, false, false] rfl rfl (any_of HT_.out (by kernel_rfl)) (fun _ _ _ h => h) (Or.inl ⟨by rfl, ?_⟩) ?_ ?_
                rotate_left
                ·intro w'
                 go_simp
                 with_reducible rfl
                rotate_left
                ·simp only [Act.put, List.setIfInBounds_toArray, List.set_cons_zero, List.set_cons_succ, i64_w, i32_w]
                 rfl
                refine pure_ (i := 19) (N := some 97) (v := ?_) (a' := ?_) #[true, true, true, true, true, true, true, true, true, true, true, true, true, true, true, true, true, true, true, true, false, false, false, false, false, false, false, false, false, false] rfl rfl (any_of HT_.out (by kernel_rfl)) (fun _ _ _ h => h) (Or.inl ⟨by rfl, ?_⟩) ?_ ?_
                rotate_left
                ·intro w'
                 go_simp
                 with_reducible rfl
                rotate_left
                ·simp only [Act.put, List.setIfInBounds_toArray, List.set_cons_zero, List.set_cons_succ, i64_w, i32_w]
                 rfl
                refine take_ (i := 20) (N := some 98) (v := ?_) (a' := ?_) #[true, true, true, true, true, true, true, true, true, true, true, true, true, true, true, true, true, true, true, true, true, false, false, false, false, false, false, false, false, false] rfl rfl (take_ofW HT_.out HW_.out (by kernel_rfl)) (fun _ _ _ h => h) (Or.inl ⟨by rfl, ?_⟩) hHeld ?_ ?_
                rotate_left
                ·rintro w' ⟨s0, s1, s2, s3, s4, s5, s6, s7, s8, s9, s10, s11, s12, s13, s14, s15, s16, s17, s18⟩
                 go_simp
                 with_reducible rfl
                rotate_left
                ·simp only [Act.put, List.setIfInBounds_toArray, List.set_cons_zero, List.set_cons_succ, i64_w, i32_w]
                 rfl
                refine take_ (i := 22) (N := some 100) (v := ?_) (a' := ?_) #[true, true, true, true, true, true, true, true, true, true, true, true, true, true, true, true, true, true, true, true, true, false, true, false, false, false, false, false, false, false] rfl rfl (take_ofW HT_.out HW_.out (by kernel_rfl)) (fun _ _ _ h => h) (Or.inl ⟨by rfl, ?_⟩) hHeld ?_ ?_
                rotate_left
                ·rintro w' ⟨s0, s1, s2, s3, s4, s5, s6, s7, s8, s9, s10, s11, s12, s13, s14, s15, s16, s17, s18⟩
                 go_simp
                 with_reducible rfl
                rotate_left
                ·simp only [Act.put, List.setIfInBounds_toArray, List.set_cons_zero, List.set_cons_succ, i64_w, i32_w]
                 rfl
                refine one_ (i := 21) (N := some 99) #[true, true, true, true, true, true, true, true, true, true, true, true, true, true, true, true, true, true, true, true, true, true, true, false, false, false, false, false, false, false] rfl rfl (one_of HT_.out (by kernel_rfl)) (by decide) (fun K hK => ?_)
                refine goes_ Tryz.func22 (by kernel_rfl) rfl #[.agg #[.string a1_0, .string a1_1, .string a1_2, .int .i64 a1_3, .string a1_4, .bool a1_5, .string a1_6, .bool a1_7, .string a1_8]] (by rfl) rfl rfl z46_ ?_
                with_reducible refine (pursuivantref08_Of.calls kj77 a1_0 a1_1 a1_2 a1_3 a1_4 a1_5 a1_6 a1_7 a1_8 t135 t136 t137 _ ?gw21_ A143.out).mono ?_
                case gw21_ => exact z3_
                rintro e w147 ⟨rfl, hb⟩
                refine ⟨_, rfl, ?_⟩
                have n0_ := Aside0.mk (blk_below (g := gb105) (o := .cells #[.int .i64 a0_0, .string a0_1, .bool a0_2, .string a0_3, .int .i64 a0_4, .string a0_5, .string a0_6] 23 (0, 0)) z63_ hb)
                have n1_ := Aside0.mk (blk_below (g := gb106) (o := .cells #[.string a1_0, .string a1_1, .string a1_2, .int .i64 a1_3, .string a1_4, .bool a1_5, .string a1_6, .bool a1_7, .string a1_8] 30 (0, 0)) z59_ hb)
                have n2_ := Aside0.mk (blk_below (g := gb107) (o := .cells #[.string a2_0, .string a2_1, .int .i64 a2_2] 32 (0, 0)) z49_ hb)
                have n3_ := Aside0.mk (blk_below (g := gb115) (o := .cells #[.int .i64 t108, .string t109, .bool t110, .string t111, .int .i64 t112, .string t113, .string t114] 23 (0, 0)) z64_ hb)
                have n4_ := Aside0.mk (blk_below (g := gb128) (o := .cells #[.int .i64 t120, .string t121, .bool t122, .string t123, .int .i64 t124, .string t125, .string t126] 23 (0, 0)) z65_ hb)
                have n5_ := Aside0.mk (below_step z18_ hb)
                clear BK105; clear BK106; clear BK107; clear BK115; clear BK128; clear HB
                have BK105 := n0_
                have BK106 := n1_
                have BK107 := n2_
                have BK115 := n3_
                have BK128 := n4_
                have HB := n5_
                clear n0_ n1_ n2_ n3_ n4_ n5_
                (try clear hb)
                (try clear hb2)
                (try clear hk)
                (try clear hi)
                refine hK.out _ _ ⟨(blk_cell BK115.out 0).trans rfl, (blk_cell BK115.out 1).trans rfl, (blk_cell BK115.out 2).trans rfl, (blk_cell BK115.out 3).trans rfl, (blk_cell BK115.out 4).trans rfl, (blk_cell BK115.out 5).trans rfl, (blk_cell BK115.out 6).trans rfl, (blk_cell BK106.out 0).trans rfl, (blk_cell BK106.out 1).trans rfl, (blk_cell BK106.out 2).trans rfl, (blk_cell BK106.out 3).trans rfl, (blk_cell BK106.out 4).trans rfl, (blk_cell BK106.out 5).trans rfl, (blk_cell BK106.out 6).trans rfl, (blk_cell BK106.out 7).trans rfl, (blk_cell BK106.out 8).trans rfl, (blk_cell BK107.out 0).trans rfl, (blk_cell BK107.out 1).trans rfl, (blk_cell BK107.out 2).trans rfl⟩ (fun hHeld => ?_)
                clear hK K
                refine norm_ (a' := ?_) ?_ ?_
                rotate_left
                ·show Act.put _ (some 99) _ = _
                 simp only [Act.put, List.setIfInBounds_toArray, List.set_cons_zero, List.set_cons_succ, i64_w, i32_w]
                 rfl
                refine one_ (i := 23) (N := some 101) #[true, true, true, true, true, true, true, true, true, true, true, true, true, true, true, true, true, true, true, true, true, true, true, true, false, false, false, false, false, false] rfl rfl (one_of HT_.out (by kernel_rfl)) (by decide) (fun K hK => ?_)
                refine goes_ Tryz.func21 (by kernel_rfl) rfl #[.agg #[.string t135, .string t136, .int .i64 t137], .agg #[.string a2_0, .string a2_1, .int .i64 a2_2]] (by rfl) rfl rfl z46_ ?_
                with_reducible refine (pursuivantref08_Same.calls kj77 t135 t136 t137 a2_0 a2_1 a2_2 t138 _ ?gw22_ A144.out).mono ?_
                case gw22_ => exact z3_
                rintro e w148 ⟨rfl, hb⟩
                refine ⟨_, rfl, ?_⟩
                have n0_ := Aside0.mk (blk_below (g := gb105) (o := .cells #[.int .i64 a0_0, .string a0_1, .bool a0_2, .string a0_3, .int .i64 a0_4, .string a0_5, .string a0_6] 23 (0, 0)) z63_ hb)
                have n1_ := Aside0.mk (blk_below (g := gb106) (o := .cells #[.string a1_0, .string a1_1, .string a1_2, .int .i64 a1_3, .string a1_4, .bool a1_5, .string a1_6, .bool a1_7, .string a1_8] 30 (0, 0)) z59_ hb)
                have n2_ := Aside0.mk (blk_below (g := gb107) (o := .cells #[.string a2_0, .string a2_1, .int .i64 a2_2] 32 (0, 0)) z49_ hb)
                have n3_ := Aside0.mk (blk_below (g := gb115) (o := .cells #[.int .i64 t108, .string t109, .bool t110, .string t111, .int .i64 t112, .string t113, .string t114] 23 (0, 0)) z64_ hb)
                have n4_ := Aside0.mk (blk_below (g := gb128) (o := .cells #[.int .i64 t120, .string t121, .bool t122, .string t123, .int .i64 t124, .string t125, .string t126] 23 (0, 0)) z65_ hb)
                have n5_ := Aside0.mk (below_step z18_ hb)
                clear BK105; clear BK106; clear BK107; clear BK115; clear BK128; clear HB
                have BK105 := n0_
                have BK106 := n1_
                have BK107 := n2_
                have BK115 := n3_
                have BK128 := n4_
                have HB := n5_
                clear n0_ n1_ n2_ n3_ n4_ n5_
                (try clear hb)
                (try clear hb2)
                (try clear hk)
                (try clear hi)
                refine hK.out _ _ ⟨(blk_cell BK115.out 0).trans rfl, (blk_cell BK115.out 1).trans rfl, (blk_cell BK115.out 2).trans rfl, (blk_cell BK115.out 3).trans rfl, (blk_cell BK115.out 4).trans rfl, (blk_cell BK115.out 5).trans rfl, (blk_cell BK115.out 6).trans rfl, (blk_cell BK106.out 0).trans rfl, (blk_cell BK106.out 1).trans rfl, (blk_cell BK106.out 2).trans rfl, (blk_cell BK106.out 3).trans rfl, (blk_cell BK106.out 4).trans rfl, (blk_cell BK106.out 5).trans rfl, (blk_cell BK106.out 6).trans rfl, (blk_cell BK106.out 7).trans rfl, (blk_cell BK106.out 8).trans rfl, (blk_cell BK107.out 0).trans rfl, (blk_cell BK107.out 1).trans rfl, (blk_cell BK107.out 2).trans rfl⟩ (fun hHeld => ?_)
                clear hK K
                refine norm_ (a' := ?_) ?_ ?_
                rotate_left
                ·show Act.put _ (some 101) _ = _
                 simp only [Act.put, List.setIfInBounds_toArray, List.set_cons_zero, List.set_cons_succ, i64_w, i32_w]
                 rfl
                refine pure_ (i := 24) (N := some 102) (v := ?_) (a' := ?_) #[true, true, true, true, true, true, true, true, true, true, true, true, true, true, true, true, true, true, true, true, true, true, true, true, true, false, false, false, false, false] rfl rfl (any_of HT_.out (by kernel_rfl)) (fun _ _ _ h => h) (Or.inl ⟨by rfl, ?_⟩) ?_ ?_
                rotate_left
                ·intro w'
                 go_simp
                 with_reducible rfl
                rotate_left
                ·simp only [Act.put, List.setIfInBounds_toArray, List.set_cons_zero, List.set_cons_succ, i64_w, i32_w]
                 rfl
                refine pure_ (i := 25) (N := some 103) (v := ?_) (a' := ?_) #[true, true, true, true, true, true, true, true, true, true, true, true, true, true, true, true, true, true, true, true, true, true, true, true, true, true, false, false, false, false] rfl rfl (any_of HT_.out (by kernel_rfl)) (fun _ _ _ h => h) (Or.inl ⟨by rfl, ?_⟩) ?_ ?_
                rotate_left
                ·intro w'
                 go_simp
                 with_reducible rfl
                rotate_left
                ·simp only [Act.put, List.setIfInBounds_toArray, List.set_cons_zero, List.set_cons_succ, i64_w, i32_w]
                 rfl
                refine pure_ (i := 26) (N := some 104) (v := ?_) (a' := ?_) #[true, true, true, true, true, true, true, true, true, true, true, true, true, true, true, true, true, true, true, true, true, true, true, true, true, true, true, false, false, false] rfl rfl (any_of HT_.out (by kernel_rfl)) (fun _ _ _ h => h) (Or.inl ⟨by rfl, ?_⟩) ?_ ?_
                rotate_left
                ·intro w'
                 go_simp
                 with_reducible rfl
                rotate_left
                ·simp only [Act.put, List.setIfInBounds_toArray, List.set_cons_zero, List.set_cons_succ, i64_w, i32_w]
                 rfl
                refine pure_ (i := 27) (N := some 105) (v := ?_) (a' := ?_) #[true, true, true, true, true, true, true, true, true, true, true, true, true, true, true, true, true, true, true, true, true, true, true, true, true, true, true, true, false, false] rfl rfl (any_of HT_.out (by kernel_rfl)) (fun _ _ _ h => h) (Or.inl ⟨by rfl, ?_⟩) ?_ ?_
                rotate_left
                ·intro w'
                 go_simp
                 with_reducible rfl
                rotate_left
                ·simp only [Act.put, List.setIfInBounds_toArray, List.set_cons_zero, List.set_cons_succ, i64_w, i32_w]
                 rfl
                refine pure_ (i := 28) (N := some 106) (v := ?_) (a' := ?_) #[true, true, true, true, true, true, true, true, true, true, true, true, true, true, true, true, true, true, true, true, true, true, true, true, true, true, true, true, true, false] rfl rfl (any_of HT_.out (by kernel_rfl)) (fun _ _ _ h => h) (Or.inl ⟨by rfl, ?_⟩) ?_ ?_
                rotate_left
                ·intro w'
                 go_simp
                 with_reducible rfl
                rotate_left
                ·simp only [Act.put, List.setIfInBounds_toArray, List.set_cons_zero, List.set_cons_succ, i64_w, i32_w]
                 rfl
                refine pure_ (i := 29) (N := some 6) (v := ?_) (a' := ?_) #[true, true, true, true, true, true, true, true, true, true, true, true, true, true, true, true, true, true, true, true, true, true, true, true, true, true, true, true, true, true] rfl rfl (any_of HT_.out (by kernel_rfl)) (fun _ _ _ h => h) (Or.inl ⟨by rfl, ?_⟩) ?_ ?_
                rotate_left
                ·intro w'
                 go_simp
                 with_reducible rfl
                rotate_left
                ·simp only [Act.put, List.setIfInBounds_toArray, List.set_cons_zero, List.set_cons_succ, i64_w, i32_w]
                 rfl
                refine done_ (done_of HT_.out (by kernel_rfl)) ?_
                try go_wp2
                go_ret
                exact ⟨z48_, z18_⟩
              ·rw [if_neg c139] at H
               have c139b0 : (t132 == t133) = false := by simpa using c139
               (try (have c139b1 : decide (t132 = t133) = false := by simpa using c139))
               (try (have c139b2 : (t132 == t133) = false := by simpa using c139))
               (try (have c139b3 : ¬ (t132 = t133) := by simpa using c139))
               clear c139
               exact absurd ((Option.some.inj H).trans hr_) Bool.false_ne_true
             ·rw [if_neg c138] at H
              have c138b0 : (t108 == 1) = false := beq_eq_false_iff_ne.mpr c138
              have c138b1 : (t108 != 1) = true := bne_iff_ne.mpr c138
              obtain rfl := Option.some.inj H
              try go_wp2
              have n0_ := Aside0.mk (blk_drew BK105.out)
              have n1_ := Aside0.mk (blk_drew BK106.out)
              have n2_ := Aside0.mk (blk_drew BK107.out)
              have n3_ := Aside0.mk (blk_drew BK115.out)
              have n4_ := Aside0.mk (blk_drew BK128.out)
              have n5_ := Aside0.mk (below_drew1 HB.out)
              clear BK105; clear BK106; clear BK107; clear BK115; clear BK128; clear HB
              have BK105 := n0_
              have BK106 := n1_
              have BK107 := n2_
              have BK115 := n3_
              have BK128 := n4_
              have HB := n5_
              clear n0_ n1_ n2_ n3_ n4_ n5_
              refine start_ (n := 30) (S := fun w' => w'.cell? ⟨gb115, 0, none⟩ = some (.int .i64 t108) ∧ w'.cell? ⟨gb115, 1, none⟩ = some (.string t109) ∧ w'.cell? ⟨gb115, 2, none⟩ = some (.bool t110) ∧ w'.cell? ⟨gb115, 3, none⟩ = some (.string t111) ∧ w'.cell? ⟨gb115, 4, none⟩ = some (.int .i64 t112) ∧ w'.cell? ⟨gb115, 5, none⟩ = some (.string t113) ∧ w'.cell? ⟨gb115, 6, none⟩ = some (.string t114)) (ds := []) #[false, false, false, false, false, false, false, false, false, false, false, false, false, false, false, false, false, false, false, false, false, false, false, false, false, false, false, false, false, false] (by kernel_rfl) rfl rfl ⟨(blk_cell BK115.out 0).trans rfl, (blk_cell BK115.out 1).trans rfl, (blk_cell BK115.out 2).trans rfl, (blk_cell BK115.out 3).trans rfl, (blk_cell BK115.out 4).trans rfl, (blk_cell BK115.out 5).trans rfl, (blk_cell BK115.out 6).trans rfl⟩ (fun hHeld => ?_); refine with_tabW pursuivantlaw11_SourceRound.tab12 pursuivantlaw11_SourceRound.bits12 (fun HT_ HW_ => ?_)
              generalize wc.drew = w149 at BK105 BK106 BK107 BK115 BK128 HB hHeld ⊢
              refine one_ (i := 0) (N := some 78) #[true, false, false, false, false, false, false, false, false, false, false, false, false, false, false, false, false, false, false, false, false, false, false, false, false, false, false, false, false, false] rfl rfl (one_of HT_.out (by kernel_rfl)) (by decide) (fun K hK => ?_)
              refine goes_ Tryz.func12 (by kernel_rfl) rfl #[] (by rfl) rfl rfl z46_ ?_
              with_reducible refine (pursuivantlaw11_awake.calls kj77  true _ ?gw23_ A128.out z75_).mono ?_
              case gw23_ => exact z3_
              rintro e w150 ⟨rfl, hb⟩
              refine ⟨_, rfl, ?_⟩
              have n0_ := Aside0.mk (blk_below (g := gb105) (o := .cells #[.int .i64 a0_0, .string a0_1, .bool a0_2, .string a0_3, .int .i64 a0_4, .string a0_5, .string a0_6] 23 (0, 0)) z63_ hb)
              have n1_ := Aside0.mk (blk_below (g := gb106) (o := .cells #[.string a1_0, .string a1_1, .string a1_2, .int .i64 a1_3, .string a1_4, .bool a1_5, .string a1_6, .bool a1_7, .string a1_8] 30 (0, 0)) z59_ hb)
              have n2_ := Aside0.mk (blk_below (g := gb107) (o := .cells #[.string a2_0, .string a2_1, .int .i64 a2_2] 32 (0, 0)) z49_ hb)
              have n3_ := Aside0.mk (blk_below (g := gb115) (o := .cells #[.int .i64 t108, .string t109, .bool t110, .string t111, .int .i64 t112, .string t113, .string t114] 23 (0, 0)) z64_ hb)
              have n4_ := Aside0.mk (blk_below (g := gb128) (o := .cells #[.int .i64 t120, .string t121, .bool t122, .string t123, .int .i64 t124, .string t125, .string t126] 23 (0, 0)) z65_ hb)
              have n5_ := Aside0.mk (below_step z18_ hb)
              clear BK105; clear BK106; clear BK107; clear BK115; clear BK128; clear HB
              have BK105 := n0_
              have BK106 := n1_
              have BK107 := n2_
              have BK115 := n3_
              have BK128 := n4_
              have HB := n5_
              clear n0_ n1_ n2_ n3_ n4_ n5_
              (try clear hb)
              (try clear hb2)
              (try clear hk)
              (try clear hi)
              refine hK.out _ _ ⟨(blk_cell BK115.out 0).trans rfl, (blk_cell BK115.out 1).trans rfl, (blk_cell BK115.out 2).trans rfl, (blk_cell BK115.out 3).trans rfl, (blk_cell BK115.out 4).trans rfl, (blk_cell BK115.out 5).trans rfl, (blk_cell BK115.out 6).trans rfl⟩ (fun hHeld => ?_)
              clear hK K
              refine norm_ (a' := ?_) ?_ ?_
              rotate_left
              ·show Act.put _ (some 78) _ = _
               simp only [Act.put, List.setIfInBounds_toArray, List.set_cons_zero, List.set_cons_succ, i64_w, i32_w]
               rfl
              refine pure_ (i := 1) (N := some 79) (v := ?_) (a' := ?_) #[true, true, false, false, false, false, false, false, false, false, false, false, false, false, false, false, false, false, false, false, false, false, false, false, false, false, false, false, false, false] rfl rfl (any_of HT_.out (by kernel_rfl)) (fun _ _ _ h => h) (Or.inl ⟨by rfl, ?_⟩) ?_ ?_
              rotate_left
              ·intro w'
               go_simp
               with_reducible rfl
              rotate_left
              ·simp only [Act.put, List.setIfInBounds_toArray, List.set_cons_zero, List.set_cons_succ, i64_w, i32_w]
               rfl
              refine pure_ (i := 2) (N := some 80) (v := ?_) (a' := ?_) #[true, true, true, false, false, false, false, false, false, false, false, false, false, false, false, false, false, false, false, false, false, false, false, false, false, false, false, false, false, false] rfl rfl (any_of HT_.out (by kernel_rfl)) (fun _ _ _ h => h) (Or.inl ⟨by rfl, ?_⟩) ?_ ?_
              rotate_left
              ·intro w'
               go_simp
               with_reducible rfl
              rotate_left
              ·simp only [Act.put, List.setIfInBounds_toArray, List.set_cons_zero, List.set_cons_succ, i64_w, i32_w]
               rfl
              refine take_ (i := 3) (N := some 81) (v := ?_) (a' := ?_) #[true, true, true, true, false, false, false, false, false, false, false, false, false, false, false, false, false, false, false, false, false, false, false, false, false, false, false, false, false, false] rfl rfl (take_ofW HT_.out HW_.out (by kernel_rfl)) (fun _ _ _ h => h) (Or.inl ⟨by rfl, ?_⟩) hHeld ?_ ?_
              rotate_left
              ·rintro w' ⟨s0, s1, s2, s3, s4, s5, s6⟩
               go_simp
               with_reducible rfl
              rotate_left
              ·simp only [Act.put, List.setIfInBounds_toArray, List.set_cons_zero, List.set_cons_succ, i64_w, i32_w]
               rfl
              refine pure_ (i := 4) (N := some 82) (v := ?_) (a' := ?_) #[true, true, true, true, true, false, false, false, false, false, false, false, false, false, false, false, false, false, false, false, false, false, false, false, false, false, false, false, false, false] rfl rfl (any_of HT_.out (by kernel_rfl)) (fun _ _ _ h => h) (Or.inl ⟨by rfl, ?_⟩) ?_ ?_
              rotate_left
              ·intro w'
               go_simp
               with_reducible rfl
              rotate_left
              ·simp only [Act.put, List.setIfInBounds_toArray, List.set_cons_zero, List.set_cons_succ, i64_w, i32_w]
               rfl
              refine pure_ (i := 5) (N := some 83) (v := ?_) (a' := ?_) #[true, true, true, true, true, true, false, false, false, false, false, false, false, false, false, false, false, false, false, false, false, false, false, false, false, false, false, false, false, false] rfl rfl (any_of HT_.out (by kernel_rfl)) (fun _ _ _ h => h) (Or.inl ⟨by rfl, ?_⟩) ?_ ?_
              rotate_left
              ·intro w'
               go_simp
               with_reducible rfl
              rotate_left
              ·simp only [Act.put, List.setIfInBounds_toArray, List.set_cons_zero, List.set_cons_succ, i64_w, i32_w]
               rfl
              refine pure_ (i := 6) (N := some 84) (v := undef) (a' := ?_) #[true, true, true, true, true, true, true, false, false, false, false, false, false, false, false, false, false, false, false, false, false, false, false, false, false, false, false, false, false, false] rfl rfl (any_of HT_.out (by kernel_rfl)) (fun _ _ _ h => h) (Or.inr ⟨by rfl, rfl⟩) ?_ ?_
              rotate_left
              ·simp only [Act.put, List.setIfInBounds_toArray, List.set_cons_zero, List.set_cons_succ, i64_w, i32_w]
               rfl
              refine pure_ (i := 7) (N := some 85) (v := ?_) (a' := ?_) #[true, true, true, true, true, true, true, true, false, false, false, false, false, false, false, false, false, false, false, false, false, false, false, false, false, false, false, false, false, false] rfl rfl (any_of HT_.out (by kernel_rfl)) (fun _ _ _ h => h) (Or.inl ⟨by rfl, ?_⟩) ?_ ?_
              rotate_left
              ·intro w'
               go_simp
               with_reducible rfl
              rotate_left
              ·simp only [Act.put, List.setIfInBounds_toArray, List.set_cons_zero, List.set_cons_succ, i64_w, i32_w]
               rfl
              refine pure_ (i := 8) (N := some 86) (v := ?_) (a' := ?_) #[true, true, true, true, true, true, true, true, true, false, false, false, false, false, false, false, false, false, false, false, false, false, false, false, false, false, false, false, false, false] rfl rfl (any_of HT_.out (by kernel_rfl)) (fun _ _ _ h => h) (Or.inl ⟨by rfl, ?_⟩) ?_ ?_
              rotate_left
              ·intro w'
               go_simp
               with_reducible rfl
              rotate_left
              ·simp only [Act.put, List.setIfInBounds_toArray, List.set_cons_zero, List.set_cons_succ, i64_w, i32_w]
               rfl
              refine pure_ (i := 9) (N := some 87) (v := ?_) (a' := ?_) #[true, true, true, true, true, true, true, true, true, true, false, false, false, false, false, false, false, false, false, false, false, false, false, false, false, false, false, false, false, false] rfl rfl (any_of HT_.out (by kernel_rfl)) (fun _ _ _ h => h) (Or.inl ⟨by rfl, ?_⟩) ?_ ?_
              rotate_left
              ·intro w'
               go_simp
               with_reducible rfl
              rotate_left
              ·simp only [Act.put, List.setIfInBounds_toArray, List.set_cons_zero, List.set_cons_succ, i64_w, i32_w]
               rfl
              refine pure_ (i := 10) (N := some 88) (v := ?_) (a' := ?_) #[true, true, true, true, true, true, true, true, true, true, true, false, false, false, false, false, false, false, false, false, false, false, false, false, false, false, false, false, false, false] rfl rfl (any_of HT_.out (by kernel_rfl)) (fun _ _ _ h => h) (Or.inl ⟨by rfl, ?_⟩) ?_ ?_
              rotate_left
              ·intro w'
               go_simp
               with_reducible rfl
              rotate_left
              ·simp only [Act.put, List.setIfInBounds_toArray, List.set_cons_zero, List.set_cons_succ, i64_w, i32_w]
               rfl
              refine take_ (i := 11) (N := some 89) (v := ?_) (a' := ?_) #[true, true, true, true, true, true, true, true, true, true, true, true, false, false, false, false, false, false, false, false, false, false, false, false, false, false, false, false, false, false] rfl rfl (take_ofW HT_.out HW_.out (by kernel_rfl)) (fun _ _ _ h => h) (Or.inl ⟨by rfl, ?_⟩) hHeld ?_ ?_
              rotate_left
              ·rintro w' ⟨s0, s1, s2, s3, s4, s5, s6⟩
               go_simp
               with_reducible rfl
              rotate_left
              ·simp only [Act.put, List.setIfInBounds_toArray, List.set_cons_zero, List.set_cons_succ, i64_w, i32_w]
               rfl
              refine pure_ (i := 12) (N := some 90) (v := ?_) (a' := ?_) #[true, true, true, true, true, true, true, true, true, true, true, true, true, false, false, false, false, false, false, false, false, false, false, false, false, false, false, false, false, false] rfl rfl (any_of HT_.out (by kernel_rfl)) (fun _ _ _ h => h) (Or.inl ⟨by rfl, ?_⟩) ?_ ?_
              rotate_left
              ·intro w'
               go_simp
               with_reducible rfl
              rotate_left
              ·simp only [Act.put, List.setIfInBounds_toArray, List.set_cons_zero, List.set_cons_succ, i64_w, i32_w]
               rfl
              refine pure_ (i := 13) (N := some 91) (v := ?_) (a' := ?_) #[true, true, true, true, true, true, true, true, true, true, true, true, true, true, false, false, false, false, false, false, false, false, false, false, false, false, false, false, false, false] rfl rfl (any_of HT_.out (by kernel_rfl)) (fun _ _ _ h => h) (Or.inl ⟨by rfl, ?_⟩) ?_ ?_
              rotate_left
              ·intro w'
               go_simp
               with_reducible rfl
              rotate_left
              ·simp only [Act.put, List.setIfInBounds_toArray, List.set_cons_zero, List.set_cons_succ, i64_w, i32_w]
               rfl
              refine pure_ (i := 14) (N := some 92) (v := undef) (a' := ?_) #[true, true, true, true, true, true, true, true, true, true, true, true, true, true, true, false, false, false, false, false, false, false, false, false, false, false, false, false, false, false] rfl rfl (any_of HT_.out (by kernel_rfl)) (fun _ _ _ h => h) (Or.inr ⟨by rfl, rfl⟩) ?_ ?_
              rotate_left
              ·simp only [Act.put, List.setIfInBounds_toArray, List.set_cons_zero, List.set_cons_succ, i64_w, i32_w]
               rfl
              refine pure_ (i := 15) (N := some 93) (v := undef) (a' := ?_) #[true, true, true, true, true, true, true, true, true, true, true, true, true, true, true, true, false, false, false, false, false, false, false, false, false, false, false, false, false, false] rfl rfl (any_of HT_.out (by kernel_rfl)) (fun _ _ _ h => h) (Or.inr ⟨by rfl, rfl⟩) ?_ ?_
              rotate_left
              ·simp only [Act.put, List.setIfInBounds_toArray, List.set_cons_zero, List.set_cons_succ, i64_w, i32_w]
               rfl
              refine pure_ (i := 16) (N := some 94) (v := undef) (a' := ?_) #[true, true, true, true, true, true, true, true, true, true, true, true, true, true, true, true, true, false, false, false, false, false, false, false, false, false, false, false, false, false] rfl rfl (any_of HT_.out (by kernel_rfl)) (fun _ _ _ h => h) (Or.inr ⟨by rfl, rfl⟩) ?_ ?_
              rotate_left
              ·simp only [Act.put, List.setIfInBounds_toArray, List.set_cons_zero, List.set_cons_succ, i64_w, i32_w]
               rfl
              refine pure_ (i := 17) (N := some 95) (v := undef) (a' := ?_) #[true, true, true, true, true, true, true, true, true, true, true, true, true, true, true, true, true, true, false, false, false, false, false, false, false, false, false, false, false, false] rfl rfl (any_of HT_.out (by kernel_rfl)) (fun _ _ _ h => h) (Or.inr ⟨by rfl, rfl⟩) ?_ ?_
              rotate_left
              ·simp only [Act.put, List.setIfInBounds_toArray, List.set_cons_zero, List.set_cons_succ, i64_w, i32_w]
               rfl
              refine pure_ (i := 18) (N := some 96) (v := undef) (a' := ?_) #[true, true, true, true, true, true, true, true, true, true, true, true, true, true, true, true, true, true, true, false, false, false, false, false, false, false, false, false, false, false] rfl rfl (any_of HT_.out (by kernel_rfl)) (fun _ _ _ h => h) (Or.inr ⟨by rfl, rfl⟩) ?_ ?_
              rotate_left
              ·simp only [Act.put, List.setIfInBounds_toArray, List.set_cons_zero, List.set_cons_succ, i64_w, i32_w]
               rfl
              refine pure_ (i := 19) (N := some 97) (v := undef) (a' := ?_) #[true, true, true, true, true, true, true, true, true, true, true, true, true, true, true, true, true, true, true, true, false, false, false, false, false, false, false, false, false, false] rfl rfl (any_of HT_.out (by kernel_rfl)) (fun _ _ _ h => h) (Or.inr ⟨by rfl, rfl⟩) ?_ ?_
              rotate_left
              ·simp only [Act.put, List.setIfInBounds_toArray, List.set_cons_zero, List.set_cons_succ, i64_w, i32_w]
               rfl
              refine pure_ (i := 20) (N := some 98) (v := undef) (a' := ?_) #[true, true, true, true, true, true, true, true, true, true, true, true, true, true, true, true, true, true, true, true, true, false, false, false, false, false, false, false, false, false] rfl rfl (any_of HT_.out (by kernel_rfl)) (fun _ _ _ h => h) (Or.inr ⟨by rfl, rfl⟩) ?_ ?_
              rotate_left
              ·simp only [Act.put, List.setIfInBounds_toArray, List.set_cons_zero, List.set_cons_succ, i64_w, i32_w]
               rfl
              refine pure_ (i := 21) (N := some 99) (v := undef) (a' := ?_) #[true, true, true, true, true, true, true, true, true, true, true, true, true, true, true, true, true, true, true, true, true, true, false, false, false, false, false, false, false, false] rfl rfl (any_of HT_.out (by kernel_rfl)) (fun _ _ _ h => h) (Or.inr ⟨by rfl, rfl⟩) ?_ ?_
              rotate_left
              ·simp only [Act.put, List.setIfInBounds_toArray, List.set_cons_zero, List.set_cons_succ, i64_w, i32_w]
               rfl
              refine pure_ (i := 22) (N := some 100) (v := undef) (a' := ?_) #[true, true, true, true, true, true, true, true, true, true, true, true, true, true, true, true, true, true, true, true, true, true, true, false, false, false, false, false, false, false] rfl rfl (any_of HT_.out (by kernel_rfl)) (fun _ _ _ h => h) (Or.inr ⟨by rfl, rfl⟩) ?_ ?_
              rotate_left
              ·simp only [Act.put, List.setIfInBounds_toArray, List.set_cons_zero, List.set_cons_succ, i64_w, i32_w]
               rfl
              refine pure_ (i := 23) (N := some 101) (v := undef) (a' := ?_) #[true, true, true, true, true, true, true, true, true, true, true, true, true, true, true, true, true, true, true, true, true, true, true, true, false, false, false, false, false, false] rfl rfl (any_of HT_.out (by kernel_rfl)) (fun _ _ _ h => h) (Or.inr ⟨by rfl, rfl⟩) ?_ ?_
              rotate_left
              ·simp only [Act.put, List.setIfInBounds_toArray, List.set_cons_zero, List.set_cons_succ, i64_w, i32_w]
               rfl
              refine pure_ (i := 24) (N := some 102) (v := undef) (a' := ?_) #[true, true, true, true, true, true, true, true, true, true, true, true, true, true, true, true, true, true, true, true, true, true, true, true, true, false, false, false, false, false] rfl rfl (any_of HT_.out (by kernel_rfl)) (fun _ _ _ h => h) (Or.inr ⟨by rfl, rfl⟩) ?_ ?_
              rotate_left
              ·simp only [Act.put, List.setIfInBounds_toArray, List.set_cons_zero, List.set_cons_succ, i64_w, i32_w]
               rfl
              refine pure_ (i := 25) (N := some 103) (v := undef) (a' := ?_) #[true, true, true, true, true, true, true, true, true, true, true, true, true, true, true, true, true, true, true, true, true, true, true, true, true, true, false, false, false, false] rfl rfl (any_of HT_.out (by kernel_rfl)) (fun _ _ _ h => h) (Or.inr ⟨by rfl, rfl⟩) ?_ ?_
              rotate_left
              ·simp only [Act.put, List.setIfInBounds_toArray, List.set_cons_zero, List.set_cons_succ, i64_w, i32_w]
               rfl
              refine pure_ (i := 26) (N := some 104) (v := undef) (a' := ?_) #[true, true, true, true, true, true, true, true, true, true, true, true, true, true, true, true, true, true, true, true, true, true, true, true, true, true, true, false, false, false] rfl rfl (any_of HT_.out (by kernel_rfl)) (fun _ _ _ h => h) (Or.inr ⟨by rfl, rfl⟩) ?_ ?_
              rotate_left
              ·simp only [Act.put, List.setIfInBounds_toArray, List.set_cons_zero, List.set_cons_succ, i64_w, i32_w]
               rfl
              refine pure_ (i := 27) (N := some 105) (v := ?_) (a' := ?_) #[true, true, true, true, true, true, true, true, true, true, true, true, true, true, true, true, true, true, true, true, true, true, true, true, true, true, true, true, false, false] rfl rfl (any_of HT_.out (by kernel_rfl)) (fun _ _ _ h => h) (Or.inl ⟨by rfl, ?_⟩) ?_ ?_
              rotate_left
              ·intro w'
               go_simp
               with_reducible rfl
              rotate_left
              ·simp only [Act.put, List.setIfInBounds_toArray, List.set_cons_zero, List.set_cons_succ, i64_w, i32_w]
               rfl
              refine pure_ (i := 28) (N := some 106) (v := ?_) (a' := ?_) #[true, true, true, true, true, true, true, true, true, true, true, true, true, true, true, true, true, true, true, true, true, true, true, true, true, true, true, true, true, false] rfl rfl (any_of HT_.out (by kernel_rfl)) (fun _ _ _ h => h) (Or.inl ⟨by rfl, ?_⟩) ?_ ?_
              rotate_left
              ·intro w'
               go_simp
               with_reducible rfl
              rotate_left
              ·simp only [Act.put, List.setIfInBounds_toArray, List.set_cons_zero, List.set_cons_succ, i64_w, i32_w]
               rfl
              refine pure_ (i := 29) (N := some 6) (v := ?_) (a' := ?_) #[true, true, true, true, true, true, true, true, true, true, true, true, true, true, true, true, true, true, true, true, true, true, true, true, true, true, true, true, true, true] rfl rfl (any_of HT_.out (by kernel_rfl)) (fun _ _ _ h => h) (Or.inl ⟨by rfl, ?_⟩) ?_ ?_
              rotate_left
              ·intro w'
               go_simp
               with_reducible rfl
              rotate_left
              ·simp only [Act.put, List.setIfInBounds_toArray, List.set_cons_zero, List.set_cons_succ, i64_w, i32_w]
               rfl
              refine done_ (done_of HT_.out (by kernel_rfl)) ?_
              try go_wp2
              go_ret
              exact ⟨z48_, z18_⟩
           ·replace c129 := Bool.eq_false_iff.mpr c129
            subst c129
            have H1 : (some false) = some r := by rw [if_neg (show ¬ (false = true) by decide)] at H; exact H
            clear H
            have H := H1
            clear H1
            exact absurd ((Option.some.inj H).trans hr_) Bool.false_ne_true
 ·replace c6 := Bool.eq_false_iff.mpr c6
  subst c6
  have H1 : ((pursuivantlaw11_awake.f k).bind fun t117 => (if t117 = true then ((source_Text.f k t108 t109 t110 t111 t112 t113 t114).bind fun t118 => (some (t118.toList == ([] : List UInt8)))) else (some false))) = some r := by rw [if_neg (show ¬ (false = true) by decide)] at H; exact H
  clear H
  have H := H1
  clear H1
  replace H := Option.bind_eq_some_iff.mp H
  obtain ⟨t117, A1510, H⟩ := H
  replace H : (if t117 = true then ((source_Text.f k t108 t109 t110 t111 t112 t113 t114).bind fun t118 => (some (t118.toList == ([] : List UInt8)))) else (some false)) = some r := H
  have A151 := Aside0.mk A1510; clear A1510
  by_cases c152 : t117 = true
  ·subst c152
   have H1 : ((source_Text.f k t108 t109 t110 t111 t112 t113 t114).bind fun t118 => (some (t118.toList == ([] : List UInt8)))) = some r := by rw [if_pos rfl] at H; exact H
   clear H
   have H := H1
   clear H1
   replace H := Option.bind_eq_some_iff.mp H
   obtain ⟨t118, A1530, H⟩ := H
   replace H : (some (t118.toList == ([] : List UInt8))) = some r := H
   have A153 := Aside0.mk A1530; clear A1530
   obtain rfl := Option.some.inj H
   go_enter Tryz.func5, Tryz.ntmps5
   go_wp2_with (first | ((with_reducible refine gate_dst (N := 3) rfl ?_); refine box_event ?hg (N := 3) ?hd (cs := #[.int .i64 a0_0, .string a0_1, .bool a0_2, .string a0_3, .int .i64 a0_4, .string a0_5, .string a0_6]) (t := 23) ?hr ?_; (case hd => rfl); (case hg => rfl); (case hr => first | (go_simp; done) | (go_simp; rfl)); intro gb105 hg w154 hbox hb; have n0_ := Aside0.mk (below_step z47_ hb); have n1_ := Aside0.mk (hbox); have n2_ := Aside0.mk ((by rw [hg]; exact (below_size z47_) : w.heap.size ≤ gb105)); have n3_ := Aside0.mk ((by rw [hg]; exact (below_size z47_) : w.heap.size ≤ gb105)); clear HB; have HB := n0_; have BK105 := n1_; have GW105 := n2_; have GE105 := n3_; clear n0_ n1_ n2_ n3_; clear hb hbox hg) | ((with_reducible refine gate_dst (N := 4) rfl ?_); refine box_event ?hg (N := 4) ?hd (cs := #[.string a1_0, .string a1_1, .string a1_2, .int .i64 a1_3, .string a1_4, .bool a1_5, .string a1_6, .bool a1_7, .string a1_8]) (t := 30) ?hr ?_; (case hd => rfl); (case hg => rfl); (case hr => first | (go_simp; done) | (go_simp; rfl)); intro gb106 hg w155 hbox hb; have n0_ := Aside0.mk (blk_below (g := gb105) (o := .cells #[.int .i64 a0_0, .string a0_1, .bool a0_2, .string a0_3, .int .i64 a0_4, .string a0_5, .string a0_6] 23 (0, 0)) z63_ hb); have n1_ := Aside0.mk (below_step z43_ hb); have n2_ := Aside0.mk (hbox); have n3_ := Aside0.mk ((by rw [hg]; exact (below_size z43_) : w.heap.size ≤ gb106)); have n4_ := Aside0.mk ((by rw [hg]; exact (below_size z43_) : w.heap.size ≤ gb106)); have n5_ := Aside0.mk ((by rw [hg]; exact Nat.ne_of_lt (blk_lt (g := gb105) (o := .cells #[.int .i64 a0_0, .string a0_1, .bool a0_2, .string a0_3, .int .i64 a0_4, .string a0_5, .string a0_6] 23 (0, 0)) z63_) : gb105 ≠ gb106)); have n6_ := Aside0.mk ((by rw [hg]; exact Nat.ne_of_gt (blk_lt (g := gb105) (o := .cells #[.int .i64 a0_0, .string a0_1, .bool a0_2, .string a0_3, .int .i64 a0_4, .string a0_5, .string a0_6] 23 (0, 0)) z63_) : gb106 ≠ gb105)); clear BK105; clear HB; have BK105 := n0_; have HB := n1_; have BK106 := n2_; have GW106 := n3_; have GE106 := n4_; have NB105_106 := n5_; have NB106_105 := n6_; clear n0_ n1_ n2_ n3_ n4_ n5_ n6_; clear hb hbox hg) | ((with_reducible refine gate_dst (N := 5) rfl ?_); refine box_event ?hg (N := 5) ?hd (cs := #[.string a2_0, .string a2_1, .int .i64 a2_2]) (t := 32) ?hr ?_; (case hd => rfl); (case hg => rfl); (case hr => first | (go_simp; done) | (go_simp; rfl)); intro gb107 hg w156 hbox hb; have n0_ := Aside0.mk (blk_below (g := gb105) (o := .cells #[.int .i64 a0_0, .string a0_1, .bool a0_2, .string a0_3, .int .i64 a0_4, .string a0_5, .string a0_6] 23 (0, 0)) z63_ hb); have n1_ := Aside0.mk (blk_below (g := gb106) (o := .cells #[.string a1_0, .string a1_1, .string a1_2, .int .i64 a1_3, .string a1_4, .bool a1_5, .string a1_6, .bool a1_7, .string a1_8] 30 (0, 0)) z59_ hb); have n2_ := Aside0.mk (below_step z29_ hb); have n3_ := Aside0.mk (hbox); have n4_ := Aside0.mk ((by rw [hg]; exact (below_size z29_) : w.heap.size ≤ gb107)); have n5_ := Aside0.mk ((by rw [hg]; exact (below_size z29_) : w.heap.size ≤ gb107)); have n6_ := Aside0.mk ((by rw [hg]; exact Nat.ne_of_lt (blk_lt (g := gb105) (o := .cells #[.int .i64 a0_0, .string a0_1, .bool a0_2, .string a0_3, .int .i64 a0_4, .string a0_5, .string a0_6] 23 (0, 0)) z63_) : gb105 ≠ gb107)); have n7_ := Aside0.mk ((by rw [hg]; exact Nat.ne_of_gt (blk_lt (g := gb105) (o := .cells #[.int .i64 a0_0, .string a0_1, .bool a0_2, .string a0_3, .int .i64 a0_4, .string a0_5, .string a0_6] 23 (0, 0)) z63_) : gb107 ≠ gb105)); have n8_ := Aside0.mk ((by rw [hg]; exact Nat.ne_of_lt (blk_lt (g := gb106) (o := .cells #[.string a1_0, .string a1_1, .string a1_2, .int .i64 a1_3, .string a1_4, .bool a1_5, .string a1_6, .bool a1_7, .string a1_8] 30 (0, 0)) z59_) : gb106 ≠ gb107)); have n9_ := Aside0.mk ((by rw [hg]; exact Nat.ne_of_gt (blk_lt (g := gb106) (o := .cells #[.string a1_0, .string a1_1, .string a1_2, .int .i64 a1_3, .string a1_4, .bool a1_5, .string a1_6, .bool a1_7, .string a1_8] 30 (0, 0)) z59_) : gb107 ≠ gb106)); clear BK105; clear BK106; clear HB; have BK105 := n0_; have BK106 := n1_; have HB := n2_; have BK107 := n3_; have GW107 := n4_; have GE107 := n5_; have NB105_107 := n6_; have NB107_105 := n7_; have NB106_107 := n8_; have NB107_106 := n9_; clear n0_ n1_ n2_ n3_ n4_ n5_ n6_ n7_ n8_ n9_; clear hb hbox hg; have hnb157 := NB105_106.out; have hnc157 := NB106_105.out; have hnb158 := NB105_107.out; have hnc158 := NB107_105.out; have hcz159_0 : w156.cell? ⟨gb105, 0, none⟩ = some (.int .i64 a0_0) := (blk_cell BK105.out 0).trans rfl; have hcz159_1 : w156.cell? ⟨gb105, 1, none⟩ = some (.string a0_1) := (blk_cell BK105.out 1).trans rfl; have hcz159_2 : w156.cell? ⟨gb105, 2, none⟩ = some (.bool a0_2) := (blk_cell BK105.out 2).trans rfl; have hcz159_3 : w156.cell? ⟨gb105, 3, none⟩ = some (.string a0_3) := (blk_cell BK105.out 3).trans rfl; have hcz159_4 : w156.cell? ⟨gb105, 4, none⟩ = some (.int .i64 a0_4) := (blk_cell BK105.out 4).trans rfl; have hcz159_5 : w156.cell? ⟨gb105, 5, none⟩ = some (.string a0_5) := (blk_cell BK105.out 5).trans rfl; have hcz159_6 : w156.cell? ⟨gb105, 6, none⟩ = some (.string a0_6) := (blk_cell BK105.out 6).trans rfl; have hfz159_0 := blk_frozen BK105.out 0; have hfz159_1 := blk_frozen BK105.out 1; have hfz159_2 := blk_frozen BK105.out 2; have hfz159_3 := blk_frozen BK105.out 3; have hfz159_4 := blk_frozen BK105.out 4; have hfz159_5 := blk_frozen BK105.out 5; have hfz159_6 := blk_frozen BK105.out 6) | ((with_reducible refine gate_callee (f := 14) rfl ?_); refine goesL_ (some 13) rfl rfl Tryz.func14 (by kernel_rfl) rfl #[.agg #[.int .i64 a0_0, .string a0_1, .bool a0_2, .string a0_3, .int .i64 a0_4, .string a0_5, .string a0_6]] rfl z46_ ?_; (with_reducible refine (pursuivantlaw11_cut.calls a0_0 a0_1 a0_2 a0_3 a0_4 a0_5 a0_6 t108 t109 t110 t111 t112 t113 t114 _ ?gw9_ A4.out).mono ?_); (case gw9_ => exact z3_); rintro e w160 ⟨rfl, hb⟩; refine ⟨_, rfl, ?_⟩; have n0_ := Aside0.mk (blk_below (g := gb105) (o := .cells #[.int .i64 a0_0, .string a0_1, .bool a0_2, .string a0_3, .int .i64 a0_4, .string a0_5, .string a0_6] 23 (0, 0)) z63_ hb); have n1_ := Aside0.mk (blk_below (g := gb106) (o := .cells #[.string a1_0, .string a1_1, .string a1_2, .int .i64 a1_3, .string a1_4, .bool a1_5, .string a1_6, .bool a1_7, .string a1_8] 30 (0, 0)) z59_ hb); have n2_ := Aside0.mk (blk_below (g := gb107) (o := .cells #[.string a2_0, .string a2_1, .int .i64 a2_2] 32 (0, 0)) z49_ hb); have n3_ := Aside0.mk (below_step z22_ hb); clear BK105; clear BK106; clear BK107; clear HB; have BK105 := n0_; have BK106 := n1_; have BK107 := n2_; have HB := n3_; clear n0_ n1_ n2_ n3_; (try clear hb); (try clear hb2); (try clear hk); (try clear hi)) | ((with_reducible refine gate_dst (N := 7) rfl ?_); refine box_event ?hg (N := 7) ?hd (cs := #[.int .i64 0, .string (⟨#[]⟩ : ByteArray), .bool false, .string (⟨#[]⟩ : ByteArray), .int .i64 0, .string (⟨#[]⟩ : ByteArray), .string (⟨#[]⟩ : ByteArray)]) (t := 23) ?hr ?_; (case hd => rfl); (case hg => rfl); (case hr => first | (go_simp; done) | (go_simp; rfl)); intro gb115 hg w161 hbox hb; have n0_ := Aside0.mk (blk_below (g := gb105) (o := .cells #[.int .i64 a0_0, .string a0_1, .bool a0_2, .string a0_3, .int .i64 a0_4, .string a0_5, .string a0_6] 23 (0, 0)) z63_ hb); have n1_ := Aside0.mk (blk_below (g := gb106) (o := .cells #[.string a1_0, .string a1_1, .string a1_2, .int .i64 a1_3, .string a1_4, .bool a1_5, .string a1_6, .bool a1_7, .string a1_8] 30 (0, 0)) z59_ hb); have n2_ := Aside0.mk (blk_below (g := gb107) (o := .cells #[.string a2_0, .string a2_1, .int .i64 a2_2] 32 (0, 0)) z49_ hb); have n3_ := Aside0.mk (below_step z22_ hb); have n4_ := Aside0.mk (hbox); have n5_ := Aside0.mk ((by rw [hg]; exact (below_size z22_) : w.heap.size ≤ gb115)); have n6_ := Aside0.mk ((by rw [hg]; exact (below_size z22_) : w.heap.size ≤ gb115)); have n7_ := Aside0.mk ((by rw [hg]; exact Nat.ne_of_lt (blk_lt (g := gb105) (o := .cells #[.int .i64 a0_0, .string a0_1, .bool a0_2, .string a0_3, .int .i64 a0_4, .string a0_5, .string a0_6] 23 (0, 0)) z63_) : gb105 ≠ gb115)); have n8_ := Aside0.mk ((by rw [hg]; exact Nat.ne_of_gt (blk_lt (g := gb105) (o := .cells #[.int .i64 a0_0, .string a0_1, .bool a0_2, .string a0_3, .int .i64 a0_4, .string a0_5, .string a0_6] 23 (0, 0)) z63_) : gb115 ≠ gb105)); have n9_ := Aside0.mk ((by rw [hg]; exact Nat.ne_of_lt (blk_lt (g := gb106) (o := .cells #[.string a1_0, .string a1_1, .string a1_2, .int .i64 a1_3, .string a1_4, .bool a1_5, .string a1_6, .bool a1_7, .string a1_8] 30 (0, 0)) z59_) : gb106 ≠ gb115)); have n10_ := Aside0.mk ((by rw [hg]; exact Nat.ne_of_gt (blk_lt (g := gb106) (o := .cells #[.string a1_0, .string a1_1, .string a1_2, .int .i64 a1_3, .string a1_4, .bool a1_5, .string a1_6, .bool a1_7, .string a1_8] 30 (0, 0)) z59_) : gb115 ≠ gb106)); have n11_ := Aside0.mk ((by rw [hg]; exact Nat.ne_of_lt (blk_lt (g := gb107) (o := .cells #[.string a2_0, .string a2_1, .int .i64 a2_2] 32 (0, 0)) z49_) : gb107 ≠ gb115)); have n12_ := Aside0.mk ((by rw [hg]; exact Nat.ne_of_gt (blk_lt (g := gb107) (o := .cells #[.string a2_0, .string a2_1, .int .i64 a2_2] 32 (0, 0)) z49_) : gb115 ≠ gb107)); clear BK105; clear BK106; clear BK107; clear HB; have BK105 := n0_; have BK106 := n1_; have BK107 := n2_; have HB := n3_; have BK115 := n4_; have GW115 := n5_; have GE115 := n6_; have NB105_115 := n7_; have NB115_105 := n8_; have NB106_115 := n9_; have NB115_106 := n10_; have NB107_115 := n11_; have NB115_107 := n12_; clear n0_ n1_ n2_ n3_ n4_ n5_ n6_ n7_ n8_ n9_ n10_ n11_ n12_; clear hb hbox hg; have hnb162 := NB115_105.out; have hnc162 := NB105_115.out; have hnb163 := NB115_106.out; have hnc163 := NB106_115.out; have hnb164 := NB115_107.out; have hnc164 := NB107_115.out; have hcz165_0 : w161.cell? ⟨gb115, 0, none⟩ = some (.int .i64 0) := (blk_cell BK115.out 0).trans rfl; have hcz165_1 : w161.cell? ⟨gb115, 1, none⟩ = some (.string (⟨#[]⟩ : ByteArray)) := (blk_cell BK115.out 1).trans rfl; have hcz165_2 : w161.cell? ⟨gb115, 2, none⟩ = some (.bool false) := (blk_cell BK115.out 2).trans rfl; have hcz165_3 : w161.cell? ⟨gb115, 3, none⟩ = some (.string (⟨#[]⟩ : ByteArray)) := (blk_cell BK115.out 3).trans rfl; have hcz165_4 : w161.cell? ⟨gb115, 4, none⟩ = some (.int .i64 0) := (blk_cell BK115.out 4).trans rfl; have hcz165_5 : w161.cell? ⟨gb115, 5, none⟩ = some (.string (⟨#[]⟩ : ByteArray)) := (blk_cell BK115.out 5).trans rfl; have hcz165_6 : w161.cell? ⟨gb115, 6, none⟩ = some (.string (⟨#[]⟩ : ByteArray)) := (blk_cell BK115.out 6).trans rfl; have hfz165_0 := blk_frozen BK115.out 0; have hfz165_1 := blk_frozen BK115.out 1; have hfz165_2 := blk_frozen BK115.out 2; have hfz165_3 := blk_frozen BK115.out 3; have hfz165_4 := blk_frozen BK115.out 4; have hfz165_5 := blk_frozen BK115.out 5; have hfz165_6 := blk_frozen BK115.out 6) | ((with_reducible refine gate_callee (f := 19) rfl ?_); refine goesL_ (some 15) rfl rfl Tryz.func19 (by kernel_rfl) rfl #[.agg #[.int .i64 t108, .string t109, .bool t110, .string t111, .int .i64 t112, .string t113, .string t114]] rfl z46_ ?_; (with_reducible refine (source_Good.calls k t108 t109 t110 t111 t112 t113 t114 false _ ?gw10_ A5.out).mono ?_); (case gw10_ => exact z3_); rintro e w166 ⟨rfl, hb⟩; refine ⟨_, rfl, ?_⟩; have n0_ := Aside0.mk (blk_below (g := gb105) (o := .cells #[.int .i64 a0_0, .string a0_1, .bool a0_2, .string a0_3, .int .i64 a0_4, .string a0_5, .string a0_6] 23 (0, 0)) (by (with_reducible repeat (first | refine blk_drewN ?_ _ | refine blk_drew ?_ | refine blk_alloc ?_ _)); refine blk_far ?_ NB105_115.out _; (with_reducible repeat (first | refine blk_drewN ?_ _ | refine blk_drew ?_ | refine blk_alloc ?_ _)); refine blk_far ?_ NB105_115.out _; (with_reducible repeat (first | refine blk_drewN ?_ _ | refine blk_drew ?_ | refine blk_alloc ?_ _)); refine blk_far ?_ NB105_115.out _; (with_reducible repeat (first | refine blk_drewN ?_ _ | refine blk_drew ?_ | refine blk_alloc ?_ _)); refine blk_far ?_ NB105_115.out _; (with_reducible repeat (first | refine blk_drewN ?_ _ | refine blk_drew ?_ | refine blk_alloc ?_ _)); refine blk_far ?_ NB105_115.out _; (with_reducible repeat (first | refine blk_drewN ?_ _ | refine blk_drew ?_ | refine blk_alloc ?_ _)); refine blk_far ?_ NB105_115.out _; (with_reducible repeat (first | refine blk_drewN ?_ _ | refine blk_drew ?_ | refine blk_alloc ?_ _)); refine blk_far ?_ NB105_115.out _; (with_reducible repeat (first | refine blk_drewN ?_ _ | refine blk_drew ?_ | refine blk_alloc ?_ _)); exact BK105.out) hb); have n1_ := Aside0.mk (blk_below (g := gb106) (o := .cells #[.string a1_0, .string a1_1, .string a1_2, .int .i64 a1_3, .string a1_4, .bool a1_5, .string a1_6, .bool a1_7, .string a1_8] 30 (0, 0)) (by (with_reducible repeat (first | refine blk_drewN ?_ _ | refine blk_drew ?_ | refine blk_alloc ?_ _)); refine blk_far ?_ NB106_115.out _; (with_reducible repeat (first | refine blk_drewN ?_ _ | refine blk_drew ?_ | refine blk_alloc ?_ _)); refine blk_far ?_ NB106_115.out _; (with_reducible repeat (first | refine blk_drewN ?_ _ | refine blk_drew ?_ | refine blk_alloc ?_ _)); refine blk_far ?_ NB106_115.out _; (with_reducible repeat (first | refine blk_drewN ?_ _ | refine blk_drew ?_ | refine blk_alloc ?_ _)); refine blk_far ?_ NB106_115.out _; (with_reducible repeat (first | refine blk_drewN ?_ _ | refine blk_drew ?_ | refine blk_alloc ?_ _)); refine blk_far ?_ NB106_115.out _; (with_reducible repeat (first | refine blk_drewN ?_ _ | refine blk_drew ?_ | refine blk_alloc ?_ _)); refine blk_far ?_ NB106_115.out _; (with_reducible repeat (first | refine blk_drewN ?_ _ | refine blk_drew ?_ | refine blk_alloc ?_ _)); refine blk_far ?_ NB106_115.out _; (with_reducible repeat (first | refine blk_drewN ?_ _ | refine blk_drew ?_ | refine blk_alloc ?_ _)); exact BK106.out) hb); have n2_ := Aside0.mk (blk_below (g := gb107) (o := .cells #[.string a2_0, .string a2_1, .int .i64 a2_2] 32 (0, 0)) (by (with_reducible repeat (first | refine blk_drewN ?_ _ | refine blk_drew ?_ | refine blk_alloc ?_ _)); refine blk_far ?_ NB107_115.out _; (with_reducible repeat (first | refine blk_drewN ?_ _ | refine blk_drew ?_ | refine blk_alloc ?_ _)); refine blk_far ?_ NB107_115.out _; (with_reducible repeat (first | refine blk_drewN ?_ _ | refine blk_drew ?_ | refine blk_alloc ?_ _)); refine blk_far ?_ NB107_115.out _; (with_reducible repeat (first | refine blk_drewN ?_ _ | refine blk_drew ?_ | refine blk_alloc ?_ _)); refine blk_far ?_ NB107_115.out _; (with_reducible repeat (first | refine blk_drewN ?_ _ | refine blk_drew ?_ | refine blk_alloc ?_ _)); refine blk_far ?_ NB107_115.out _; (with_reducible repeat (first | refine blk_drewN ?_ _ | refine blk_drew ?_ | refine blk_alloc ?_ _)); refine blk_far ?_ NB107_115.out _; (with_reducible repeat (first | refine blk_drewN ?_ _ | refine blk_drew ?_ | refine blk_alloc ?_ _)); refine blk_far ?_ NB107_115.out _; (with_reducible repeat (first | refine blk_drewN ?_ _ | refine blk_drew ?_ | refine blk_alloc ?_ _)); exact BK107.out) hb); have n3_ := Aside0.mk (blk_below (g := gb115) (o := .cells #[.int .i64 t108, .string t109, .bool t110, .string t111, .int .i64 t112, .string t113, .string t114] 23 (0, 0)) (by (with_reducible repeat (first | refine blk_drewN ?_ _ | refine blk_drew ?_ | refine blk_alloc ?_ _)); refine blk_put (cs := #[.int .i64 t108, .string t109, .bool t110, .string t111, .int .i64 t112, .string t113, .string (⟨#[]⟩ : ByteArray)]) ?_ 6 _ rfl; (with_reducible repeat (first | refine blk_drewN ?_ _ | refine blk_drew ?_ | refine blk_alloc ?_ _)); refine blk_put (cs := #[.int .i64 t108, .string t109, .bool t110, .string t111, .int .i64 t112, .string (⟨#[]⟩ : ByteArray), .string (⟨#[]⟩ : ByteArray)]) ?_ 5 _ rfl; (with_reducible repeat (first | refine blk_drewN ?_ _ | refine blk_drew ?_ | refine blk_alloc ?_ _)); refine blk_put (cs := #[.int .i64 t108, .string t109, .bool t110, .string t111, .int .i64 0, .string (⟨#[]⟩ : ByteArray), .string (⟨#[]⟩ : ByteArray)]) ?_ 4 _ rfl; (with_reducible repeat (first | refine blk_drewN ?_ _ | refine blk_drew ?_ | refine blk_alloc ?_ _)); refine blk_put (cs := #[.int .i64 t108, .string t109, .bool t110, .string (⟨#[]⟩ : ByteArray), .int .i64 0, .string (⟨#[]⟩ : ByteArray), .string (⟨#[]⟩ : ByteArray)]) ?_ 3 _ rfl; (with_reducible repeat (first | refine blk_drewN ?_ _ | refine blk_drew ?_ | refine blk_alloc ?_ _)); refine blk_put (cs := #[.int .i64 t108, .string t109, .bool false, .string (⟨#[]⟩ : ByteArray), .int .i64 0, .string (⟨#[]⟩ : ByteArray), .string (⟨#[]⟩ : ByteArray)]) ?_ 2 _ rfl; (with_reducible repeat (first | refine blk_drewN ?_ _ | refine blk_drew ?_ | refine blk_alloc ?_ _)); refine blk_put (cs := #[.int .i64 t108, .string (⟨#[]⟩ : ByteArray), .bool false, .string (⟨#[]⟩ : ByteArray), .int .i64 0, .string (⟨#[]⟩ : ByteArray), .string (⟨#[]⟩ : ByteArray)]) ?_ 1 _ rfl; (with_reducible repeat (first | refine blk_drewN ?_ _ | refine blk_drew ?_ | refine blk_alloc ?_ _)); refine blk_put (cs := #[.int .i64 0, .string (⟨#[]⟩ : ByteArray), .bool false, .string (⟨#[]⟩ : ByteArray), .int .i64 0, .string (⟨#[]⟩ : ByteArray), .string (⟨#[]⟩ : ByteArray)]) ?_ 0 _ rfl; (with_reducible repeat (first | refine blk_drewN ?_ _ | refine blk_drew ?_ | refine blk_alloc ?_ _)); exact BK115.out) hb); have n4_ := Aside0.mk (below_step z19_ hb); clear BK105; clear BK106; clear BK107; clear BK115; clear HB; have BK105 := n0_; have BK106 := n1_; have BK107 := n2_; have BK115 := n3_; have HB := n4_; clear n0_ n1_ n2_ n3_ n4_; (try clear hb); (try clear hb2); (try clear hk); (try clear hi)) | ((with_reducible refine gate_callee (f := 12) rfl ?_); refine goesL_ (some 17) rfl rfl Tryz.func12 (by kernel_rfl) rfl #[] rfl z46_ ?_; (with_reducible refine (pursuivantlaw11_awake.calls k  true _ ?gw11_ A151.out z75_).mono ?_); (case gw11_ => exact z3_); rintro e w167 ⟨rfl, hb⟩; refine ⟨_, rfl, ?_⟩; have n0_ := Aside0.mk (blk_below (g := gb105) (o := .cells #[.int .i64 a0_0, .string a0_1, .bool a0_2, .string a0_3, .int .i64 a0_4, .string a0_5, .string a0_6] 23 (0, 0)) z63_ hb); have n1_ := Aside0.mk (blk_below (g := gb106) (o := .cells #[.string a1_0, .string a1_1, .string a1_2, .int .i64 a1_3, .string a1_4, .bool a1_5, .string a1_6, .bool a1_7, .string a1_8] 30 (0, 0)) z59_ hb); have n2_ := Aside0.mk (blk_below (g := gb107) (o := .cells #[.string a2_0, .string a2_1, .int .i64 a2_2] 32 (0, 0)) z49_ hb); have n3_ := Aside0.mk (blk_below (g := gb115) (o := .cells #[.int .i64 t108, .string t109, .bool t110, .string t111, .int .i64 t112, .string t113, .string t114] 23 (0, 0)) z64_ hb); have n4_ := Aside0.mk (below_step z19_ hb); clear BK105; clear BK106; clear BK107; clear BK115; clear HB; have BK105 := n0_; have BK106 := n1_; have BK107 := n2_; have BK115 := n3_; have HB := n4_; clear n0_ n1_ n2_ n3_ n4_; (try clear hb); (try clear hb2); (try clear hk); (try clear hi); have hcz168_0 : w167.cell? ⟨gb115, 0, none⟩ = some (.int .i64 t108) := (blk_cell BK115.out 0).trans rfl; have hcz168_1 : w167.cell? ⟨gb115, 1, none⟩ = some (.string t109) := (blk_cell BK115.out 1).trans rfl; have hcz168_2 : w167.cell? ⟨gb115, 2, none⟩ = some (.bool t110) := (blk_cell BK115.out 2).trans rfl; have hcz168_3 : w167.cell? ⟨gb115, 3, none⟩ = some (.string t111) := (blk_cell BK115.out 3).trans rfl; have hcz168_4 : w167.cell? ⟨gb115, 4, none⟩ = some (.int .i64 t112) := (blk_cell BK115.out 4).trans rfl; have hcz168_5 : w167.cell? ⟨gb115, 5, none⟩ = some (.string t113) := (blk_cell BK115.out 5).trans rfl; have hcz168_6 : w167.cell? ⟨gb115, 6, none⟩ = some (.string t114) := (blk_cell BK115.out 6).trans rfl; have hfz168_0 := blk_frozen BK115.out 0; have hfz168_1 := blk_frozen BK115.out 1; have hfz168_2 := blk_frozen BK115.out 2; have hfz168_3 := blk_frozen BK115.out 3; have hfz168_4 := blk_frozen BK115.out 4; have hfz168_5 := blk_frozen BK115.out 5; have hfz168_6 := blk_frozen BK115.out 6) | (go_at_call 20; (fail_if_success (have z_ := U_2)); have U_2 := trivial; (with_reducible refine (source_Text.calls k t108 t109 t110 t111 t112 t113 t114 t118 _ ?gw12_ A153.out).mono ?_); (case gw12_ => exact z3_); rintro e w169 ⟨rfl, hb⟩; have n0_ := Aside0.mk (blk_below (g := gb105) (o := .cells #[.int .i64 a0_0, .string a0_1, .bool a0_2, .string a0_3, .int .i64 a0_4, .string a0_5, .string a0_6] 23 (0, 0)) z63_ hb); have n1_ := Aside0.mk (blk_below (g := gb106) (o := .cells #[.string a1_0, .string a1_1, .string a1_2, .int .i64 a1_3, .string a1_4, .bool a1_5, .string a1_6, .bool a1_7, .string a1_8] 30 (0, 0)) z59_ hb); have n2_ := Aside0.mk (blk_below (g := gb107) (o := .cells #[.string a2_0, .string a2_1, .int .i64 a2_2] 32 (0, 0)) z49_ hb); have n3_ := Aside0.mk (blk_below (g := gb115) (o := .cells #[.int .i64 t108, .string t109, .bool t110, .string t111, .int .i64 t112, .string t113, .string t114] 23 (0, 0)) z64_ hb); have n4_ := Aside0.mk (below_step z19_ hb); clear BK105; clear BK106; clear BK107; clear BK115; clear HB; have BK105 := n0_; have BK106 := n1_; have BK107 := n2_; have BK115 := n3_; have HB := n4_; clear n0_ n1_ n2_ n3_ n4_; (try clear hb); (try clear hb2); (try clear hk); (try clear hi)))
   go_ret
   exact ⟨z48_, z19_⟩
  ·replace c152 := Bool.eq_false_iff.mpr c152
   subst c152
   have H1 : (some false) = some r := by rw [if_neg (show ¬ (false = true) by decide)] at H; exact H
   clear H
   have H := H1
   clear H1
   exact absurd ((Option.some.inj H).trans hr_) Bool.false_ne_true

end Go.Proofs.YteemgpciheheoaaGreatDoorRRR.Hand
