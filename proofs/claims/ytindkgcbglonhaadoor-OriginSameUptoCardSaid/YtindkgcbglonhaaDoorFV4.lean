/- What each Go function here computes, and that its call computes it, over contracts proved by hand (written by this project's xprint.py, which drives the kit's print). -/
import Derived.Test.YtindkgcbglonhaaDoorZ
import Derived.Test.YtindkgcbglonhaaDoorK
import Derived.Test.YtindkgcbglonhaaDoorUrlP
import Derived.Test.YtindkgcbglonhaaDoorOriginG
import Derived.Test.YtindkgcbglonhaaDoorRefG
import Derived.Test.YtindkgcbglonhaaDoorFA1
import Derived.Test.YtindkgcbglonhaaDoorFA2
import Derived.Test.YtindkgcbglonhaaDoorFA3
import Derived.Test.YtindkgcbglonhaaDoorFU1
import Derived.Test.YtindkgcbglonhaaDoorFR1
import Derived.Test.YtindkgcbglonhaaDoorFQ1
import Derived.Test.YtindkgcbglonhaaDoorFV2
import Derived.Test.YtindkgcbglonhaaDoorFV3
namespace Go.Proofs.YtindkgcbglonhaaDoor.Hand
open Go.RowKit Go.Proofs.YtindkgcbglonhaaDoorW.PrintWords Go.Proofs.YtindkgcbglonhaaDoorW.PrintLast Go.Proofs.YtindkgcbglonhaaDoorW.PrintMore
attribute [local go_sem] Instr.field asAgg max2_int min2_int max_two min_two max_three min_three max_four min_four   -- for this text's walks alone
set_option linter.unusedVariables false
set_option linter.unusedSimpArgs false

attribute [local go_sem high] eqA50
/-! ### pursuivantlaw08_OriginTexts: function 12 -/
def pursuivantlaw08_OriginTexts.f (k : Nat) (a0_0 : ByteArray) (a0_1 : ByteArray) (a0_2 : Int) (a1_0 : ByteArray) (a1_1 : ByteArray) (a1_2 : ByteArray) (a1_3 : Int) (a1_4 : ByteArray) (a1_5 : Bool) (a1_6 : ByteArray) (a1_7 : Bool) (a1_8 : ByteArray) : Option (Bool) := (pursuivantlaw08_awake.f k).bind fun t216 => (if t216 = true then ((origin_Good.f k a0_0 a0_1 a0_2).bind fun t217 => ((pursuivantref08_Good.f k a0_0 a0_1 a0_2).bind fun t218 => (if (t217 == t218) = true then ((origin_Text.f k a0_0 a0_1 a0_2).bind fun t219 => ((pursuivantref08_Text.f k a0_0 a0_1 a0_2).bind fun t220 => (if t219.toList = t220.toList then ((origin_Of.f k a1_0 a1_1 a1_2 a1_3 a1_4 a1_5 a1_6 a1_7 a1_8).bind fun bt221 => ((pursuivantref08_Of.f k a1_0 a1_1 a1_2 a1_3 a1_4 a1_5 a1_6 a1_7 a1_8).bind fun bt224 => (some (bt221.1.toList == bt224.1.toList && (bt221.2.1.toList == bt224.2.1.toList && (bt221.2.2 == bt224.2.2)))))) else (some false)))) else (some false)))) else (some false))
def pursuivantlaw08_OriginTexts.T1 : Bool × List (List Nat × List Nat) := (true, [([], []), ([0, 0], [0]), ([1], [1]), ([2, 1, 1], [1, 2]), ([1], [1]), ([4, 3, 1], [1, 4]), ([3, 5, 1], [1, 3, 5]), ([1, 6], [1, 6]), ([7, 5], [7]), ([8], [8]), ([9, 8, 8], [8, 9]), ([8], [8]), ([11, 10, 8], [8, 11]), ([10, 12, 8], [8, 10, 12]), ([8, 13], [8, 13]), ([14, 12], [14]), ([15], [15]), ([16, 15, 15], [15, 16]), ([15], [15]), ([18, 17, 15], [15, 18]), ([17, 19, 15], [15, 17, 19]), ([15, 20], [15, 20]), ([21, 19, 0, 1, 2, 3, 4, 5, 6, 7, 8, 9, 10, 11, 12, 13, 14, 15, 16, 17, 18, 19, 20, 21], [21])])
def pursuivantlaw08_OriginTexts.B1 : List Nat := [0, 1, 3, 7, 3, 31, 63, 127, 255, 511, 1023, 511, 4095, 8191, 16383, 32767, 65535, 131071, 65535, 524287, 1048575, 2097151, 4194303]
theorem pursuivantlaw08_OriginTexts.tab1 : rtab .any (opsOf Tryd.f12 1) = pursuivantlaw08_OriginTexts.T1 := by kernel_rfl
theorem pursuivantlaw08_OriginTexts.bits1 : waitsOk pursuivantlaw08_OriginTexts.T1.2 pursuivantlaw08_OriginTexts.B1 = true := by kernel_rfl
set_option maxHeartbeats 8000000 in
set_option maxRecDepth 100000 in
theorem pursuivantlaw08_OriginTexts.calls (k : Nat) (a0_0 : ByteArray) (a0_1 : ByteArray) (a0_2 : Int) (a1_0 : ByteArray) (a1_1 : ByteArray) (a1_2 : ByteArray) (a1_3 : Int) (a1_4 : ByteArray) (a1_5 : Bool) (a1_6 : ByteArray) (a1_7 : Bool) (a1_8 : ByteArray) (r : Bool) (w : World) (hG_ : GW w) (h : pursuivantlaw08_OriginTexts.f k a0_0 a0_1 a0_2 a1_0 a1_1 a1_2 a1_3 a1_4 a1_5 a1_6 a1_7 a1_8 = some r) (hr_ : r = true) :
  Calls Tryd.prog 12 #[.agg #[.string a0_0, .string a0_1, .int .i64 a0_2], .agg #[.string a1_0, .string a1_1, .string a1_2, .int .i64 a1_3, .string a1_4, .bool a1_5, .string a1_6, .bool a1_7, .string a1_8]] w fun e w' => e = .returned (.bool r) ∧ Below w.heap.size w w' := by
 have hu50 := Tryd.underlying50
 have hu39 := Tryd.underlying39
 have HB := Aside0.mk (Below.refl w.heap.size w)
 have H : ((pursuivantlaw08_awake.f k).bind fun t216 => (if t216 = true then ((origin_Good.f k a0_0 a0_1 a0_2).bind fun t217 => ((pursuivantref08_Good.f k a0_0 a0_1 a0_2).bind fun t218 => (if (t217 == t218) = true then ((origin_Text.f k a0_0 a0_1 a0_2).bind fun t219 => ((pursuivantref08_Text.f k a0_0 a0_1 a0_2).bind fun t220 => (if t219.toList = t220.toList then ((origin_Of.f k a1_0 a1_1 a1_2 a1_3 a1_4 a1_5 a1_6 a1_7 a1_8).bind fun bt221 => ((pursuivantref08_Of.f k a1_0 a1_1 a1_2 a1_3 a1_4 a1_5 a1_6 a1_7 a1_8).bind fun bt224 => (some (bt221.1.toList == bt224.1.toList && (bt221.2.1.toList == bt224.2.1.toList && (bt221.2.2 == bt224.2.2)))))) else (some false)))) else (some false)))) else (some false))) = some r := h
 clear h
 replace H := Option.bind_eq_some_iff.mp H
 obtain ⟨t216, A30, H⟩ := H
 replace H : (if t216 = true then ((origin_Good.f k a0_0 a0_1 a0_2).bind fun t217 => ((pursuivantref08_Good.f k a0_0 a0_1 a0_2).bind fun t218 => (if (t217 == t218) = true then ((origin_Text.f k a0_0 a0_1 a0_2).bind fun t219 => ((pursuivantref08_Text.f k a0_0 a0_1 a0_2).bind fun t220 => (if t219.toList = t220.toList then ((origin_Of.f k a1_0 a1_1 a1_2 a1_3 a1_4 a1_5 a1_6 a1_7 a1_8).bind fun bt221 => ((pursuivantref08_Of.f k a1_0 a1_1 a1_2 a1_3 a1_4 a1_5 a1_6 a1_7 a1_8).bind fun bt224 => (some (bt221.1.toList == bt224.1.toList && (bt221.2.1.toList == bt224.2.1.toList && (bt221.2.2 == bt224.2.2)))))) else (some false)))) else (some false)))) else (some false)) = some r := H
 have A3 := Aside0.mk A30
 clear A30
 by_cases c4 : t216 = true
 ·subst c4
  have H1 : ((origin_Good.f k a0_0 a0_1 a0_2).bind fun t217 => ((pursuivantref08_Good.f k a0_0 a0_1 a0_2).bind fun t218 => (if (t217 == t218) = true then ((origin_Text.f k a0_0 a0_1 a0_2).bind fun t219 => ((pursuivantref08_Text.f k a0_0 a0_1 a0_2).bind fun t220 => (if t219.toList = t220.toList then ((origin_Of.f k a1_0 a1_1 a1_2 a1_3 a1_4 a1_5 a1_6 a1_7 a1_8).bind fun bt221 => ((pursuivantref08_Of.f k a1_0 a1_1 a1_2 a1_3 a1_4 a1_5 a1_6 a1_7 a1_8).bind fun bt224 => (some (bt221.1.toList == bt224.1.toList && (bt221.2.1.toList == bt224.2.1.toList && (bt221.2.2 == bt224.2.2)))))) else (some false)))) else (some false)))) = some r := by rw [if_pos rfl] at H; exact H
  clear H
  have H := H1
  clear H1
  replace H := Option.bind_eq_some_iff.mp H
  obtain ⟨t217, A50, H⟩ := H
  replace H : ((pursuivantref08_Good.f k a0_0 a0_1 a0_2).bind fun t218 => (if (t217 == t218) = true then ((origin_Text.f k a0_0 a0_1 a0_2).bind fun t219 => ((pursuivantref08_Text.f k a0_0 a0_1 a0_2).bind fun t220 => (if t219.toList = t220.toList then ((origin_Of.f k a1_0 a1_1 a1_2 a1_3 a1_4 a1_5 a1_6 a1_7 a1_8).bind fun bt221 => ((pursuivantref08_Of.f k a1_0 a1_1 a1_2 a1_3 a1_4 a1_5 a1_6 a1_7 a1_8).bind fun bt224 => (some (bt221.1.toList == bt224.1.toList && (bt221.2.1.toList == bt224.2.1.toList && (bt221.2.2 == bt224.2.2)))))) else (some false)))) else (some false))) = some r := H
  have A5 := Aside0.mk A50
  clear A50
  replace H := Option.bind_eq_some_iff.mp H
  obtain ⟨t218, A60, H⟩ := H
  replace H : (if (t217 == t218) = true then ((origin_Text.f k a0_0 a0_1 a0_2).bind fun t219 => ((pursuivantref08_Text.f k a0_0 a0_1 a0_2).bind fun t220 => (if t219.toList = t220.toList then ((origin_Of.f k a1_0 a1_1 a1_2 a1_3 a1_4 a1_5 a1_6 a1_7 a1_8).bind fun bt221 => ((pursuivantref08_Of.f k a1_0 a1_1 a1_2 a1_3 a1_4 a1_5 a1_6 a1_7 a1_8).bind fun bt224 => (some (bt221.1.toList == bt224.1.toList && (bt221.2.1.toList == bt224.2.1.toList && (bt221.2.2 == bt224.2.2)))))) else (some false)))) else (some false)) = some r := H
  have A6 := Aside0.mk A60
  clear A60
  by_cases c7 : (t217 == t218) = true
  ·rw [if_pos c7] at H
   have c7b0 : (t217 == t218) = true := c7
   (try (have c7b1 : decide (t217 = t218) = true := by simpa using c7))
   (try (have c7b2 : (t217 == t218) = true := by simpa using c7))
   clear c7
   replace H := Option.bind_eq_some_iff.mp H
   obtain ⟨t219, A80, H⟩ := H
   replace H : ((pursuivantref08_Text.f k a0_0 a0_1 a0_2).bind fun t220 => (if t219.toList = t220.toList then ((origin_Of.f k a1_0 a1_1 a1_2 a1_3 a1_4 a1_5 a1_6 a1_7 a1_8).bind fun bt221 => ((pursuivantref08_Of.f k a1_0 a1_1 a1_2 a1_3 a1_4 a1_5 a1_6 a1_7 a1_8).bind fun bt224 => (some (bt221.1.toList == bt224.1.toList && (bt221.2.1.toList == bt224.2.1.toList && (bt221.2.2 == bt224.2.2)))))) else (some false))) = some r := H
   have A8 := Aside0.mk A80
   clear A80
   replace H := Option.bind_eq_some_iff.mp H
   obtain ⟨t220, A90, H⟩ := H
   replace H : (if t219.toList = t220.toList then ((origin_Of.f k a1_0 a1_1 a1_2 a1_3 a1_4 a1_5 a1_6 a1_7 a1_8).bind fun bt221 => ((pursuivantref08_Of.f k a1_0 a1_1 a1_2 a1_3 a1_4 a1_5 a1_6 a1_7 a1_8).bind fun bt224 => (some (bt221.1.toList == bt224.1.toList && (bt221.2.1.toList == bt224.2.1.toList && (bt221.2.2 == bt224.2.2)))))) else (some false)) = some r := H
   have A9 := Aside0.mk A90
   clear A90
   by_cases c10 : t219.toList = t220.toList
   ·rw [if_pos c10] at H
    have c10b0 : (t219.toList == t220.toList) = true := beq_iff_eq.mpr c10
    have c10b1 : (t219.toList != t220.toList) = false := bne_eq_false_iff_eq.mpr c10
    clear c10
    replace H := Option.bind_eq_some_iff.mp H
    obtain ⟨⟨t221, t222, t223⟩, A110, H⟩ := H
    replace H : ((pursuivantref08_Of.f k a1_0 a1_1 a1_2 a1_3 a1_4 a1_5 a1_6 a1_7 a1_8).bind fun bt224 => (some (t221.toList == bt224.1.toList && (t222.toList == bt224.2.1.toList && (t223 == bt224.2.2))))) = some r := H
    have A11 := Aside0.mk A110
    clear A110
    replace H := Option.bind_eq_some_iff.mp H
    obtain ⟨⟨t224, t225, t226⟩, A120, H⟩ := H
    replace H : (some (t221.toList == t224.toList && (t222.toList == t225.toList && (t223 == t226)))) = some r := H
    have A12 := Aside0.mk A120
    clear A120
    obtain rfl := Option.some.inj H
    go_enter Tryd.func12, Tryd.ntmps12
    try go_wp2_with (first | ((with_reducible refine gate_dst (N := 2) rfl ?_); refine box_event ?hg (N := 2) ?hd (cs := #[.string a0_0, .string a0_1, .int .i64 a0_2]) (t := 50) ?hr ?_; (case hd => rfl); (case hg => rfl); (case hr => first | (go_simp; done) | (go_simp; rfl)); intro gb214 hg w13 hbox hb; have n0_ := Aside0.mk (below_step z33_ hb); have n1_ := Aside0.mk (hbox); have n2_ := Aside0.mk ((by rw [hg]; exact (below_size z33_) : w.heap.size ≤ gb214)); have n3_ := Aside0.mk ((by rw [hg]; exact (below_size z33_) : w.heap.size ≤ gb214)); clear HB; have HB := n0_; have BK214 := n1_; have GW214 := n2_; have GE214 := n3_; clear n0_ n1_ n2_ n3_; clear hb hbox hg) | ((with_reducible refine gate_dst (N := 3) rfl ?_); refine box_event ?hg (N := 3) ?hd (cs := #[.string a1_0, .string a1_1, .string a1_2, .int .i64 a1_3, .string a1_4, .bool a1_5, .string a1_6, .bool a1_7, .string a1_8]) (t := 39) ?hr ?_; (case hd => rfl); (case hg => rfl); (case hr => first | (go_simp; done) | (go_simp; rfl)); intro gb215 hg w14 hbox hb; have n0_ := Aside0.mk (blk_below (g := gb214) (o := .cells #[.string a0_0, .string a0_1, .int .i64 a0_2] 50 (0, 0)) z54_ hb); have n1_ := Aside0.mk (below_step z30_ hb); have n2_ := Aside0.mk (hbox); have n3_ := Aside0.mk ((by rw [hg]; exact (below_size z30_) : w.heap.size ≤ gb215)); have n4_ := Aside0.mk ((by rw [hg]; exact (below_size z30_) : w.heap.size ≤ gb215)); have n5_ := Aside0.mk ((by rw [hg]; exact Nat.ne_of_lt (blk_lt (g := gb214) (o := .cells #[.string a0_0, .string a0_1, .int .i64 a0_2] 50 (0, 0)) z54_) : gb214 ≠ gb215)); have n6_ := Aside0.mk ((by rw [hg]; exact Nat.ne_of_gt (blk_lt (g := gb214) (o := .cells #[.string a0_0, .string a0_1, .int .i64 a0_2] 50 (0, 0)) z54_) : gb215 ≠ gb214)); clear BK214; clear HB; have BK214 := n0_; have HB := n1_; have BK215 := n2_; have GW215 := n3_; have GE215 := n4_; have NB214_215 := n5_; have NB215_214 := n6_; clear n0_ n1_ n2_ n3_ n4_ n5_ n6_; clear hb hbox hg))
    have n0_ := Aside0.mk (blk_drew BK214.out)
    have n1_ := Aside0.mk (blk_drew BK215.out)
    have n2_ := Aside0.mk (below_drew1 HB.out)
    clear BK214
    clear BK215
    clear HB
    have BK214 := n0_
    have BK215 := n1_
    have HB := n2_
    clear n0_ n1_ n2_
    refine start_ (n := 23) (S := fun w' => w'.cell? ⟨gb214, 0, none⟩ = some (.string a0_0) ∧ w'.cell? ⟨gb214, 1, none⟩ = some (.string a0_1) ∧ w'.cell? ⟨gb214, 2, none⟩ = some (.int .i64 a0_2) ∧ w'.cell? ⟨gb215, 0, none⟩ = some (.string a1_0) ∧ w'.cell? ⟨gb215, 1, none⟩ = some (.string a1_1) ∧ w'.cell? ⟨gb215, 2, none⟩ = some (.string a1_2) ∧ w'.cell? ⟨gb215, 3, none⟩ = some (.int .i64 a1_3) ∧ w'.cell? ⟨gb215, 4, none⟩ = some (.string a1_4) ∧ w'.cell? ⟨gb215, 5, none⟩ = some (.bool a1_5) ∧ w'.cell? ⟨gb215, 6, none⟩ = some (.string a1_6) ∧ w'.cell? ⟨gb215, 7, none⟩ = some (.bool a1_7) ∧ w'.cell? ⟨gb215, 8, none⟩ = some (.string a1_8)) (ds := []) #[false, false, false, false, false, false, false, false, false, false, false, false, false, false, false, false, false, false, false, false, false, false, false] (by kernel_rfl) rfl rfl ⟨(blk_cell BK214.out 0).trans rfl, (blk_cell BK214.out 1).trans rfl, (blk_cell BK214.out 2).trans rfl, (blk_cell BK215.out 0).trans rfl, (blk_cell BK215.out 1).trans rfl, (blk_cell BK215.out 2).trans rfl, (blk_cell BK215.out 3).trans rfl, (blk_cell BK215.out 4).trans rfl, (blk_cell BK215.out 5).trans rfl, (blk_cell BK215.out 6).trans rfl, (blk_cell BK215.out 7).trans rfl, (blk_cell BK215.out 8).trans rfl⟩ (fun hHeld => ?_); refine with_tabW pursuivantlaw08_OriginTexts.tab1 pursuivantlaw08_OriginTexts.bits1 (fun HT_ HW_ => ?_)
    generalize w14.drew = w15 at BK214 BK215 HB hHeld ⊢
    refine one_ (i := 0) (N := some 5) #[true, false, false, false, false, false, false, false, false, false, false, false, false, false, false, false, false, false, false, false, false, false, false] rfl rfl (one_of HT_.out (by kernel_rfl)) (by decide) (fun K hK => ?_)
    refine goes_ Tryd.func47 (by kernel_rfl) rfl #[] (by rfl) rfl rfl z32_ ?_
    with_reducible refine (pursuivantlaw08_awake.calls k  true _ ?gw46_ A3.out z67_).mono ?_
    case gw46_ => first | (with_reducible exact hG_) | ((with_reducible refine GW.below hG_ ?_); (repeat (first | (with_reducible exact HB.out) | (with_reducible apply below_alloc) | (with_reducible apply pw_below_drewN) | (with_reducible apply below_drew1) | (with_reducible apply below_drew) | (with_reducible exact Below.refl _ _) | (with_reducible refine below_set ?_ GE214.out) | (with_reducible refine below_set ?_ GE215.out))); done) | exact hG_ | (refine GW.below hG_ ?_; first | (with_reducible exact HB.out) | (repeat (first | (with_reducible first | exact HB.out | apply below_alloc | apply pw_below_drewN | apply below_drew1 | apply below_drew | exact Below.refl _ _) | exact HB.out))) | (apply GW.drewN; exact hG_) | (apply GW.drew; exact hG_)
    rintro e w16 ⟨rfl, hb⟩
    refine ⟨_, rfl, ?_⟩
    have n0_ := Aside0.mk (blk_below (g := gb214) (o := .cells #[.string a0_0, .string a0_1, .int .i64 a0_2] 50 (0, 0)) z54_ hb)
    have n1_ := Aside0.mk (blk_below (g := gb215) (o := .cells #[.string a1_0, .string a1_1, .string a1_2, .int .i64 a1_3, .string a1_4, .bool a1_5, .string a1_6, .bool a1_7, .string a1_8] 39 (0, 0)) z55_ hb)
    have n2_ := Aside0.mk (below_step z13_ hb)
    clear BK214
    clear BK215
    clear HB
    have BK214 := n0_
    have BK215 := n1_
    have HB := n2_
    clear n0_ n1_ n2_
    (try clear hb)
    (try clear hb2)
    (try clear hk)
    (try clear hi)
    refine hK.out _ _ ⟨(blk_cell BK214.out 0).trans rfl, (blk_cell BK214.out 1).trans rfl, (blk_cell BK214.out 2).trans rfl, (blk_cell BK215.out 0).trans rfl, (blk_cell BK215.out 1).trans rfl, (blk_cell BK215.out 2).trans rfl, (blk_cell BK215.out 3).trans rfl, (blk_cell BK215.out 4).trans rfl, (blk_cell BK215.out 5).trans rfl, (blk_cell BK215.out 6).trans rfl, (blk_cell BK215.out 7).trans rfl, (blk_cell BK215.out 8).trans rfl⟩ (fun hHeld => ?_)
    clear hK K
    refine norm_ (a' := ?_) ?_ ?_
    rotate_left
    ·show Act.put _ (some 5) _ = _
     simp only [Act.put, List.setIfInBounds_toArray, List.set_cons_zero, List.set_cons_succ, i64_w, i32_w]
     rfl
    refine pure_ (i := 1) (N := some 6) (v := ?_) (a' := ?_) #[true, true, false, false, false, false, false, false, false, false, false, false, false, false, false, false, false, false, false, false, false, false, false] rfl rfl (any_of HT_.out (by kernel_rfl)) (fun _ _ _ h => h) (Or.inl ⟨by rfl, ?_⟩) ?_ ?_
    rotate_left
    ·intro w'
     go_simp
     with_reducible rfl
    rotate_left
    ·simp only [Act.put, List.setIfInBounds_toArray, List.set_cons_zero, List.set_cons_succ, i64_w, i32_w]
     rfl
    refine take_ (i := 2) (N := some 7) (v := ?_) (a' := ?_) #[true, true, true, false, false, false, false, false, false, false, false, false, false, false, false, false, false, false, false, false, false, false, false] rfl rfl (take_ofW HT_.out HW_.out (by kernel_rfl)) (fun _ _ _ h => h) (Or.inl ⟨by rfl, ?_⟩) hHeld ?_ ?_
    rotate_left
    ·rintro w' ⟨s0, s1, s2, s3, s4, s5, s6, s7, s8, s9, s10, s11⟩
     go_simp
     with_reducible rfl
    rotate_left
    ·simp only [Act.put, List.setIfInBounds_toArray, List.set_cons_zero, List.set_cons_succ, i64_w, i32_w]
     rfl
    refine take_ (i := 4) (N := some 9) (v := ?_) (a' := ?_) #[true, true, true, false, true, false, false, false, false, false, false, false, false, false, false, false, false, false, false, false, false, false, false] rfl rfl (take_ofW HT_.out HW_.out (by kernel_rfl)) (fun _ _ _ h => h) (Or.inl ⟨by rfl, ?_⟩) hHeld ?_ ?_
    rotate_left
    ·rintro w' ⟨s0, s1, s2, s3, s4, s5, s6, s7, s8, s9, s10, s11⟩
     go_simp
     with_reducible rfl
    rotate_left
    ·simp only [Act.put, List.setIfInBounds_toArray, List.set_cons_zero, List.set_cons_succ, i64_w, i32_w]
     rfl
    refine one_ (i := 3) (N := some 8) #[true, true, true, true, true, false, false, false, false, false, false, false, false, false, false, false, false, false, false, false, false, false, false] rfl rfl (one_of HT_.out (by kernel_rfl)) (by decide) (fun K hK => ?_)
    refine goes_ Tryd.func48 (by kernel_rfl) rfl #[.agg #[.string a0_0, .string a0_1, .int .i64 a0_2]] (by rfl) rfl rfl z32_ ?_
    with_reducible refine (origin_Good.calls k a0_0 a0_1 a0_2 t217 _ ?gw47_ A5.out).mono ?_
    case gw47_ => first | (with_reducible exact hG_) | ((with_reducible refine GW.below hG_ ?_); (repeat (first | (with_reducible exact HB.out) | (with_reducible apply below_alloc) | (with_reducible apply pw_below_drewN) | (with_reducible apply below_drew1) | (with_reducible apply below_drew) | (with_reducible exact Below.refl _ _) | (with_reducible refine below_set ?_ GE214.out) | (with_reducible refine below_set ?_ GE215.out))); done) | exact hG_ | (refine GW.below hG_ ?_; first | (with_reducible exact HB.out) | (repeat (first | (with_reducible first | exact HB.out | apply below_alloc | apply pw_below_drewN | apply below_drew1 | apply below_drew | exact Below.refl _ _) | exact HB.out))) | (apply GW.drewN; exact hG_) | (apply GW.drew; exact hG_)
    rintro e w17 ⟨rfl, hb⟩
    refine ⟨_, rfl, ?_⟩
    have n0_ := Aside0.mk (blk_below (g := gb214) (o := .cells #[.string a0_0, .string a0_1, .int .i64 a0_2] 50 (0, 0)) z54_ hb)
    have n1_ := Aside0.mk (blk_below (g := gb215) (o := .cells #[.string a1_0, .string a1_1, .string a1_2, .int .i64 a1_3, .string a1_4, .bool a1_5, .string a1_6, .bool a1_7, .string a1_8] 39 (0, 0)) z55_ hb)
    have n2_ := Aside0.mk (below_step z13_ hb)
    clear BK214
    clear BK215
    clear HB
    have BK214 := n0_
    have BK215 := n1_
    have HB := n2_
    clear n0_ n1_ n2_
    (try clear hb)
    (try clear hb2)
    (try clear hk)
    (try clear hi)
    refine hK.out _ _ ⟨(blk_cell BK214.out 0).trans rfl, (blk_cell BK214.out 1).trans rfl, (blk_cell BK214.out 2).trans rfl, (blk_cell BK215.out 0).trans rfl, (blk_cell BK215.out 1).trans rfl, (blk_cell BK215.out 2).trans rfl, (blk_cell BK215.out 3).trans rfl, (blk_cell BK215.out 4).trans rfl, (blk_cell BK215.out 5).trans rfl, (blk_cell BK215.out 6).trans rfl, (blk_cell BK215.out 7).trans rfl, (blk_cell BK215.out 8).trans rfl⟩ (fun hHeld => ?_)
    clear hK K
    refine norm_ (a' := ?_) ?_ ?_
    rotate_left
    ·show Act.put _ (some 8) _ = _
     simp only [Act.put, List.setIfInBounds_toArray, List.set_cons_zero, List.set_cons_succ, i64_w, i32_w]
     rfl
    refine one_ (i := 5) (N := some 10) #[true, true, true, true, true, true, false, false, false, false, false, false, false, false, false, false, false, false, false, false, false, false, false] rfl rfl (one_of HT_.out (by kernel_rfl)) (by decide) (fun K hK => ?_)
    refine goes_ Tryd.func49 (by kernel_rfl) rfl #[.agg #[.string a0_0, .string a0_1, .int .i64 a0_2]] (by rfl) rfl rfl z32_ ?_
    with_reducible refine (pursuivantref08_Good.calls k a0_0 a0_1 a0_2 t218 _ ?gw48_ A6.out).mono ?_
    case gw48_ => first | (with_reducible exact hG_) | ((with_reducible refine GW.below hG_ ?_); (repeat (first | (with_reducible exact HB.out) | (with_reducible apply below_alloc) | (with_reducible apply pw_below_drewN) | (with_reducible apply below_drew1) | (with_reducible apply below_drew) | (with_reducible exact Below.refl _ _) | (with_reducible refine below_set ?_ GE214.out) | (with_reducible refine below_set ?_ GE215.out))); done) | exact hG_ | (refine GW.below hG_ ?_; first | (with_reducible exact HB.out) | (repeat (first | (with_reducible first | exact HB.out | apply below_alloc | apply pw_below_drewN | apply below_drew1 | apply below_drew | exact Below.refl _ _) | exact HB.out))) | (apply GW.drewN; exact hG_) | (apply GW.drew; exact hG_)
    rintro e w18 ⟨rfl, hb⟩
    refine ⟨_, rfl, ?_⟩
    have n0_ := Aside0.mk (blk_below (g := gb214) (o := .cells #[.string a0_0, .string a0_1, .int .i64 a0_2] 50 (0, 0)) z54_ hb)
    have n1_ := Aside0.mk (blk_below (g := gb215) (o := .cells #[.string a1_0, .string a1_1, .string a1_2, .int .i64 a1_3, .string a1_4, .bool a1_5, .string a1_6, .bool a1_7, .string a1_8] 39 (0, 0)) z55_ hb)
    have n2_ := Aside0.mk (below_step z13_ hb)
    clear BK214
    clear BK215
    clear HB
    have BK214 := n0_
    have BK215 := n1_
    have HB := n2_
    clear n0_ n1_ n2_
    (try clear hb)
    (try clear hb2)
    (try clear hk)
    (try clear hi)
    refine hK.out _ _ ⟨(blk_cell BK214.out 0).trans rfl, (blk_cell BK214.out 1).trans rfl, (blk_cell BK214.out 2).trans rfl, (blk_cell BK215.out 0).trans rfl, (blk_cell BK215.out 1).trans rfl, (blk_cell BK215.out 2).trans rfl, (blk_cell BK215.out 3).trans rfl, (blk_cell BK215.out 4).trans rfl, (blk_cell BK215.out 5).trans rfl, (blk_cell BK215.out 6).trans rfl, (blk_cell BK215.out 7).trans rfl, (blk_cell BK215.out 8).trans rfl⟩ (fun hHeld => ?_)
    clear hK K
    refine norm_ (a' := ?_) ?_ ?_
    rotate_left
    ·show Act.put _ (some 10) _ = _
     simp only [Act.put, List.setIfInBounds_toArray, List.set_cons_zero, List.set_cons_succ, i64_w, i32_w]
     rfl
    refine pure_ (i := 6) (N := some 11) (v := ?_) (a' := ?_) #[true, true, true, true, true, true, true, false, false, false, false, false, false, false, false, false, false, false, false, false, false, false, false] rfl rfl (any_of HT_.out (by kernel_rfl)) (fun _ _ _ h => h) (Or.inl ⟨by rfl, ?_⟩) ?_ ?_
    rotate_left
    ·intro w'
     go_simp
     with_reducible rfl
    rotate_left
    ·simp only [Act.put, List.setIfInBounds_toArray, List.set_cons_zero, List.set_cons_succ, i64_w, i32_w]
     rfl
    refine pure_ (i := 7) (N := some 12) (v := ?_) (a' := ?_) #[true, true, true, true, true, true, true, true, false, false, false, false, false, false, false, false, false, false, false, false, false, false, false] rfl rfl (any_of HT_.out (by kernel_rfl)) (fun _ _ _ h => h) (Or.inl ⟨by rfl, ?_⟩) ?_ ?_
    rotate_left
    ·intro w'
     go_simp
     with_reducible rfl
    rotate_left
    ·simp only [Act.put, List.setIfInBounds_toArray, List.set_cons_zero, List.set_cons_succ, i64_w, i32_w]
     rfl
    refine pure_ (i := 8) (N := some 13) (v := ?_) (a' := ?_) #[true, true, true, true, true, true, true, true, true, false, false, false, false, false, false, false, false, false, false, false, false, false, false] rfl rfl (any_of HT_.out (by kernel_rfl)) (fun _ _ _ h => h) (Or.inl ⟨by rfl, ?_⟩) ?_ ?_
    rotate_left
    ·intro w'
     go_simp
     with_reducible rfl
    rotate_left
    ·simp only [Act.put, List.setIfInBounds_toArray, List.set_cons_zero, List.set_cons_succ, i64_w, i32_w]
     rfl
    refine take_ (i := 9) (N := some 14) (v := ?_) (a' := ?_) #[true, true, true, true, true, true, true, true, true, true, false, false, false, false, false, false, false, false, false, false, false, false, false] rfl rfl (take_ofW HT_.out HW_.out (by kernel_rfl)) (fun _ _ _ h => h) (Or.inl ⟨by rfl, ?_⟩) hHeld ?_ ?_
    rotate_left
    ·rintro w' ⟨s0, s1, s2, s3, s4, s5, s6, s7, s8, s9, s10, s11⟩
     go_simp
     with_reducible rfl
    rotate_left
    ·simp only [Act.put, List.setIfInBounds_toArray, List.set_cons_zero, List.set_cons_succ, i64_w, i32_w]
     rfl
    refine take_ (i := 11) (N := some 16) (v := ?_) (a' := ?_) #[true, true, true, true, true, true, true, true, true, true, false, true, false, false, false, false, false, false, false, false, false, false, false] rfl rfl (take_ofW HT_.out HW_.out (by kernel_rfl)) (fun _ _ _ h => h) (Or.inl ⟨by rfl, ?_⟩) hHeld ?_ ?_
    rotate_left
    ·rintro w' ⟨s0, s1, s2, s3, s4, s5, s6, s7, s8, s9, s10, s11⟩
     go_simp
     with_reducible rfl
    rotate_left
    ·simp only [Act.put, List.setIfInBounds_toArray, List.set_cons_zero, List.set_cons_succ, i64_w, i32_w]
     rfl
    refine one_ (i := 10) (N := some 15) #[true, true, true, true, true, true, true, true, true, true, true, true, false, false, false, false, false, false, false, false, false, false, false] rfl rfl (one_of HT_.out (by kernel_rfl)) (by decide) (fun K hK => ?_)
    refine goes_ Tryd.func50 (by kernel_rfl) rfl #[.agg #[.string a0_0, .string a0_1, .int .i64 a0_2]] (by rfl) rfl rfl z32_ ?_
    with_reducible refine (origin_Text.calls k a0_0 a0_1 a0_2 t219 _ ?gw49_ A8.out).mono ?_
    case gw49_ => first | (with_reducible exact hG_) | ((with_reducible refine GW.below hG_ ?_); (repeat (first | (with_reducible exact HB.out) | (with_reducible apply below_alloc) | (with_reducible apply pw_below_drewN) | (with_reducible apply below_drew1) | (with_reducible apply below_drew) | (with_reducible exact Below.refl _ _) | (with_reducible refine below_set ?_ GE214.out) | (with_reducible refine below_set ?_ GE215.out))); done) | exact hG_ | (refine GW.below hG_ ?_; first | (with_reducible exact HB.out) | (repeat (first | (with_reducible first | exact HB.out | apply below_alloc | apply pw_below_drewN | apply below_drew1 | apply below_drew | exact Below.refl _ _) | exact HB.out))) | (apply GW.drewN; exact hG_) | (apply GW.drew; exact hG_)
    rintro e w19 ⟨rfl, hb⟩
    refine ⟨_, rfl, ?_⟩
    have n0_ := Aside0.mk (blk_below (g := gb214) (o := .cells #[.string a0_0, .string a0_1, .int .i64 a0_2] 50 (0, 0)) z54_ hb)
    have n1_ := Aside0.mk (blk_below (g := gb215) (o := .cells #[.string a1_0, .string a1_1, .string a1_2, .int .i64 a1_3, .string a1_4, .bool a1_5, .string a1_6, .bool a1_7, .string a1_8] 39 (0, 0)) z55_ hb)
    have n2_ := Aside0.mk (below_step z13_ hb)
    clear BK214
    clear BK215
    clear HB
    have BK214 := n0_
    have BK215 := n1_
    have HB := n2_
    clear n0_ n1_ n2_
    (try clear hb)
    (try clear hb2)
    (try clear hk)
    (try clear hi)
    refine hK.out _ _ ⟨(blk_cell BK214.out 0).trans rfl, (blk_cell BK214.out 1).trans rfl, (blk_cell BK214.out 2).trans rfl, (blk_cell BK215.out 0).trans rfl, (blk_cell BK215.out 1).trans rfl, (blk_cell BK215.out 2).trans rfl, (blk_cell BK215.out 3).trans rfl, (blk_cell BK215.out 4).trans rfl, (blk_cell BK215.out 5).trans rfl, (blk_cell BK215.out 6).trans rfl, (blk_cell BK215.out 7).trans rfl, (blk_cell BK215.out 8).trans rfl⟩ (fun hHeld => ?_)
    clear hK K
    refine norm_ (a' := ?_) ?_ ?_
    rotate_left
    ·show Act.put _ (some 15) _ = _
     simp only [Act.put, List.setIfInBounds_toArray, List.set_cons_zero, List.set_cons_succ, i64_w, i32_w]
     rfl
    refine one_ (i := 12) (N := some 17) #[true, true, true, true, true, true, true, true, true, true, true, true, true, false, false, false, false, false, false, false, false, false, false] rfl rfl (one_of HT_.out (by kernel_rfl)) (by decide) (fun K hK => ?_)
    refine goes_ Tryd.func51 (by kernel_rfl) rfl #[.agg #[.string a0_0, .string a0_1, .int .i64 a0_2]] (by rfl) rfl rfl z32_ ?_
    with_reducible refine (pursuivantref08_Text.calls k a0_0 a0_1 a0_2 t220 _ ?gw50_ A9.out).mono ?_
    case gw50_ => first | (with_reducible exact hG_) | ((with_reducible refine GW.below hG_ ?_); (repeat (first | (with_reducible exact HB.out) | (with_reducible apply below_alloc) | (with_reducible apply pw_below_drewN) | (with_reducible apply below_drew1) | (with_reducible apply below_drew) | (with_reducible exact Below.refl _ _) | (with_reducible refine below_set ?_ GE214.out) | (with_reducible refine below_set ?_ GE215.out))); done) | exact hG_ | (refine GW.below hG_ ?_; first | (with_reducible exact HB.out) | (repeat (first | (with_reducible first | exact HB.out | apply below_alloc | apply pw_below_drewN | apply below_drew1 | apply below_drew | exact Below.refl _ _) | exact HB.out))) | (apply GW.drewN; exact hG_) | (apply GW.drew; exact hG_)
    rintro e w20 ⟨rfl, hb⟩
    refine ⟨_, rfl, ?_⟩
    have n0_ := Aside0.mk (blk_below (g := gb214) (o := .cells #[.string a0_0, .string a0_1, .int .i64 a0_2] 50 (0, 0)) z54_ hb)
    have n1_ := Aside0.mk (blk_below (g := gb215) (o := .cells #[.string a1_0, .string a1_1, .string a1_2, .int .i64 a1_3, .string a1_4, .bool a1_5, .string a1_6, .bool a1_7, .string a1_8] 39 (0, 0)) z55_ hb)
    have n2_ := Aside0.mk (below_step z13_ hb)
    clear BK214
    clear BK215
    clear HB
    have BK214 := n0_
    have BK215 := n1_
    have HB := n2_
    clear n0_ n1_ n2_
    (try clear hb)
    (try clear hb2)
    (try clear hk)
    (try clear hi)
    refine hK.out _ _ ⟨(blk_cell BK214.out 0).trans rfl, (blk_cell BK214.out 1).trans rfl, (blk_cell BK214.out 2).trans rfl, (blk_cell BK215.out 0).trans rfl, (blk_cell BK215.out 1).trans rfl, (blk_cell BK215.out 2).trans rfl, (blk_cell BK215.out 3).trans rfl, (blk_cell BK215.out 4).trans rfl, (blk_cell BK215.out 5).trans rfl, (blk_cell BK215.out 6).trans rfl, (blk_cell BK215.out 7).trans rfl, (blk_cell BK215.out 8).trans rfl⟩ (fun hHeld => ?_)
    clear hK K
    refine norm_ (a' := ?_) ?_ ?_
    rotate_left
    ·show Act.put _ (some 17) _ = _
     simp only [Act.put, List.setIfInBounds_toArray, List.set_cons_zero, List.set_cons_succ, i64_w, i32_w]
     rfl
    refine pure_ (i := 13) (N := some 18) (v := ?_) (a' := ?_) #[true, true, true, true, true, true, true, true, true, true, true, true, true, true, false, false, false, false, false, false, false, false, false] rfl rfl (any_of HT_.out (by kernel_rfl)) (fun _ _ _ h => h) (Or.inl ⟨by rfl, ?_⟩) ?_ ?_
    rotate_left
    ·intro w'
     go_simp
     with_reducible rfl
    rotate_left
    ·simp only [Act.put, List.setIfInBounds_toArray, List.set_cons_zero, List.set_cons_succ, i64_w, i32_w]
     rfl
    refine pure_ (i := 14) (N := some 19) (v := ?_) (a' := ?_) #[true, true, true, true, true, true, true, true, true, true, true, true, true, true, true, false, false, false, false, false, false, false, false] rfl rfl (any_of HT_.out (by kernel_rfl)) (fun _ _ _ h => h) (Or.inl ⟨by rfl, ?_⟩) ?_ ?_
    rotate_left
    ·intro w'
     go_simp
     with_reducible rfl
    rotate_left
    ·simp only [Act.put, List.setIfInBounds_toArray, List.set_cons_zero, List.set_cons_succ, i64_w, i32_w]
     rfl
    refine pure_ (i := 15) (N := some 20) (v := ?_) (a' := ?_) #[true, true, true, true, true, true, true, true, true, true, true, true, true, true, true, true, false, false, false, false, false, false, false] rfl rfl (any_of HT_.out (by kernel_rfl)) (fun _ _ _ h => h) (Or.inl ⟨by rfl, ?_⟩) ?_ ?_
    rotate_left
    ·intro w'
     go_simp
     with_reducible rfl
    rotate_left
    ·simp only [Act.put, List.setIfInBounds_toArray, List.set_cons_zero, List.set_cons_succ, i64_w, i32_w]
     rfl
    refine take_ (i := 16) (N := some 21) (v := ?_) (a' := ?_) #[true, true, true, true, true, true, true, true, true, true, true, true, true, true, true, true, true, false, false, false, false, false, false] rfl rfl (take_ofW HT_.out HW_.out (by kernel_rfl)) (fun _ _ _ h => h) (Or.inl ⟨by rfl, ?_⟩) hHeld ?_ ?_
    rotate_left
    ·rintro w' ⟨s0, s1, s2, s3, s4, s5, s6, s7, s8, s9, s10, s11⟩
     go_simp
     with_reducible rfl
    rotate_left
    ·simp only [Act.put, List.setIfInBounds_toArray, List.set_cons_zero, List.set_cons_succ, i64_w, i32_w]
     rfl
    refine take_ (i := 18) (N := some 23) (v := ?_) (a' := ?_) #[true, true, true, true, true, true, true, true, true, true, true, true, true, true, true, true, true, false, true, false, false, false, false] rfl rfl (take_ofW HT_.out HW_.out (by kernel_rfl)) (fun _ _ _ h => h) (Or.inl ⟨by rfl, ?_⟩) hHeld ?_ ?_
    rotate_left
    ·rintro w' ⟨s0, s1, s2, s3, s4, s5, s6, s7, s8, s9, s10, s11⟩
     go_simp
     with_reducible rfl
    rotate_left
    ·simp only [Act.put, List.setIfInBounds_toArray, List.set_cons_zero, List.set_cons_succ, i64_w, i32_w]
     rfl
    refine one_ (i := 17) (N := some 22) #[true, true, true, true, true, true, true, true, true, true, true, true, true, true, true, true, true, true, true, false, false, false, false] rfl rfl (one_of HT_.out (by kernel_rfl)) (by decide) (fun K hK => ?_)
    refine goes_ Tryd.func52 (by kernel_rfl) rfl #[.agg #[.string a1_0, .string a1_1, .string a1_2, .int .i64 a1_3, .string a1_4, .bool a1_5, .string a1_6, .bool a1_7, .string a1_8]] (by rfl) rfl rfl z32_ ?_
    with_reducible refine (origin_Of.calls k a1_0 a1_1 a1_2 a1_3 a1_4 a1_5 a1_6 a1_7 a1_8 t221 t222 t223 _ ?gw51_ A11.out).mono ?_
    case gw51_ => first | (with_reducible exact hG_) | ((with_reducible refine GW.below hG_ ?_); (repeat (first | (with_reducible exact HB.out) | (with_reducible apply below_alloc) | (with_reducible apply pw_below_drewN) | (with_reducible apply below_drew1) | (with_reducible apply below_drew) | (with_reducible exact Below.refl _ _) | (with_reducible refine below_set ?_ GE214.out) | (with_reducible refine below_set ?_ GE215.out))); done) | exact hG_ | (refine GW.below hG_ ?_; first | (with_reducible exact HB.out) | (repeat (first | (with_reducible first | exact HB.out | apply below_alloc | apply pw_below_drewN | apply below_drew1 | apply below_drew | exact Below.refl _ _) | exact HB.out))) | (apply GW.drewN; exact hG_) | (apply GW.drew; exact hG_)
    rintro e w21 ⟨rfl, hb⟩
    refine ⟨_, rfl, ?_⟩
    have n0_ := Aside0.mk (blk_below (g := gb214) (o := .cells #[.string a0_0, .string a0_1, .int .i64 a0_2] 50 (0, 0)) z54_ hb)
    have n1_ := Aside0.mk (blk_below (g := gb215) (o := .cells #[.string a1_0, .string a1_1, .string a1_2, .int .i64 a1_3, .string a1_4, .bool a1_5, .string a1_6, .bool a1_7, .string a1_8] 39 (0, 0)) z55_ hb)
    have n2_ := Aside0.mk (below_step z13_ hb)
    clear BK214
    clear BK215
    clear HB
    have BK214 := n0_
    have BK215 := n1_
    have HB := n2_
    clear n0_ n1_ n2_
    (try clear hb)
    (try clear hb2)
    (try clear hk)
    (try clear hi)
    refine hK.out _ _ ⟨(blk_cell BK214.out 0).trans rfl, (blk_cell BK214.out 1).trans rfl, (blk_cell BK214.out 2).trans rfl, (blk_cell BK215.out 0).trans rfl, (blk_cell BK215.out 1).trans rfl, (blk_cell BK215.out 2).trans rfl, (blk_cell BK215.out 3).trans rfl, (blk_cell BK215.out 4).trans rfl, (blk_cell BK215.out 5).trans rfl, (blk_cell BK215.out 6).trans rfl, (blk_cell BK215.out 7).trans rfl, (blk_cell BK215.out 8).trans rfl⟩ (fun hHeld => ?_)
    clear hK K
    refine norm_ (a' := ?_) ?_ ?_
    rotate_left
    ·show Act.put _ (some 22) _ = _
     simp only [Act.put, List.setIfInBounds_toArray, List.set_cons_zero, List.set_cons_succ, i64_w, i32_w]
     rfl
    refine one_ (i := 19) (N := some 24) #[true, true, true, true, true, true, true, true, true, true, true, true, true, true, true, true, true, true, true, true, false, false, false] rfl rfl (one_of HT_.out (by kernel_rfl)) (by decide) (fun K hK => ?_)
    refine goes_ Tryd.func53 (by kernel_rfl) rfl #[.agg #[.string a1_0, .string a1_1, .string a1_2, .int .i64 a1_3, .string a1_4, .bool a1_5, .string a1_6, .bool a1_7, .string a1_8]] (by rfl) rfl rfl z32_ ?_
    with_reducible refine (pursuivantref08_Of.calls k a1_0 a1_1 a1_2 a1_3 a1_4 a1_5 a1_6 a1_7 a1_8 t224 t225 t226 _ ?gw52_ A12.out).mono ?_
    case gw52_ => first | (with_reducible exact hG_) | ((with_reducible refine GW.below hG_ ?_); (repeat (first | (with_reducible exact HB.out) | (with_reducible apply below_alloc) | (with_reducible apply pw_below_drewN) | (with_reducible apply below_drew1) | (with_reducible apply below_drew) | (with_reducible exact Below.refl _ _) | (with_reducible refine below_set ?_ GE214.out) | (with_reducible refine below_set ?_ GE215.out))); done) | exact hG_ | (refine GW.below hG_ ?_; first | (with_reducible exact HB.out) | (repeat (first | (with_reducible first | exact HB.out | apply below_alloc | apply pw_below_drewN | apply below_drew1 | apply below_drew | exact Below.refl _ _) | exact HB.out))) | (apply GW.drewN; exact hG_) | (apply GW.drew; exact hG_)
    rintro e w22 ⟨rfl, hb⟩
    refine ⟨_, rfl, ?_⟩
    have n0_ := Aside0.mk (blk_below (g := gb214) (o := .cells #[.string a0_0, .string a0_1, .int .i64 a0_2] 50 (0, 0)) z54_ hb)
    have n1_ := Aside0.mk (blk_below (g := gb215) (o := .cells #[.string a1_0, .string a1_1, .string a1_2, .int .i64 a1_3, .string a1_4, .bool a1_5, .string a1_6, .bool a1_7, .string a1_8] 39 (0, 0)) z55_ hb)
    have n2_ := Aside0.mk (below_step z13_ hb)
    clear BK214
    clear BK215
    clear HB
    have BK214 := n0_
    have BK215 := n1_
    have HB := n2_
    clear n0_ n1_ n2_
    (try clear hb)
    (try clear hb2)
    (try clear hk)
    (try clear hi)
    refine hK.out _ _ ⟨(blk_cell BK214.out 0).trans rfl, (blk_cell BK214.out 1).trans rfl, (blk_cell BK214.out 2).trans rfl, (blk_cell BK215.out 0).trans rfl, (blk_cell BK215.out 1).trans rfl, (blk_cell BK215.out 2).trans rfl, (blk_cell BK215.out 3).trans rfl, (blk_cell BK215.out 4).trans rfl, (blk_cell BK215.out 5).trans rfl, (blk_cell BK215.out 6).trans rfl, (blk_cell BK215.out 7).trans rfl, (blk_cell BK215.out 8).trans rfl⟩ (fun hHeld => ?_)
    clear hK K
    refine norm_ (a' := ?_) ?_ ?_
    rotate_left
    ·show Act.put _ (some 24) _ = _
     simp only [Act.put, List.setIfInBounds_toArray, List.set_cons_zero, List.set_cons_succ, i64_w, i32_w]
     rfl
    refine pure_ (i := 20) (N := some 25) (v := ?_) (a' := ?_) #[true, true, true, true, true, true, true, true, true, true, true, true, true, true, true, true, true, true, true, true, true, false, false] rfl rfl (any_of HT_.out (by kernel_rfl)) (fun _ _ _ h => h) (Or.inl ⟨by rfl, ?_⟩) ?_ ?_
    rotate_left
    ·intro w'
     go_simp
     with_reducible rfl
    rotate_left
    ·simp only [Act.put, List.setIfInBounds_toArray, List.set_cons_zero, List.set_cons_succ, i64_w, i32_w]
     rfl
    refine pure_ (i := 21) (N := some 26) (v := ?_) (a' := ?_) #[true, true, true, true, true, true, true, true, true, true, true, true, true, true, true, true, true, true, true, true, true, true, false] rfl rfl (any_of HT_.out (by kernel_rfl)) (fun _ _ _ h => h) (Or.inl ⟨by rfl, ?_⟩) ?_ ?_
    rotate_left
    ·intro w'
     go_simp
     with_reducible rfl
    rotate_left
    ·simp only [Act.put, List.setIfInBounds_toArray, List.set_cons_zero, List.set_cons_succ, i64_w, i32_w]
     rfl
    refine pure_ (i := 22) (N := some 4) (v := ?_) (a' := ?_) #[true, true, true, true, true, true, true, true, true, true, true, true, true, true, true, true, true, true, true, true, true, true, true] rfl rfl (any_of HT_.out (by kernel_rfl)) (fun _ _ _ h => h) (Or.inl ⟨by rfl, ?_⟩) ?_ ?_
    rotate_left
    ·intro w'
     go_simp
     with_reducible rfl
    rotate_left
    ·simp only [Act.put, List.setIfInBounds_toArray, List.set_cons_zero, List.set_cons_succ, i64_w, i32_w]
     rfl
    refine done_ (done_of HT_.out (by kernel_rfl)) ?_
    try go_wp2
    go_ret
    exact ⟨z34_, z13_⟩
   ·rw [if_neg c10] at H
    have c10b0 : (t219.toList == t220.toList) = false := beq_eq_false_iff_ne.mpr c10
    have c10b1 : (t219.toList != t220.toList) = true := bne_iff_ne.mpr c10
    exact absurd ((Option.some.inj H).trans hr_) Bool.false_ne_true
  ·rw [if_neg c7] at H
   have c7b0 : (t217 == t218) = false := by simpa using c7
   (try (have c7b1 : decide (t217 = t218) = false := by simpa using c7))
   (try (have c7b2 : (t217 == t218) = false := by simpa using c7))
   (try (have c7b3 : ¬ (t217 = t218) := by simpa using c7))
   clear c7
   exact absurd ((Option.some.inj H).trans hr_) Bool.false_ne_true
 ·replace c4 := Bool.eq_false_iff.mpr c4
  subst c4
  have H1 : (some false) = some r := by rw [if_neg (show ¬ (false = true) by decide)] at H; exact H
  clear H
  have H := H1
  clear H1
  exact absurd ((Option.some.inj H).trans hr_) Bool.false_ne_true

/-! ### pursuivantlaw08_OriginSame: function 14 -/
mutual
def pursuivantlaw08_OriginSame.j0 : Nat → Bool → ByteArray → ByteArray → Int → ByteArray → ByteArray → Int → Option (Bool)
 | 0, _, _, _, _, _, _, _ => none
 | k + 1, x22, x228000, x228001, x228002, x229000, x229001, x229002 => if x22 = true then (some false) else ((origin_Good.f k x228000 x228001 x228002).bind fun t233 => (if t233 = true then ((origin_Good.f k x229000 x229001 x229002).bind fun t234 => (pursuivantlaw08_OriginSame.j1 k (!t234) x228000 x228001 x228002 x229000 x229001 x229002)) else (pursuivantlaw08_OriginSame.j1 k true x228000 x228001 x228002 x229000 x229001 x229002)))
def pursuivantlaw08_OriginSame.j1 : Nat → Bool → ByteArray → ByteArray → Int → ByteArray → ByteArray → Int → Option (Bool)
 | 0, _, _, _, _, _, _, _ => none
 | k + 1, x30, x228000, x228001, x228002, x229000, x229001, x229002 => if x30 = true then ((pursuivantlaw08_awake.f k).bind fun t235 => (some t235)) else ((origin_Text.f k x228000 x228001 x228002).bind fun t236 => ((origin_Parse.f k t236).bind fun bt237 => ((pursuivantlaw08_awake.f k).bind fun t242 => (if t242 = true then (if (bt237.1.toList == x228000.toList && (bt237.2.1.toList == x228001.toList && (bt237.2.2.1 == x228002))) = true then (if bt237.2.2.2 = 0 then ((origin_Text.f k x228000 x228001 x228002).bind fun t243 => ((origin_Text.f k x229000 x229001 x229002).bind fun t244 => (some ((t243.toList == t244.toList) == (x228000.toList == x229000.toList && (x228001.toList == x229001.toList && (x228002 == x229002))))))) else (some false)) else (some false)) else (some false)))))
end
def pursuivantlaw08_OriginSame.f (k : Nat) (a0_0 : ByteArray) (a0_1 : ByteArray) (a0_2 : Int) (a1_0 : ByteArray) (a1_1 : ByteArray) (a1_2 : Int) : Option (Bool) := (origin_Same.f k a0_0 a0_1 a0_2 a1_0 a1_1 a1_2).bind fun t229 => ((pursuivantref08_Same.f k a0_0 a0_1 a0_2 a1_0 a1_1 a1_2).bind fun t230 => (if (t229 != t230) = true then (pursuivantlaw08_OriginSame.j0 k true a0_0 a0_1 a0_2 a1_0 a1_1 a1_2) else ((origin_Same.f k a0_0 a0_1 a0_2 a1_0 a1_1 a1_2).bind fun t231 => ((origin_Same.f k a1_0 a1_1 a1_2 a0_0 a0_1 a0_2).bind fun t232 => (pursuivantlaw08_OriginSame.j0 k (t231 != t232) a0_0 a0_1 a0_2 a1_0 a1_1 a1_2)))))
def pursuivantlaw08_OriginSame.T1 : Bool × List (List Nat × List Nat) := (true, [([], []), ([], []), ([0, 1], [0, 1]), ([], []), ([], []), ([3, 4, 2], [3, 4]), ([2, 5], [2, 5]), ([6, 5], [6]), ([7], [7]), ([7], [7]), ([8, 9, 7, 7], [7, 8, 9]), ([7], [7]), ([7], [7]), ([11, 12, 10, 7], [7, 11, 12]), ([10, 13, 7], [7, 10, 13]), ([7, 14], [7, 14])])
def pursuivantlaw08_OriginSame.B1 : List Nat := [0, 0, 3, 0, 0, 31, 63, 127, 255, 255, 1023, 255, 255, 8191, 16383, 32767]
theorem pursuivantlaw08_OriginSame.tab1 : rtab .any (opsOf Tryd.f14 1) = pursuivantlaw08_OriginSame.T1 := by kernel_rfl
theorem pursuivantlaw08_OriginSame.bits1 : waitsOk pursuivantlaw08_OriginSame.T1.2 pursuivantlaw08_OriginSame.B1 = true := by kernel_rfl
def pursuivantlaw08_OriginSame.T6 : Bool × List (List Nat × List Nat) := (true, [([], []), ([0, 0], [0]), ([1], [1]), ([1], [1]), ([2, 3, 1], [1, 2, 3]), ([1, 4], [1, 4]), ([5, 1], [5]), ([6], [6]), ([7, 6], [6, 7]), ([6, 8], [6, 8]), ([9, 6], [9]), ([10], [10]), ([11, 10, 10], [10, 11]), ([10], [10]), ([13, 12, 10], [10, 13]), ([12, 14, 10], [10, 12, 14]), ([10], [10]), ([10], [10]), ([16, 17, 10], [10, 16, 17]), ([15, 18, 10], [10, 15, 18]), ([10, 19], [10, 19]), ([20, 14, 0, 1, 2, 3, 4, 5, 6, 7, 8, 9, 10, 11, 12, 13, 14, 15, 16, 17, 18, 19, 20], [20])])
def pursuivantlaw08_OriginSame.B6 : List Nat := [0, 1, 3, 3, 15, 31, 63, 127, 255, 511, 1023, 2047, 4095, 2047, 16383, 32767, 2047, 2047, 198655, 524287, 1048575, 2097151]
theorem pursuivantlaw08_OriginSame.tab6 : rtab .any (opsOf Tryd.f14 6) = pursuivantlaw08_OriginSame.T6 := by kernel_rfl
theorem pursuivantlaw08_OriginSame.bits6 : waitsOk pursuivantlaw08_OriginSame.T6.2 pursuivantlaw08_OriginSame.B6 = true := by kernel_rfl
set_option maxHeartbeats 8000000 in
set_option maxRecDepth 100000 in
theorem pursuivantlaw08_OriginSame.calls (k : Nat) (a0_0 : ByteArray) (a0_1 : ByteArray) (a0_2 : Int) (a1_0 : ByteArray) (a1_1 : ByteArray) (a1_2 : Int) (r : Bool) (w : World) (hG_ : GW w) (h : pursuivantlaw08_OriginSame.f k a0_0 a0_1 a0_2 a1_0 a1_1 a1_2 = some r) (hr_ : r = true) :
  Calls Tryd.prog 14 #[.agg #[.string a0_0, .string a0_1, .int .i64 a0_2], .agg #[.string a1_0, .string a1_1, .int .i64 a1_2]] w fun e w' => e = .returned (.bool r) ∧ Below w.heap.size w w' := by
 have hu50 := Tryd.underlying50
 have HB := Aside0.mk (Below.refl w.heap.size w)
 have H : ((origin_Same.f k a0_0 a0_1 a0_2 a1_0 a1_1 a1_2).bind fun t229 => ((pursuivantref08_Same.f k a0_0 a0_1 a0_2 a1_0 a1_1 a1_2).bind fun t230 => (if (t229 != t230) = true then (pursuivantlaw08_OriginSame.j0 k true a0_0 a0_1 a0_2 a1_0 a1_1 a1_2) else ((origin_Same.f k a0_0 a0_1 a0_2 a1_0 a1_1 a1_2).bind fun t231 => ((origin_Same.f k a1_0 a1_1 a1_2 a0_0 a0_1 a0_2).bind fun t232 => (pursuivantlaw08_OriginSame.j0 k (t231 != t232) a0_0 a0_1 a0_2 a1_0 a1_1 a1_2)))))) = some r := h
 clear h
 have HC3 := Aside0.mk H
 clear H
 go_enter Tryd.func14, Tryd.ntmps14
 go_upto_region 1 with (first | ((with_reducible refine gate_dst (N := 2) rfl ?_); refine box_event ?hg (N := 2) ?hd (cs := #[.string a0_0, .string a0_1, .int .i64 a0_2]) (t := 50) ?hr ?_; (case hd => rfl); (case hg => rfl); (case hr => first | (go_simp; done) | (go_simp; rfl)); intro gb227 hg w4 hbox hb; have n0_ := Aside0.mk (below_step z33_ hb); have n1_ := Aside0.mk (hbox); have n2_ := Aside0.mk ((by rw [hg]; exact (below_size z33_) : w.heap.size ≤ gb227)); have n3_ := Aside0.mk ((by rw [hg]; exact (below_size z33_) : w.heap.size ≤ gb227)); clear HB; have HB := n0_; have BK227 := n1_; have GW227 := n2_; have GE227 := n3_; clear n0_ n1_ n2_ n3_; clear hb hbox hg) | ((with_reducible refine gate_dst (N := 3) rfl ?_); refine box_event ?hg (N := 3) ?hd (cs := #[.string a1_0, .string a1_1, .int .i64 a1_2]) (t := 50) ?hr ?_; (case hd => rfl); (case hg => rfl); (case hr => first | (go_simp; done) | (go_simp; rfl)); intro gb228 hg w5 hbox hb; have n0_ := Aside0.mk (blk_below (g := gb227) (o := .cells #[.string a0_0, .string a0_1, .int .i64 a0_2] 50 (0, 0)) z56_ hb); have n1_ := Aside0.mk (below_step z31_ hb); have n2_ := Aside0.mk (hbox); have n3_ := Aside0.mk ((by rw [hg]; exact (below_size z31_) : w.heap.size ≤ gb228)); have n4_ := Aside0.mk ((by rw [hg]; exact (below_size z31_) : w.heap.size ≤ gb228)); have n5_ := Aside0.mk ((by rw [hg]; exact Nat.ne_of_lt (blk_lt (g := gb227) (o := .cells #[.string a0_0, .string a0_1, .int .i64 a0_2] 50 (0, 0)) z56_) : gb227 ≠ gb228)); have n6_ := Aside0.mk ((by rw [hg]; exact Nat.ne_of_gt (blk_lt (g := gb227) (o := .cells #[.string a0_0, .string a0_1, .int .i64 a0_2] 50 (0, 0)) z56_) : gb228 ≠ gb227)); clear BK227; clear HB; have BK227 := n0_; have HB := n1_; have BK228 := n2_; have GW228 := n3_; have GE228 := n4_; have NB227_228 := n5_; have NB228_227 := n6_; clear n0_ n1_ n2_ n3_ n4_ n5_ n6_; clear hb hbox hg))
 (try simp only [Act.put, List.setIfInBounds_toArray, List.set_cons_zero, List.set_cons_succ])
 go_cut [22] (fun v22 wc => ∃ (kq : Nat) (x22_2 : Bool), v22 = .bool x22_2 ∧ Aside0 (pursuivantlaw08_OriginSame.j0 kq x22_2 a0_0 a0_1 a0_2 a1_0 a1_1 a1_2 = some r) ∧ Aside0 (kq ≤ k) ∧ Aside0 (wc.heap[gb227]? = some (.cells #[.string a0_0, .string a0_1, .int .i64 a0_2] 50 (0, 0))) ∧ Aside0 (wc.heap[gb228]? = some (.cells #[.string a1_0, .string a1_1, .int .i64 a1_2] 50 (0, 0))) ∧ Aside0 (Below w.heap.size w wc))
 case first =>
  have H := HC3.out
  clear HC3
  replace H := Option.bind_eq_some_iff.mp H
  obtain ⟨t229, A60, H⟩ := H
  replace H : ((pursuivantref08_Same.f k a0_0 a0_1 a0_2 a1_0 a1_1 a1_2).bind fun t230 => (if (t229 != t230) = true then (pursuivantlaw08_OriginSame.j0 k true a0_0 a0_1 a0_2 a1_0 a1_1 a1_2) else ((origin_Same.f k a0_0 a0_1 a0_2 a1_0 a1_1 a1_2).bind fun t231 => ((origin_Same.f k a1_0 a1_1 a1_2 a0_0 a0_1 a0_2).bind fun t232 => (pursuivantlaw08_OriginSame.j0 k (t231 != t232) a0_0 a0_1 a0_2 a1_0 a1_1 a1_2))))) = some r := H
  have A6 := Aside0.mk A60
  clear A60
  replace H := Option.bind_eq_some_iff.mp H
  obtain ⟨t230, A70, H⟩ := H
  replace H : (if (t229 != t230) = true then (pursuivantlaw08_OriginSame.j0 k true a0_0 a0_1 a0_2 a1_0 a1_1 a1_2) else ((origin_Same.f k a0_0 a0_1 a0_2 a1_0 a1_1 a1_2).bind fun t231 => ((origin_Same.f k a1_0 a1_1 a1_2 a0_0 a0_1 a0_2).bind fun t232 => (pursuivantlaw08_OriginSame.j0 k (t231 != t232) a0_0 a0_1 a0_2 a1_0 a1_1 a1_2)))) = some r := H
  have A7 := Aside0.mk A70
  clear A70
  by_cases c8 : (t229 != t230) = true
  ·rw [if_pos c8] at H
   have c8b0 : (t229 != t230) = true := c8
   (try (have c8b1 : decide (t229 = t230) = false := by simpa using c8))
   (try (have c8b2 : (t229 == t230) = false := by simpa using c8))
   (try (have c8b3 : ¬ (t229 = t230) := by simpa using c8))
   clear c8
   (first | rw [c8b0] | (simp only [i64_w, i32_w]; rw [c8b0]) | skip)
   have H' := Aside0.mk H
   clear H
   try go_wp2
   have n0_ := Aside0.mk (blk_drew BK227.out)
   have n1_ := Aside0.mk (blk_drew BK228.out)
   have n2_ := Aside0.mk (below_drew1 HB.out)
   clear BK227
   clear BK228
   clear HB
   have BK227 := n0_
   have BK228 := n1_
   have HB := n2_
   clear n0_ n1_ n2_
   refine start_ (n := 16) (S := fun w' => w'.cell? ⟨gb227, 0, none⟩ = some (.string a0_0) ∧ w'.cell? ⟨gb227, 1, none⟩ = some (.string a0_1) ∧ w'.cell? ⟨gb227, 2, none⟩ = some (.int .i64 a0_2) ∧ w'.cell? ⟨gb228, 0, none⟩ = some (.string a1_0) ∧ w'.cell? ⟨gb228, 1, none⟩ = some (.string a1_1) ∧ w'.cell? ⟨gb228, 2, none⟩ = some (.int .i64 a1_2)) (ds := []) #[false, false, false, false, false, false, false, false, false, false, false, false, false, false, false, false] (by kernel_rfl) rfl rfl ⟨(blk_cell BK227.out 0).trans rfl, (blk_cell BK227.out 1).trans rfl, (blk_cell BK227.out 2).trans rfl, (blk_cell BK228.out 0).trans rfl, (blk_cell BK228.out 1).trans rfl, (blk_cell BK228.out 2).trans rfl⟩ (fun hHeld => ?_); refine with_tabW pursuivantlaw08_OriginSame.tab1 pursuivantlaw08_OriginSame.bits1 (fun HT_ HW_ => ?_)
   generalize w5.drew = w9 at BK227 BK228 HB hHeld ⊢
   refine take_ (i := 0) (N := some 7) (v := ?_) (a' := ?_) #[true, false, false, false, false, false, false, false, false, false, false, false, false, false, false, false] rfl rfl (take_ofW HT_.out HW_.out (by kernel_rfl)) (fun _ _ _ h => h) (Or.inl ⟨by rfl, ?_⟩) hHeld ?_ ?_
   rotate_left
   ·rintro w' ⟨s0, s1, s2, s3, s4, s5⟩
    go_simp
    with_reducible rfl
   rotate_left
   ·simp only [Act.put, List.setIfInBounds_toArray, List.set_cons_zero, List.set_cons_succ, i64_w, i32_w]
    rfl
   refine take_ (i := 1) (N := some 8) (v := ?_) (a' := ?_) #[true, true, false, false, false, false, false, false, false, false, false, false, false, false, false, false] rfl rfl (take_ofW HT_.out HW_.out (by kernel_rfl)) (fun _ _ _ h => h) (Or.inl ⟨by rfl, ?_⟩) hHeld ?_ ?_
   rotate_left
   ·rintro w' ⟨s0, s1, s2, s3, s4, s5⟩
    go_simp
    with_reducible rfl
   rotate_left
   ·simp only [Act.put, List.setIfInBounds_toArray, List.set_cons_zero, List.set_cons_succ, i64_w, i32_w]
    rfl
   refine take_ (i := 3) (N := some 10) (v := ?_) (a' := ?_) #[true, true, false, true, false, false, false, false, false, false, false, false, false, false, false, false] rfl rfl (take_ofW HT_.out HW_.out (by kernel_rfl)) (fun _ _ _ h => h) (Or.inl ⟨by rfl, ?_⟩) hHeld ?_ ?_
   rotate_left
   ·rintro w' ⟨s0, s1, s2, s3, s4, s5⟩
    go_simp
    with_reducible rfl
   rotate_left
   ·simp only [Act.put, List.setIfInBounds_toArray, List.set_cons_zero, List.set_cons_succ, i64_w, i32_w]
    rfl
   refine take_ (i := 4) (N := some 11) (v := ?_) (a' := ?_) #[true, true, false, true, true, false, false, false, false, false, false, false, false, false, false, false] rfl rfl (take_ofW HT_.out HW_.out (by kernel_rfl)) (fun _ _ _ h => h) (Or.inl ⟨by rfl, ?_⟩) hHeld ?_ ?_
   rotate_left
   ·rintro w' ⟨s0, s1, s2, s3, s4, s5⟩
    go_simp
    with_reducible rfl
   rotate_left
   ·simp only [Act.put, List.setIfInBounds_toArray, List.set_cons_zero, List.set_cons_succ, i64_w, i32_w]
    rfl
   refine one_ (i := 2) (N := some 9) #[true, true, true, true, true, false, false, false, false, false, false, false, false, false, false, false] rfl rfl (one_of HT_.out (by kernel_rfl)) (by decide) (fun K hK => ?_)
   refine goes_ Tryd.func56 (by kernel_rfl) rfl #[.agg #[.string a0_0, .string a0_1, .int .i64 a0_2], .agg #[.string a1_0, .string a1_1, .int .i64 a1_2]] (by rfl) rfl rfl z32_ ?_
   with_reducible refine (origin_Same.calls k a0_0 a0_1 a0_2 a1_0 a1_1 a1_2 t229 _ ?gw53_ A6.out).mono ?_
   case gw53_ => first | (with_reducible exact hG_) | ((with_reducible refine GW.below hG_ ?_); (repeat (first | (with_reducible exact HB.out) | (with_reducible apply below_alloc) | (with_reducible apply pw_below_drewN) | (with_reducible apply below_drew1) | (with_reducible apply below_drew) | (with_reducible exact Below.refl _ _) | (with_reducible refine below_set ?_ GE227.out) | (with_reducible refine below_set ?_ GE228.out) | (with_reducible refine below_set ?_ GE241.out))); done) | exact hG_ | (refine GW.below hG_ ?_; first | (with_reducible exact HB.out) | (repeat (first | (with_reducible first | exact HB.out | apply below_alloc | apply pw_below_drewN | apply below_drew1 | apply below_drew | exact Below.refl _ _) | exact HB.out))) | (apply GW.drewN; exact hG_) | (apply GW.drew; exact hG_)
   rintro e w10 ⟨rfl, hb⟩
   refine ⟨_, rfl, ?_⟩
   have n0_ := Aside0.mk (blk_below (g := gb227) (o := .cells #[.string a0_0, .string a0_1, .int .i64 a0_2] 50 (0, 0)) z56_ hb)
   have n1_ := Aside0.mk (blk_below (g := gb228) (o := .cells #[.string a1_0, .string a1_1, .int .i64 a1_2] 50 (0, 0)) z57_ hb)
   have n2_ := Aside0.mk (below_step z14_ hb)
   clear BK227
   clear BK228
   clear HB
   have BK227 := n0_
   have BK228 := n1_
   have HB := n2_
   clear n0_ n1_ n2_
   (try clear hb)
   (try clear hb2)
   (try clear hk)
   (try clear hi)
   refine hK.out _ _ ⟨(blk_cell BK227.out 0).trans rfl, (blk_cell BK227.out 1).trans rfl, (blk_cell BK227.out 2).trans rfl, (blk_cell BK228.out 0).trans rfl, (blk_cell BK228.out 1).trans rfl, (blk_cell BK228.out 2).trans rfl⟩ (fun hHeld => ?_)
   clear hK K
   refine norm_ (a' := ?_) ?_ ?_
   rotate_left
   ·show Act.put _ (some 9) _ = _
    simp only [Act.put, List.setIfInBounds_toArray, List.set_cons_zero, List.set_cons_succ, i64_w, i32_w]
    rfl
   refine one_ (i := 5) (N := some 12) #[true, true, true, true, true, true, false, false, false, false, false, false, false, false, false, false] rfl rfl (one_of HT_.out (by kernel_rfl)) (by decide) (fun K hK => ?_)
   refine goes_ Tryd.func57 (by kernel_rfl) rfl #[.agg #[.string a0_0, .string a0_1, .int .i64 a0_2], .agg #[.string a1_0, .string a1_1, .int .i64 a1_2]] (by rfl) rfl rfl z32_ ?_
   with_reducible refine (pursuivantref08_Same.calls k a0_0 a0_1 a0_2 a1_0 a1_1 a1_2 t230 _ ?gw54_ A7.out).mono ?_
   case gw54_ => first | (with_reducible exact hG_) | ((with_reducible refine GW.below hG_ ?_); (repeat (first | (with_reducible exact HB.out) | (with_reducible apply below_alloc) | (with_reducible apply pw_below_drewN) | (with_reducible apply below_drew1) | (with_reducible apply below_drew) | (with_reducible exact Below.refl _ _) | (with_reducible refine below_set ?_ GE227.out) | (with_reducible refine below_set ?_ GE228.out) | (with_reducible refine below_set ?_ GE241.out))); done) | exact hG_ | (refine GW.below hG_ ?_; first | (with_reducible exact HB.out) | (repeat (first | (with_reducible first | exact HB.out | apply below_alloc | apply pw_below_drewN | apply below_drew1 | apply below_drew | exact Below.refl _ _) | exact HB.out))) | (apply GW.drewN; exact hG_) | (apply GW.drew; exact hG_)
   rintro e w11 ⟨rfl, hb⟩
   refine ⟨_, rfl, ?_⟩
   have n0_ := Aside0.mk (blk_below (g := gb227) (o := .cells #[.string a0_0, .string a0_1, .int .i64 a0_2] 50 (0, 0)) z56_ hb)
   have n1_ := Aside0.mk (blk_below (g := gb228) (o := .cells #[.string a1_0, .string a1_1, .int .i64 a1_2] 50 (0, 0)) z57_ hb)
   have n2_ := Aside0.mk (below_step z14_ hb)
   clear BK227
   clear BK228
   clear HB
   have BK227 := n0_
   have BK228 := n1_
   have HB := n2_
   clear n0_ n1_ n2_
   (try clear hb)
   (try clear hb2)
   (try clear hk)
   (try clear hi)
   refine hK.out _ _ ⟨(blk_cell BK227.out 0).trans rfl, (blk_cell BK227.out 1).trans rfl, (blk_cell BK227.out 2).trans rfl, (blk_cell BK228.out 0).trans rfl, (blk_cell BK228.out 1).trans rfl, (blk_cell BK228.out 2).trans rfl⟩ (fun hHeld => ?_)
   clear hK K
   refine norm_ (a' := ?_) ?_ ?_
   rotate_left
   ·show Act.put _ (some 12) _ = _
    simp only [Act.put, List.setIfInBounds_toArray, List.set_cons_zero, List.set_cons_succ, i64_w, i32_w]
    rfl
   refine pure_ (i := 6) (N := some 13) (v := ?_) (a' := ?_) #[true, true, true, true, true, true, true, false, false, false, false, false, false, false, false, false] rfl rfl (any_of HT_.out (by kernel_rfl)) (fun _ _ _ h => h) (Or.inl ⟨by rfl, ?_⟩) ?_ ?_
   rotate_left
   ·intro w'
    go_simp
    with_reducible rfl
   rotate_left
   ·simp only [Act.put, List.setIfInBounds_toArray, List.set_cons_zero, List.set_cons_succ, i64_w, i32_w]
    rfl
   refine pure_ (i := 7) (N := some 14) (v := ?_) (a' := ?_) #[true, true, true, true, true, true, true, true, false, false, false, false, false, false, false, false] rfl rfl (any_of HT_.out (by kernel_rfl)) (fun _ _ _ h => h) (Or.inl ⟨by rfl, ?_⟩) ?_ ?_
   rotate_left
   ·intro w'
    go_simp
    with_reducible rfl
   rotate_left
   ·simp only [Act.put, List.setIfInBounds_toArray, List.set_cons_zero, List.set_cons_succ, i64_w, i32_w]
    rfl
   refine pure_ (i := 8) (N := some 15) (v := undef) (a' := ?_) #[true, true, true, true, true, true, true, true, true, false, false, false, false, false, false, false] rfl rfl (any_of HT_.out (by kernel_rfl)) (fun _ _ _ h => h) (Or.inr ⟨by rfl, rfl⟩) ?_ ?_
   rotate_left
   ·simp only [Act.put, List.setIfInBounds_toArray, List.set_cons_zero, List.set_cons_succ, i64_w, i32_w]
    rfl
   refine pure_ (i := 9) (N := some 16) (v := undef) (a' := ?_) #[true, true, true, true, true, true, true, true, true, true, false, false, false, false, false, false] rfl rfl (any_of HT_.out (by kernel_rfl)) (fun _ _ _ h => h) (Or.inr ⟨by rfl, rfl⟩) ?_ ?_
   rotate_left
   ·simp only [Act.put, List.setIfInBounds_toArray, List.set_cons_zero, List.set_cons_succ, i64_w, i32_w]
    rfl
   refine pure_ (i := 10) (N := some 17) (v := undef) (a' := ?_) #[true, true, true, true, true, true, true, true, true, true, true, false, false, false, false, false] rfl rfl (any_of HT_.out (by kernel_rfl)) (fun _ _ _ h => h) (Or.inr ⟨by rfl, rfl⟩) ?_ ?_
   rotate_left
   ·simp only [Act.put, List.setIfInBounds_toArray, List.set_cons_zero, List.set_cons_succ, i64_w, i32_w]
    rfl
   refine pure_ (i := 11) (N := some 18) (v := undef) (a' := ?_) #[true, true, true, true, true, true, true, true, true, true, true, true, false, false, false, false] rfl rfl (any_of HT_.out (by kernel_rfl)) (fun _ _ _ h => h) (Or.inr ⟨by rfl, rfl⟩) ?_ ?_
   rotate_left
   ·simp only [Act.put, List.setIfInBounds_toArray, List.set_cons_zero, List.set_cons_succ, i64_w, i32_w]
    rfl
   refine pure_ (i := 12) (N := some 19) (v := undef) (a' := ?_) #[true, true, true, true, true, true, true, true, true, true, true, true, true, false, false, false] rfl rfl (any_of HT_.out (by kernel_rfl)) (fun _ _ _ h => h) (Or.inr ⟨by rfl, rfl⟩) ?_ ?_
   rotate_left
   ·simp only [Act.put, List.setIfInBounds_toArray, List.set_cons_zero, List.set_cons_succ, i64_w, i32_w]
    rfl
   refine pure_ (i := 13) (N := some 20) (v := undef) (a' := ?_) #[true, true, true, true, true, true, true, true, true, true, true, true, true, true, false, false] rfl rfl (any_of HT_.out (by kernel_rfl)) (fun _ _ _ h => h) (Or.inr ⟨by rfl, rfl⟩) ?_ ?_
   rotate_left
   ·simp only [Act.put, List.setIfInBounds_toArray, List.set_cons_zero, List.set_cons_succ, i64_w, i32_w]
    rfl
   refine pure_ (i := 14) (N := some 21) (v := undef) (a' := ?_) #[true, true, true, true, true, true, true, true, true, true, true, true, true, true, true, false] rfl rfl (any_of HT_.out (by kernel_rfl)) (fun _ _ _ h => h) (Or.inr ⟨by rfl, rfl⟩) ?_ ?_
   rotate_left
   ·simp only [Act.put, List.setIfInBounds_toArray, List.set_cons_zero, List.set_cons_succ, i64_w, i32_w]
    rfl
   refine pure_ (i := 15) (N := some 22) (v := ?_) (a' := ?_) #[true, true, true, true, true, true, true, true, true, true, true, true, true, true, true, true] rfl rfl (any_of HT_.out (by kernel_rfl)) (fun _ _ _ h => h) (Or.inl ⟨by rfl, ?_⟩) ?_ ?_
   rotate_left
   ·intro w'
    go_simp
    with_reducible rfl
   rotate_left
   ·simp only [Act.put, List.setIfInBounds_toArray, List.set_cons_zero, List.set_cons_succ, i64_w, i32_w]
    rfl
   refine done_ (done_of HT_.out (by kernel_rfl)) ?_
   try go_wp2
   go_meet
   case rel => exact ⟨_, (true), z61_, H', ⟨z66_⟩, ⟨z56_⟩, ⟨z57_⟩, ⟨z14_⟩⟩
  ·rw [if_neg c8] at H
   have c8b0 : (t229 != t230) = false := by simpa using c8
   (try (have c8b1 : decide (t229 = t230) = true := by simpa using c8))
   (try (have c8b2 : (t229 == t230) = true := by simpa using c8))
   clear c8
   (first | rw [c8b0] | (simp only [i64_w, i32_w]; rw [c8b0]) | skip)
   replace H := Option.bind_eq_some_iff.mp H
   obtain ⟨t231, A120, H⟩ := H
   replace H : ((origin_Same.f k a1_0 a1_1 a1_2 a0_0 a0_1 a0_2).bind fun t232 => (pursuivantlaw08_OriginSame.j0 k (t231 != t232) a0_0 a0_1 a0_2 a1_0 a1_1 a1_2)) = some r := H
   have A12 := Aside0.mk A120
   clear A120
   replace H := Option.bind_eq_some_iff.mp H
   obtain ⟨t232, A130, H⟩ := H
   replace H : (pursuivantlaw08_OriginSame.j0 k (t231 != t232) a0_0 a0_1 a0_2 a1_0 a1_1 a1_2) = some r := H
   have A13 := Aside0.mk A130
   clear A130
   have H' := Aside0.mk H
   clear H
   try go_wp2
   have n0_ := Aside0.mk (blk_drew BK227.out)
   have n1_ := Aside0.mk (blk_drew BK228.out)
   have n2_ := Aside0.mk (below_drew1 HB.out)
   clear BK227
   clear BK228
   clear HB
   have BK227 := n0_
   have BK228 := n1_
   have HB := n2_
   clear n0_ n1_ n2_
   refine start_ (n := 16) (S := fun w' => w'.cell? ⟨gb227, 0, none⟩ = some (.string a0_0) ∧ w'.cell? ⟨gb227, 1, none⟩ = some (.string a0_1) ∧ w'.cell? ⟨gb227, 2, none⟩ = some (.int .i64 a0_2) ∧ w'.cell? ⟨gb228, 0, none⟩ = some (.string a1_0) ∧ w'.cell? ⟨gb228, 1, none⟩ = some (.string a1_1) ∧ w'.cell? ⟨gb228, 2, none⟩ = some (.int .i64 a1_2)) (ds := []) #[false, false, false, false, false, false, false, false, false, false, false, false, false, false, false, false] (by kernel_rfl) rfl rfl ⟨(blk_cell BK227.out 0).trans rfl, (blk_cell BK227.out 1).trans rfl, (blk_cell BK227.out 2).trans rfl, (blk_cell BK228.out 0).trans rfl, (blk_cell BK228.out 1).trans rfl, (blk_cell BK228.out 2).trans rfl⟩ (fun hHeld => ?_); refine with_tabW pursuivantlaw08_OriginSame.tab1 pursuivantlaw08_OriginSame.bits1 (fun HT_ HW_ => ?_)
   generalize w5.drew = w14 at BK227 BK228 HB hHeld ⊢
   refine take_ (i := 0) (N := some 7) (v := ?_) (a' := ?_) #[true, false, false, false, false, false, false, false, false, false, false, false, false, false, false, false] rfl rfl (take_ofW HT_.out HW_.out (by kernel_rfl)) (fun _ _ _ h => h) (Or.inl ⟨by rfl, ?_⟩) hHeld ?_ ?_
   rotate_left
   ·rintro w' ⟨s0, s1, s2, s3, s4, s5⟩
    go_simp
    with_reducible rfl
   rotate_left
   ·simp only [Act.put, List.setIfInBounds_toArray, List.set_cons_zero, List.set_cons_succ, i64_w, i32_w]
    rfl
   refine take_ (i := 1) (N := some 8) (v := ?_) (a' := ?_) #[true, true, false, false, false, false, false, false, false, false, false, false, false, false, false, false] rfl rfl (take_ofW HT_.out HW_.out (by kernel_rfl)) (fun _ _ _ h => h) (Or.inl ⟨by rfl, ?_⟩) hHeld ?_ ?_
   rotate_left
   ·rintro w' ⟨s0, s1, s2, s3, s4, s5⟩
    go_simp
    with_reducible rfl
   rotate_left
   ·simp only [Act.put, List.setIfInBounds_toArray, List.set_cons_zero, List.set_cons_succ, i64_w, i32_w]
    rfl
   refine take_ (i := 3) (N := some 10) (v := ?_) (a' := ?_) #[true, true, false, true, false, false, false, false, false, false, false, false, false, false, false, false] rfl rfl (take_ofW HT_.out HW_.out (by kernel_rfl)) (fun _ _ _ h => h) (Or.inl ⟨by rfl, ?_⟩) hHeld ?_ ?_
   rotate_left
   ·rintro w' ⟨s0, s1, s2, s3, s4, s5⟩
    go_simp
    with_reducible rfl
   rotate_left
   ·simp only [Act.put, List.setIfInBounds_toArray, List.set_cons_zero, List.set_cons_succ, i64_w, i32_w]
    rfl
   refine take_ (i := 4) (N := some 11) (v := ?_) (a' := ?_) #[true, true, false, true, true, false, false, false, false, false, false, false, false, false, false, false] rfl rfl (take_ofW HT_.out HW_.out (by kernel_rfl)) (fun _ _ _ h => h) (Or.inl ⟨by rfl, ?_⟩) hHeld ?_ ?_
   rotate_left
   ·rintro w' ⟨s0, s1, s2, s3, s4, s5⟩
    go_simp
    with_reducible rfl
   rotate_left
   ·simp only [Act.put, List.setIfInBounds_toArray, List.set_cons_zero, List.set_cons_succ, i64_w, i32_w]
    rfl
   refine one_ (i := 2) (N := some 9) #[true, true, true, true, true, false, false, false, false, false, false, false, false, false, false, false] rfl rfl (one_of HT_.out (by kernel_rfl)) (by decide) (fun K hK => ?_)
   refine goes_ Tryd.func56 (by kernel_rfl) rfl #[.agg #[.string a0_0, .string a0_1, .int .i64 a0_2], .agg #[.string a1_0, .string a1_1, .int .i64 a1_2]] (by rfl) rfl rfl z32_ ?_
   with_reducible refine (origin_Same.calls k a0_0 a0_1 a0_2 a1_0 a1_1 a1_2 t229 _ ?gw55_ A6.out).mono ?_
   case gw55_ => first | (with_reducible exact hG_) | ((with_reducible refine GW.below hG_ ?_); (repeat (first | (with_reducible exact HB.out) | (with_reducible apply below_alloc) | (with_reducible apply pw_below_drewN) | (with_reducible apply below_drew1) | (with_reducible apply below_drew) | (with_reducible exact Below.refl _ _) | (with_reducible refine below_set ?_ GE227.out) | (with_reducible refine below_set ?_ GE228.out) | (with_reducible refine below_set ?_ GE241.out))); done) | exact hG_ | (refine GW.below hG_ ?_; first | (with_reducible exact HB.out) | (repeat (first | (with_reducible first | exact HB.out | apply below_alloc | apply pw_below_drewN | apply below_drew1 | apply below_drew | exact Below.refl _ _) | exact HB.out))) | (apply GW.drewN; exact hG_) | (apply GW.drew; exact hG_)
   rintro e w15 ⟨rfl, hb⟩
   refine ⟨_, rfl, ?_⟩
   have n0_ := Aside0.mk (blk_below (g := gb227) (o := .cells #[.string a0_0, .string a0_1, .int .i64 a0_2] 50 (0, 0)) z56_ hb)
   have n1_ := Aside0.mk (blk_below (g := gb228) (o := .cells #[.string a1_0, .string a1_1, .int .i64 a1_2] 50 (0, 0)) z57_ hb)
   have n2_ := Aside0.mk (below_step z14_ hb)
   clear BK227
   clear BK228
   clear HB
   have BK227 := n0_
   have BK228 := n1_
   have HB := n2_
   clear n0_ n1_ n2_
   (try clear hb)
   (try clear hb2)
   (try clear hk)
   (try clear hi)
   refine hK.out _ _ ⟨(blk_cell BK227.out 0).trans rfl, (blk_cell BK227.out 1).trans rfl, (blk_cell BK227.out 2).trans rfl, (blk_cell BK228.out 0).trans rfl, (blk_cell BK228.out 1).trans rfl, (blk_cell BK228.out 2).trans rfl⟩ (fun hHeld => ?_)
   clear hK K
   refine norm_ (a' := ?_) ?_ ?_
   rotate_left
   ·show Act.put _ (some 9) _ = _
    simp only [Act.put, List.setIfInBounds_toArray, List.set_cons_zero, List.set_cons_succ, i64_w, i32_w]
    rfl
   refine one_ (i := 5) (N := some 12) #[true, true, true, true, true, true, false, false, false, false, false, false, false, false, false, false] rfl rfl (one_of HT_.out (by kernel_rfl)) (by decide) (fun K hK => ?_)
   refine goes_ Tryd.func57 (by kernel_rfl) rfl #[.agg #[.string a0_0, .string a0_1, .int .i64 a0_2], .agg #[.string a1_0, .string a1_1, .int .i64 a1_2]] (by rfl) rfl rfl z32_ ?_
   with_reducible refine (pursuivantref08_Same.calls k a0_0 a0_1 a0_2 a1_0 a1_1 a1_2 t230 _ ?gw56_ A7.out).mono ?_
   case gw56_ => first | (with_reducible exact hG_) | ((with_reducible refine GW.below hG_ ?_); (repeat (first | (with_reducible exact HB.out) | (with_reducible apply below_alloc) | (with_reducible apply pw_below_drewN) | (with_reducible apply below_drew1) | (with_reducible apply below_drew) | (with_reducible exact Below.refl _ _) | (with_reducible refine below_set ?_ GE227.out) | (with_reducible refine below_set ?_ GE228.out) | (with_reducible refine below_set ?_ GE241.out))); done) | exact hG_ | (refine GW.below hG_ ?_; first | (with_reducible exact HB.out) | (repeat (first | (with_reducible first | exact HB.out | apply below_alloc | apply pw_below_drewN | apply below_drew1 | apply below_drew | exact Below.refl _ _) | exact HB.out))) | (apply GW.drewN; exact hG_) | (apply GW.drew; exact hG_)
   rintro e w16 ⟨rfl, hb⟩
   refine ⟨_, rfl, ?_⟩
   have n0_ := Aside0.mk (blk_below (g := gb227) (o := .cells #[.string a0_0, .string a0_1, .int .i64 a0_2] 50 (0, 0)) z56_ hb)
   have n1_ := Aside0.mk (blk_below (g := gb228) (o := .cells #[.string a1_0, .string a1_1, .int .i64 a1_2] 50 (0, 0)) z57_ hb)
   have n2_ := Aside0.mk (below_step z14_ hb)
   clear BK227
   clear BK228
   clear HB
   have BK227 := n0_
   have BK228 := n1_
   have HB := n2_
   clear n0_ n1_ n2_
   (try clear hb)
   (try clear hb2)
   (try clear hk)
   (try clear hi)
   refine hK.out _ _ ⟨(blk_cell BK227.out 0).trans rfl, (blk_cell BK227.out 1).trans rfl, (blk_cell BK227.out 2).trans rfl, (blk_cell BK228.out 0).trans rfl, (blk_cell BK228.out 1).trans rfl, (blk_cell BK228.out 2).trans rfl⟩ (fun hHeld => ?_)
   clear hK K
   refine norm_ (a' := ?_) ?_ ?_
   rotate_left
   ·show Act.put _ (some 12) _ = _
    simp only [Act.put, List.setIfInBounds_toArray, List.set_cons_zero, List.set_cons_succ, i64_w, i32_w]
    rfl
   refine pure_ (i := 6) (N := some 13) (v := ?_) (a' := ?_) #[true, true, true, true, true, true, true, false, false, false, false, false, false, false, false, false] rfl rfl (any_of HT_.out (by kernel_rfl)) (fun _ _ _ h => h) (Or.inl ⟨by rfl, ?_⟩) ?_ ?_
   rotate_left
   ·intro w'
    go_simp
    with_reducible rfl
   rotate_left
   ·simp only [Act.put, List.setIfInBounds_toArray, List.set_cons_zero, List.set_cons_succ, i64_w, i32_w]
    rfl
   refine pure_ (i := 7) (N := some 14) (v := ?_) (a' := ?_) #[true, true, true, true, true, true, true, true, false, false, false, false, false, false, false, false] rfl rfl (any_of HT_.out (by kernel_rfl)) (fun _ _ _ h => h) (Or.inl ⟨by rfl, ?_⟩) ?_ ?_
   rotate_left
   ·intro w'
    go_simp
    with_reducible rfl
   rotate_left
   ·simp only [Act.put, List.setIfInBounds_toArray, List.set_cons_zero, List.set_cons_succ, i64_w, i32_w]
    rfl
   refine take_ (i := 8) (N := some 15) (v := ?_) (a' := ?_) #[true, true, true, true, true, true, true, true, true, false, false, false, false, false, false, false] rfl rfl (take_ofW HT_.out HW_.out (by kernel_rfl)) (fun _ _ _ h => h) (Or.inl ⟨by rfl, ?_⟩) hHeld ?_ ?_
   rotate_left
   ·rintro w' ⟨s0, s1, s2, s3, s4, s5⟩
    go_simp
    with_reducible rfl
   rotate_left
   ·simp only [Act.put, List.setIfInBounds_toArray, List.set_cons_zero, List.set_cons_succ, i64_w, i32_w]
    rfl
   refine take_ (i := 9) (N := some 16) (v := ?_) (a' := ?_) #[true, true, true, true, true, true, true, true, true, true, false, false, false, false, false, false] rfl rfl (take_ofW HT_.out HW_.out (by kernel_rfl)) (fun _ _ _ h => h) (Or.inl ⟨by rfl, ?_⟩) hHeld ?_ ?_
   rotate_left
   ·rintro w' ⟨s0, s1, s2, s3, s4, s5⟩
    go_simp
    with_reducible rfl
   rotate_left
   ·simp only [Act.put, List.setIfInBounds_toArray, List.set_cons_zero, List.set_cons_succ, i64_w, i32_w]
    rfl
   refine take_ (i := 11) (N := some 18) (v := ?_) (a' := ?_) #[true, true, true, true, true, true, true, true, true, true, false, true, false, false, false, false] rfl rfl (take_ofW HT_.out HW_.out (by kernel_rfl)) (fun _ _ _ h => h) (Or.inl ⟨by rfl, ?_⟩) hHeld ?_ ?_
   rotate_left
   ·rintro w' ⟨s0, s1, s2, s3, s4, s5⟩
    go_simp
    with_reducible rfl
   rotate_left
   ·simp only [Act.put, List.setIfInBounds_toArray, List.set_cons_zero, List.set_cons_succ, i64_w, i32_w]
    rfl
   refine take_ (i := 12) (N := some 19) (v := ?_) (a' := ?_) #[true, true, true, true, true, true, true, true, true, true, false, true, true, false, false, false] rfl rfl (take_ofW HT_.out HW_.out (by kernel_rfl)) (fun _ _ _ h => h) (Or.inl ⟨by rfl, ?_⟩) hHeld ?_ ?_
   rotate_left
   ·rintro w' ⟨s0, s1, s2, s3, s4, s5⟩
    go_simp
    with_reducible rfl
   rotate_left
   ·simp only [Act.put, List.setIfInBounds_toArray, List.set_cons_zero, List.set_cons_succ, i64_w, i32_w]
    rfl
   refine one_ (i := 10) (N := some 17) #[true, true, true, true, true, true, true, true, true, true, true, true, true, false, false, false] rfl rfl (one_of HT_.out (by kernel_rfl)) (by decide) (fun K hK => ?_)
   refine goes_ Tryd.func56 (by kernel_rfl) rfl #[.agg #[.string a0_0, .string a0_1, .int .i64 a0_2], .agg #[.string a1_0, .string a1_1, .int .i64 a1_2]] (by rfl) rfl rfl z32_ ?_
   with_reducible refine (origin_Same.calls k a0_0 a0_1 a0_2 a1_0 a1_1 a1_2 t231 _ ?gw57_ A12.out).mono ?_
   case gw57_ => first | (with_reducible exact hG_) | ((with_reducible refine GW.below hG_ ?_); (repeat (first | (with_reducible exact HB.out) | (with_reducible apply below_alloc) | (with_reducible apply pw_below_drewN) | (with_reducible apply below_drew1) | (with_reducible apply below_drew) | (with_reducible exact Below.refl _ _) | (with_reducible refine below_set ?_ GE227.out) | (with_reducible refine below_set ?_ GE228.out) | (with_reducible refine below_set ?_ GE241.out))); done) | exact hG_ | (refine GW.below hG_ ?_; first | (with_reducible exact HB.out) | (repeat (first | (with_reducible first | exact HB.out | apply below_alloc | apply pw_below_drewN | apply below_drew1 | apply below_drew | exact Below.refl _ _) | exact HB.out))) | (apply GW.drewN; exact hG_) | (apply GW.drew; exact hG_)
   rintro e w17 ⟨rfl, hb⟩
   refine ⟨_, rfl, ?_⟩
   have n0_ := Aside0.mk (blk_below (g := gb227) (o := .cells #[.string a0_0, .string a0_1, .int .i64 a0_2] 50 (0, 0)) z56_ hb)
   have n1_ := Aside0.mk (blk_below (g := gb228) (o := .cells #[.string a1_0, .string a1_1, .int .i64 a1_2] 50 (0, 0)) z57_ hb)
   have n2_ := Aside0.mk (below_step z14_ hb)
   clear BK227
   clear BK228
   clear HB
   have BK227 := n0_
   have BK228 := n1_
   have HB := n2_
   clear n0_ n1_ n2_
   (try clear hb)
   (try clear hb2)
   (try clear hk)
   (try clear hi)
   refine hK.out _ _ ⟨(blk_cell BK227.out 0).trans rfl, (blk_cell BK227.out 1).trans rfl, (blk_cell BK227.out 2).trans rfl, (blk_cell BK228.out 0).trans rfl, (blk_cell BK228.out 1).trans rfl, (blk_cell BK228.out 2).trans rfl⟩ (fun hHeld => ?_)
   clear hK K
   refine norm_ (a' := ?_) ?_ ?_
   rotate_left
   ·show Act.put _ (some 17) _ = _
    simp only [Act.put, List.setIfInBounds_toArray, List.set_cons_zero, List.set_cons_succ, i64_w, i32_w]
    rfl
   refine one_ (i := 13) (N := some 20) #[true, true, true, true, true, true, true, true, true, true, true, true, true, true, false, false] rfl rfl (one_of HT_.out (by kernel_rfl)) (by decide) (fun K hK => ?_)
   refine goes_ Tryd.func56 (by kernel_rfl) rfl #[.agg #[.string a1_0, .string a1_1, .int .i64 a1_2], .agg #[.string a0_0, .string a0_1, .int .i64 a0_2]] (by rfl) rfl rfl z32_ ?_
   with_reducible refine (origin_Same.calls k a1_0 a1_1 a1_2 a0_0 a0_1 a0_2 t232 _ ?gw58_ A13.out).mono ?_
   case gw58_ => first | (with_reducible exact hG_) | ((with_reducible refine GW.below hG_ ?_); (repeat (first | (with_reducible exact HB.out) | (with_reducible apply below_alloc) | (with_reducible apply pw_below_drewN) | (with_reducible apply below_drew1) | (with_reducible apply below_drew) | (with_reducible exact Below.refl _ _) | (with_reducible refine below_set ?_ GE227.out) | (with_reducible refine below_set ?_ GE228.out) | (with_reducible refine below_set ?_ GE241.out))); done) | exact hG_ | (refine GW.below hG_ ?_; first | (with_reducible exact HB.out) | (repeat (first | (with_reducible first | exact HB.out | apply below_alloc | apply pw_below_drewN | apply below_drew1 | apply below_drew | exact Below.refl _ _) | exact HB.out))) | (apply GW.drewN; exact hG_) | (apply GW.drew; exact hG_)
   rintro e w18 ⟨rfl, hb⟩
   refine ⟨_, rfl, ?_⟩
   have n0_ := Aside0.mk (blk_below (g := gb227) (o := .cells #[.string a0_0, .string a0_1, .int .i64 a0_2] 50 (0, 0)) z56_ hb)
   have n1_ := Aside0.mk (blk_below (g := gb228) (o := .cells #[.string a1_0, .string a1_1, .int .i64 a1_2] 50 (0, 0)) z57_ hb)
   have n2_ := Aside0.mk (below_step z14_ hb)
   clear BK227
   clear BK228
   clear HB
   have BK227 := n0_
   have BK228 := n1_
   have HB := n2_
   clear n0_ n1_ n2_
   (try clear hb)
   (try clear hb2)
   (try clear hk)
   (try clear hi)
   refine hK.out _ _ ⟨(blk_cell BK227.out 0).trans rfl, (blk_cell BK227.out 1).trans rfl, (blk_cell BK227.out 2).trans rfl, (blk_cell BK228.out 0).trans rfl, (blk_cell BK228.out 1).trans rfl, (blk_cell BK228.out 2).trans rfl⟩ (fun hHeld => ?_)
   clear hK K
   refine norm_ (a' := ?_) ?_ ?_
   rotate_left
   ·show Act.put _ (some 20) _ = _
    simp only [Act.put, List.setIfInBounds_toArray, List.set_cons_zero, List.set_cons_succ, i64_w, i32_w]
    rfl
   refine pure_ (i := 14) (N := some 21) (v := ?_) (a' := ?_) #[true, true, true, true, true, true, true, true, true, true, true, true, true, true, true, false] rfl rfl (any_of HT_.out (by kernel_rfl)) (fun _ _ _ h => h) (Or.inl ⟨by rfl, ?_⟩) ?_ ?_
   rotate_left
   ·intro w'
    go_simp
    with_reducible rfl
   rotate_left
   ·simp only [Act.put, List.setIfInBounds_toArray, List.set_cons_zero, List.set_cons_succ, i64_w, i32_w]
    rfl
   refine pure_ (i := 15) (N := some 22) (v := ?_) (a' := ?_) #[true, true, true, true, true, true, true, true, true, true, true, true, true, true, true, true] rfl rfl (any_of HT_.out (by kernel_rfl)) (fun _ _ _ h => h) (Or.inl ⟨by rfl, ?_⟩) ?_ ?_
   rotate_left
   ·intro w'
    go_simp
    with_reducible rfl
   rotate_left
   ·simp only [Act.put, List.setIfInBounds_toArray, List.set_cons_zero, List.set_cons_succ, i64_w, i32_w]
    rfl
   refine done_ (done_of HT_.out (by kernel_rfl)) ?_
   try go_wp2
   go_meet
   case rel => exact ⟨_, ((t231 != t232)), z61_, H', ⟨z66_⟩, ⟨z56_⟩, ⟨z57_⟩, ⟨z14_⟩⟩
 case rest =>
  clear HC3
  try clear c1
  try clear p2
  try clear c5
  try clear c8
  try clear c8b0
  try clear c8b1
  try clear c8b2
  try clear c14
  obtain ⟨kq, x22_2, rfl, HA, HJ2, BK227, BK228, HB⟩ := hcut
  cases kq with
  | zero => exact absurd HA.out (by simp [pursuivantlaw08_OriginSame.j0])
  | succ kj2 =>
   have H := HA.out
   clear HA
   simp only [pursuivantlaw08_OriginSame.j0] at H
   by_cases c19 : x22_2 = true
   ·subst c19
    have H1 : (some false) = some r := by rw [if_pos rfl] at H; exact H
    clear H
    have H := H1
    clear H1
    exact absurd ((Option.some.inj H).trans hr_) Bool.false_ne_true
   ·replace c19 := Bool.eq_false_iff.mpr c19
    subst c19
    have H1 : ((origin_Good.f kj2 a0_0 a0_1 a0_2).bind fun t233 => (if t233 = true then ((origin_Good.f kj2 a1_0 a1_1 a1_2).bind fun t234 => (pursuivantlaw08_OriginSame.j1 kj2 (!t234) a0_0 a0_1 a0_2 a1_0 a1_1 a1_2)) else (pursuivantlaw08_OriginSame.j1 kj2 true a0_0 a0_1 a0_2 a1_0 a1_1 a1_2))) = some r := by rw [if_neg (show ¬ (false = true) by decide)] at H; exact H
    clear H
    have H := H1
    clear H1
    have HC20 := Aside0.mk H
    clear H
    go_upto_region 3 with (fail)
    go_cut [30] (fun v30 wc => ∃ (kq : Nat) (x30_19 : Bool), v30 = .bool x30_19 ∧ Aside0 (pursuivantlaw08_OriginSame.j1 kq x30_19 a0_0 a0_1 a0_2 a1_0 a1_1 a1_2 = some r) ∧ Aside0 (kq ≤ kj2) ∧ Aside0 (wc.heap[gb227]? = some (.cells #[.string a0_0, .string a0_1, .int .i64 a0_2] 50 (0, 0))) ∧ Aside0 (wc.heap[gb228]? = some (.cells #[.string a1_0, .string a1_1, .int .i64 a1_2] 50 (0, 0))) ∧ Aside0 (Below w.heap.size w wc))
    case first =>
     have H := HC20.out
     clear HC20
     replace H := Option.bind_eq_some_iff.mp H
     obtain ⟨t233, A210, H⟩ := H
     replace H : (if t233 = true then ((origin_Good.f kj2 a1_0 a1_1 a1_2).bind fun t234 => (pursuivantlaw08_OriginSame.j1 kj2 (!t234) a0_0 a0_1 a0_2 a1_0 a1_1 a1_2)) else (pursuivantlaw08_OriginSame.j1 kj2 true a0_0 a0_1 a0_2 a1_0 a1_1 a1_2)) = some r := H
     have A21 := Aside0.mk A210
     clear A210
     by_cases c22 : t233 = true
     ·subst c22
      have H1 : ((origin_Good.f kj2 a1_0 a1_1 a1_2).bind fun t234 => (pursuivantlaw08_OriginSame.j1 kj2 (!t234) a0_0 a0_1 a0_2 a1_0 a1_1 a1_2)) = some r := by rw [if_pos rfl] at H; exact H
      clear H
      have H := H1
      clear H1
      replace H := Option.bind_eq_some_iff.mp H
      obtain ⟨t234, A230, H⟩ := H
      replace H : (pursuivantlaw08_OriginSame.j1 kj2 (!t234) a0_0 a0_1 a0_2 a1_0 a1_1 a1_2) = some r := H
      have A23 := Aside0.mk A230
      clear A230
      have H' := Aside0.mk H
      clear H
      have hnb24 := NB227_228.out
      have hnc24 := NB228_227.out
      have hcz25_0 : wc.cell? ⟨gb227, 0, none⟩ = some (.string a0_0) := (blk_cell BK227.out 0).trans rfl
      have hcz25_1 : wc.cell? ⟨gb227, 1, none⟩ = some (.string a0_1) := (blk_cell BK227.out 1).trans rfl
      have hcz25_2 : wc.cell? ⟨gb227, 2, none⟩ = some (.int .i64 a0_2) := (blk_cell BK227.out 2).trans rfl
      have hfz25_0 := blk_frozen BK227.out 0
      have hfz25_1 := blk_frozen BK227.out 1
      have hfz25_2 := blk_frozen BK227.out 2
      go_wp2_with (first | ((with_reducible refine gate_callee (f := 48) rfl ?_); refine goesL_ (some 24) rfl rfl Tryd.func48 (by kernel_rfl) rfl #[.agg #[.string a0_0, .string a0_1, .int .i64 a0_2]] rfl z32_ ?_; (with_reducible refine (origin_Good.calls kj2 a0_0 a0_1 a0_2 true _ ?gw40_ A21.out).mono ?_); (case gw40_ => first | (with_reducible exact hG_) | ((with_reducible refine GW.below hG_ ?_); (repeat (first | (with_reducible exact HB.out) | (with_reducible apply below_alloc) | (with_reducible apply pw_below_drewN) | (with_reducible apply below_drew1) | (with_reducible apply below_drew) | (with_reducible exact Below.refl _ _) | (with_reducible refine below_set ?_ GE227.out) | (with_reducible refine below_set ?_ GE228.out) | (with_reducible refine below_set ?_ GE241.out))); done) | exact hG_ | (refine GW.below hG_ ?_; first | (with_reducible exact HB.out) | (repeat (first | (with_reducible first | exact HB.out | apply below_alloc | apply pw_below_drewN | apply below_drew1 | apply below_drew | exact Below.refl _ _) | exact HB.out))) | (apply GW.drewN; exact hG_) | (apply GW.drew; exact hG_)); rintro e w26 ⟨rfl, hb⟩; refine ⟨_, rfl, ?_⟩; have n0_ := Aside0.mk (blk_below (g := gb227) (o := .cells #[.string a0_0, .string a0_1, .int .i64 a0_2] 50 (0, 0)) z56_ hb); have n1_ := Aside0.mk (blk_below (g := gb228) (o := .cells #[.string a1_0, .string a1_1, .int .i64 a1_2] 50 (0, 0)) z57_ hb); have n2_ := Aside0.mk (below_step z14_ hb); clear BK227; clear BK228; clear HB; have BK227 := n0_; have BK228 := n1_; have HB := n2_; clear n0_ n1_ n2_; (try clear hb); (try clear hb2); (try clear hk); (try clear hi); have hcz27_0 : w26.cell? ⟨gb228, 0, none⟩ = some (.string a1_0) := (blk_cell BK228.out 0).trans rfl; have hcz27_1 : w26.cell? ⟨gb228, 1, none⟩ = some (.string a1_1) := (blk_cell BK228.out 1).trans rfl; have hcz27_2 : w26.cell? ⟨gb228, 2, none⟩ = some (.int .i64 a1_2) := (blk_cell BK228.out 2).trans rfl; have hfz27_0 := blk_frozen BK228.out 0; have hfz27_1 := blk_frozen BK228.out 1; have hfz27_2 := blk_frozen BK228.out 2) | (go_at_call 48; (fail_if_success (have z_ := U_13)); have U_13 := trivial; (with_reducible refine (origin_Good.calls kj2 a1_0 a1_1 a1_2 t234 _ ?gw41_ A23.out).mono ?_); (case gw41_ => first | (with_reducible exact hG_) | ((with_reducible refine GW.below hG_ ?_); (repeat (first | (with_reducible exact HB.out) | (with_reducible apply below_alloc) | (with_reducible apply pw_below_drewN) | (with_reducible apply below_drew1) | (with_reducible apply below_drew) | (with_reducible exact Below.refl _ _) | (with_reducible refine below_set ?_ GE227.out) | (with_reducible refine below_set ?_ GE228.out) | (with_reducible refine below_set ?_ GE241.out))); done) | exact hG_ | (refine GW.below hG_ ?_; first | (with_reducible exact HB.out) | (repeat (first | (with_reducible first | exact HB.out | apply below_alloc | apply pw_below_drewN | apply below_drew1 | apply below_drew | exact Below.refl _ _) | exact HB.out))) | (apply GW.drewN; exact hG_) | (apply GW.drew; exact hG_)); rintro e w28 ⟨rfl, hb⟩; have n0_ := Aside0.mk (blk_below (g := gb227) (o := .cells #[.string a0_0, .string a0_1, .int .i64 a0_2] 50 (0, 0)) z56_ hb); have n1_ := Aside0.mk (blk_below (g := gb228) (o := .cells #[.string a1_0, .string a1_1, .int .i64 a1_2] 50 (0, 0)) z57_ hb); have n2_ := Aside0.mk (below_step z14_ hb); clear BK227; clear BK228; clear HB; have BK227 := n0_; have BK228 := n1_; have HB := n2_; clear n0_ n1_ n2_; (try clear hb); (try clear hb2); (try clear hk); (try clear hi)))
      go_meet
      case rel => exact ⟨_, (!t234), z61_, H', ⟨z63_⟩, ⟨z56_⟩, ⟨z57_⟩, ⟨z14_⟩⟩
     ·replace c22 := Bool.eq_false_iff.mpr c22
      subst c22
      have H1 : (pursuivantlaw08_OriginSame.j1 kj2 true a0_0 a0_1 a0_2 a1_0 a1_1 a1_2) = some r := by rw [if_neg (show ¬ (false = true) by decide)] at H; exact H
      clear H
      have H := H1
      clear H1
      have H' := Aside0.mk H
      clear H
      have hnb29 := NB227_228.out
      have hnc29 := NB228_227.out
      have hcz30_0 : wc.cell? ⟨gb227, 0, none⟩ = some (.string a0_0) := (blk_cell BK227.out 0).trans rfl
      have hcz30_1 : wc.cell? ⟨gb227, 1, none⟩ = some (.string a0_1) := (blk_cell BK227.out 1).trans rfl
      have hcz30_2 : wc.cell? ⟨gb227, 2, none⟩ = some (.int .i64 a0_2) := (blk_cell BK227.out 2).trans rfl
      have hfz30_0 := blk_frozen BK227.out 0
      have hfz30_1 := blk_frozen BK227.out 1
      have hfz30_2 := blk_frozen BK227.out 2
      go_wp2_with (first | ((with_reducible refine gate_callee (f := 48) rfl ?_); refine goesL_ (some 24) rfl rfl Tryd.func48 (by kernel_rfl) rfl #[.agg #[.string a0_0, .string a0_1, .int .i64 a0_2]] rfl z32_ ?_; (with_reducible refine (origin_Good.calls kj2 a0_0 a0_1 a0_2 false _ ?gw42_ A21.out).mono ?_); (case gw42_ => first | (with_reducible exact hG_) | ((with_reducible refine GW.below hG_ ?_); (repeat (first | (with_reducible exact HB.out) | (with_reducible apply below_alloc) | (with_reducible apply pw_below_drewN) | (with_reducible apply below_drew1) | (with_reducible apply below_drew) | (with_reducible exact Below.refl _ _) | (with_reducible refine below_set ?_ GE227.out) | (with_reducible refine below_set ?_ GE228.out) | (with_reducible refine below_set ?_ GE241.out))); done) | exact hG_ | (refine GW.below hG_ ?_; first | (with_reducible exact HB.out) | (repeat (first | (with_reducible first | exact HB.out | apply below_alloc | apply pw_below_drewN | apply below_drew1 | apply below_drew | exact Below.refl _ _) | exact HB.out))) | (apply GW.drewN; exact hG_) | (apply GW.drew; exact hG_)); rintro e w31 ⟨rfl, hb⟩; refine ⟨_, rfl, ?_⟩; have n0_ := Aside0.mk (blk_below (g := gb227) (o := .cells #[.string a0_0, .string a0_1, .int .i64 a0_2] 50 (0, 0)) z56_ hb); have n1_ := Aside0.mk (blk_below (g := gb228) (o := .cells #[.string a1_0, .string a1_1, .int .i64 a1_2] 50 (0, 0)) z57_ hb); have n2_ := Aside0.mk (below_step z14_ hb); clear BK227; clear BK228; clear HB; have BK227 := n0_; have BK228 := n1_; have HB := n2_; clear n0_ n1_ n2_; (try clear hb); (try clear hb2); (try clear hk); (try clear hi)))
      go_meet
      case rel => exact ⟨_, (true), z61_, H', ⟨z63_⟩, ⟨z56_⟩, ⟨z57_⟩, ⟨z14_⟩⟩
    case rest =>
     clear HC20
     try clear c1
     try clear c2
     try clear p2
     try clear c4
     try clear c5
     try clear c8
     try clear c8b0
     try clear c8b1
     try clear c8b2
     try clear c14
     try clear c19
     try clear c22
     try clear c24
     try clear c29
     try clear hcz25_0
     try clear hcz25_1
     try clear hcz25_2
     try clear hcz27_0
     try clear hcz27_1
     try clear hcz27_2
     try clear hcz30_0
     try clear hcz30_1
     try clear hcz30_2
     try clear hfz25_0
     try clear hfz25_1
     try clear hfz25_2
     try clear hfz27_0
     try clear hfz27_1
     try clear hfz27_2
     try clear hfz30_0
     try clear hfz30_1
     try clear hfz30_2
     try clear p2
     obtain ⟨kq, x30_19, rfl, HA, HJ19, BK227, BK228, HB⟩ := hcut
     cases kq with
     | zero => exact absurd HA.out (by simp [pursuivantlaw08_OriginSame.j1])
     | succ kj19 =>
      have H := HA.out
      clear HA
      simp only [pursuivantlaw08_OriginSame.j1] at H
      by_cases c32 : x30_19 = true
      ·subst c32
       have H1 : ((pursuivantlaw08_awake.f kj19).bind fun t235 => (some t235)) = some r := by rw [if_pos rfl] at H; exact H
       clear H
       have H := H1
       clear H1
       replace H := Option.bind_eq_some_iff.mp H
       obtain ⟨t235, A330, H⟩ := H
       replace H : (some t235) = some r := H
       have A33 := Aside0.mk A330
       clear A330
       obtain rfl := Option.some.inj H
       go_wp2_with (first | ((with_reducible refine gate_callee (f := 47) rfl ?_); refine goesL_ (some 31) rfl rfl Tryd.func47 (by kernel_rfl) rfl #[] rfl z32_ ?_; (with_reducible refine (pursuivantlaw08_awake.calls kj19  t235 _ ?gw43_ A33.out z67_).mono ?_); (case gw43_ => first | (with_reducible exact hG_) | ((with_reducible refine GW.below hG_ ?_); (repeat (first | (with_reducible exact HB.out) | (with_reducible apply below_alloc) | (with_reducible apply pw_below_drewN) | (with_reducible apply below_drew1) | (with_reducible apply below_drew) | (with_reducible exact Below.refl _ _) | (with_reducible refine below_set ?_ GE227.out) | (with_reducible refine below_set ?_ GE228.out) | (with_reducible refine below_set ?_ GE241.out))); done) | exact hG_ | (refine GW.below hG_ ?_; first | (with_reducible exact HB.out) | (repeat (first | (with_reducible first | exact HB.out | apply below_alloc | apply pw_below_drewN | apply below_drew1 | apply below_drew | exact Below.refl _ _) | exact HB.out))) | (apply GW.drewN; exact hG_) | (apply GW.drew; exact hG_)); rintro e w34 ⟨rfl, hb⟩; refine ⟨_, rfl, ?_⟩; have n0_ := Aside0.mk (blk_below (g := gb227) (o := .cells #[.string a0_0, .string a0_1, .int .i64 a0_2] 50 (0, 0)) z56_ hb); have n1_ := Aside0.mk (blk_below (g := gb228) (o := .cells #[.string a1_0, .string a1_1, .int .i64 a1_2] 50 (0, 0)) z57_ hb); have n2_ := Aside0.mk (below_step z14_ hb); clear BK227; clear BK228; clear HB; have BK227 := n0_; have BK228 := n1_; have HB := n2_; clear n0_ n1_ n2_; (try clear hb); (try clear hb2); (try clear hk); (try clear hi)))
       go_ret
       exact ⟨z34_, z14_⟩
      ·replace c32 := Bool.eq_false_iff.mpr c32
       subst c32
       have H1 : ((origin_Text.f kj19 a0_0 a0_1 a0_2).bind fun t236 => ((origin_Parse.f kj19 t236).bind fun bt237 => ((pursuivantlaw08_awake.f kj19).bind fun t242 => (if t242 = true then (if (bt237.1.toList == a0_0.toList && (bt237.2.1.toList == a0_1.toList && (bt237.2.2.1 == a0_2))) = true then (if bt237.2.2.2 = 0 then ((origin_Text.f kj19 a0_0 a0_1 a0_2).bind fun t243 => ((origin_Text.f kj19 a1_0 a1_1 a1_2).bind fun t244 => (some ((t243.toList == t244.toList) == (a0_0.toList == a1_0.toList && (a0_1.toList == a1_1.toList && (a0_2 == a1_2))))))) else (some false)) else (some false)) else (some false))))) = some r := by rw [if_neg (show ¬ (false = true) by decide)] at H; exact H
       clear H
       have H := H1
       clear H1
       replace H := Option.bind_eq_some_iff.mp H
       obtain ⟨t236, A350, H⟩ := H
       replace H : ((origin_Parse.f kj19 t236).bind fun bt237 => ((pursuivantlaw08_awake.f kj19).bind fun t242 => (if t242 = true then (if (bt237.1.toList == a0_0.toList && (bt237.2.1.toList == a0_1.toList && (bt237.2.2.1 == a0_2))) = true then (if bt237.2.2.2 = 0 then ((origin_Text.f kj19 a0_0 a0_1 a0_2).bind fun t243 => ((origin_Text.f kj19 a1_0 a1_1 a1_2).bind fun t244 => (some ((t243.toList == t244.toList) == (a0_0.toList == a1_0.toList && (a0_1.toList == a1_1.toList && (a0_2 == a1_2))))))) else (some false)) else (some false)) else (some false)))) = some r := H
       have A35 := Aside0.mk A350
       clear A350
       replace H := Option.bind_eq_some_iff.mp H
       obtain ⟨⟨t237, t238, t239, t240⟩, A360, H⟩ := H
       replace H : ((pursuivantlaw08_awake.f kj19).bind fun t242 => (if t242 = true then (if (t237.toList == a0_0.toList && (t238.toList == a0_1.toList && (t239 == a0_2))) = true then (if t240 = 0 then ((origin_Text.f kj19 a0_0 a0_1 a0_2).bind fun t243 => ((origin_Text.f kj19 a1_0 a1_1 a1_2).bind fun t244 => (some ((t243.toList == t244.toList) == (a0_0.toList == a1_0.toList && (a0_1.toList == a1_1.toList && (a0_2 == a1_2))))))) else (some false)) else (some false)) else (some false))) = some r := H
       have A36 := Aside0.mk A360
       clear A360
       replace H := Option.bind_eq_some_iff.mp H
       obtain ⟨t242, A370, H⟩ := H
       replace H : (if t242 = true then (if (t237.toList == a0_0.toList && (t238.toList == a0_1.toList && (t239 == a0_2))) = true then (if t240 = 0 then ((origin_Text.f kj19 a0_0 a0_1 a0_2).bind fun t243 => ((origin_Text.f kj19 a1_0 a1_1 a1_2).bind fun t244 => (some ((t243.toList == t244.toList) == (a0_0.toList == a1_0.toList && (a0_1.toList == a1_1.toList && (a0_2 == a1_2))))))) else (some false)) else (some false)) else (some false)) = some r := H
       have A37 := Aside0.mk A370
       clear A370
       by_cases c38 : t242 = true
       ·subst c38
        have H1 : (if (t237.toList == a0_0.toList && (t238.toList == a0_1.toList && (t239 == a0_2))) = true then (if t240 = 0 then ((origin_Text.f kj19 a0_0 a0_1 a0_2).bind fun t243 => ((origin_Text.f kj19 a1_0 a1_1 a1_2).bind fun t244 => (some ((t243.toList == t244.toList) == (a0_0.toList == a1_0.toList && (a0_1.toList == a1_1.toList && (a0_2 == a1_2))))))) else (some false)) else (some false)) = some r := by rw [if_pos rfl] at H; exact H
        clear H
        have H := H1
        clear H1
        by_cases c39 : (t237.toList == a0_0.toList && (t238.toList == a0_1.toList && (t239 == a0_2))) = true
        ·rw [if_pos c39] at H
         have c39b0 : (t237.toList == a0_0.toList && (t238.toList == a0_1.toList && (t239 == a0_2))) = true := c39
         (try (have c39b1 : decide (t237.toList = a0_0.toList && (t238.toList == a0_1.toList && (t239 == a0_2))) = true := by simpa using c39))
         (try (have c39b2 : (t237.toList == a0_0.toList && (t238.toList == a0_1.toList && (t239 == a0_2))) = true := by simpa using c39))
         clear c39
         by_cases c40 : t240 = 0
         ·rw [if_pos c40] at H
          have c40b0 : (t240 == 0) = true := beq_iff_eq.mpr c40
          have c40b1 : (t240 != 0) = false := bne_eq_false_iff_eq.mpr c40
          clear c40
          replace H := Option.bind_eq_some_iff.mp H
          obtain ⟨t243, A410, H⟩ := H
          replace H : ((origin_Text.f kj19 a1_0 a1_1 a1_2).bind fun t244 => (some ((t243.toList == t244.toList) == (a0_0.toList == a1_0.toList && (a0_1.toList == a1_1.toList && (a0_2 == a1_2)))))) = some r := H
          have A41 := Aside0.mk A410
          clear A410
          replace H := Option.bind_eq_some_iff.mp H
          obtain ⟨t244, A420, H⟩ := H
          replace H : (some ((t243.toList == t244.toList) == (a0_0.toList == a1_0.toList && (a0_1.toList == a1_1.toList && (a0_2 == a1_2))))) = some r := H
          have A42 := Aside0.mk A420
          clear A420
          obtain rfl := Option.some.inj H
          have hnb43 := NB227_228.out
          have hnc43 := NB228_227.out
          have hcz44_0 : wc.cell? ⟨gb227, 0, none⟩ = some (.string a0_0) := (blk_cell BK227.out 0).trans rfl
          have hcz44_1 : wc.cell? ⟨gb227, 1, none⟩ = some (.string a0_1) := (blk_cell BK227.out 1).trans rfl
          have hcz44_2 : wc.cell? ⟨gb227, 2, none⟩ = some (.int .i64 a0_2) := (blk_cell BK227.out 2).trans rfl
          have hfz44_0 := blk_frozen BK227.out 0
          have hfz44_1 := blk_frozen BK227.out 1
          have hfz44_2 := blk_frozen BK227.out 2
          try go_wp2_with (first | ((with_reducible refine gate_callee (f := 50) rfl ?_); refine goesL_ (some 34) rfl rfl Tryd.func50 (by kernel_rfl) rfl #[.agg #[.string a0_0, .string a0_1, .int .i64 a0_2]] rfl z32_ ?_; (with_reducible refine (origin_Text.calls kj19 a0_0 a0_1 a0_2 t236 _ ?gw44_ A35.out).mono ?_); (case gw44_ => first | (with_reducible exact hG_) | ((with_reducible refine GW.below hG_ ?_); (repeat (first | (with_reducible exact HB.out) | (with_reducible apply below_alloc) | (with_reducible apply pw_below_drewN) | (with_reducible apply below_drew1) | (with_reducible apply below_drew) | (with_reducible exact Below.refl _ _) | (with_reducible refine below_set ?_ GE227.out) | (with_reducible refine below_set ?_ GE228.out) | (with_reducible refine below_set ?_ GE241.out))); done) | exact hG_ | (refine GW.below hG_ ?_; first | (with_reducible exact HB.out) | (repeat (first | (with_reducible first | exact HB.out | apply below_alloc | apply pw_below_drewN | apply below_drew1 | apply below_drew | exact Below.refl _ _) | exact HB.out))) | (apply GW.drewN; exact hG_) | (apply GW.drew; exact hG_)); rintro e w45 ⟨rfl, hb⟩; refine ⟨_, rfl, ?_⟩; have n0_ := Aside0.mk (blk_below (g := gb227) (o := .cells #[.string a0_0, .string a0_1, .int .i64 a0_2] 50 (0, 0)) z56_ hb); have n1_ := Aside0.mk (blk_below (g := gb228) (o := .cells #[.string a1_0, .string a1_1, .int .i64 a1_2] 50 (0, 0)) z57_ hb); have n2_ := Aside0.mk (below_step z14_ hb); clear BK227; clear BK228; clear HB; have BK227 := n0_; have BK228 := n1_; have HB := n2_; clear n0_ n1_ n2_; (try clear hb); (try clear hb2); (try clear hk); (try clear hi)) | ((with_reducible refine gate_callee (f := 54) rfl ?_); refine goesL_ (some 35) rfl rfl Tryd.func54 (by kernel_rfl) rfl #[.string t236] rfl z32_ ?_; (with_reducible refine (origin_Parse.calls kj19 t236 t237 t238 t239 t240 _ ?gw45_ A36.out).mono ?_); (case gw45_ => first | (with_reducible exact hG_) | ((with_reducible refine GW.below hG_ ?_); (repeat (first | (with_reducible exact HB.out) | (with_reducible apply below_alloc) | (with_reducible apply pw_below_drewN) | (with_reducible apply below_drew1) | (with_reducible apply below_drew) | (with_reducible exact Below.refl _ _) | (with_reducible refine below_set ?_ GE227.out) | (with_reducible refine below_set ?_ GE228.out) | (with_reducible refine below_set ?_ GE241.out))); done) | exact hG_ | (refine GW.below hG_ ?_; first | (with_reducible exact HB.out) | (repeat (first | (with_reducible first | exact HB.out | apply below_alloc | apply pw_below_drewN | apply below_drew1 | apply below_drew | exact Below.refl _ _) | exact HB.out))) | (apply GW.drewN; exact hG_) | (apply GW.drew; exact hG_)); rintro e w46 ⟨rfl, hb⟩; refine ⟨_, rfl, ?_⟩; have n0_ := Aside0.mk (blk_below (g := gb227) (o := .cells #[.string a0_0, .string a0_1, .int .i64 a0_2] 50 (0, 0)) z56_ hb); have n1_ := Aside0.mk (blk_below (g := gb228) (o := .cells #[.string a1_0, .string a1_1, .int .i64 a1_2] 50 (0, 0)) z57_ hb); have n2_ := Aside0.mk (below_step z14_ hb); clear BK227; clear BK228; clear HB; have BK227 := n0_; have BK228 := n1_; have HB := n2_; clear n0_ n1_ n2_; (try clear hb); (try clear hb2); (try clear hk); (try clear hi)) | ((with_reducible refine gate_dst (N := 5) rfl ?_); refine box_event ?hg (N := 5) ?hd (cs := #[.string (⟨#[]⟩ : ByteArray), .string (⟨#[]⟩ : ByteArray), .int .i64 0]) (t := 50) ?hr ?_; (case hd => rfl); (case hg => rfl); (case hr => first | (go_simp; done) | (go_simp; rfl)); intro gb241 hg w47 hbox hb; have n0_ := Aside0.mk (blk_below (g := gb227) (o := .cells #[.string a0_0, .string a0_1, .int .i64 a0_2] 50 (0, 0)) z56_ hb); have n1_ := Aside0.mk (blk_below (g := gb228) (o := .cells #[.string a1_0, .string a1_1, .int .i64 a1_2] 50 (0, 0)) z57_ hb); have n2_ := Aside0.mk (below_step z14_ hb); have n3_ := Aside0.mk (hbox); have n4_ := Aside0.mk ((by rw [hg]; exact (below_size z14_) : w.heap.size ≤ gb241)); have n5_ := Aside0.mk ((by rw [hg]; exact (below_size z14_) : w.heap.size ≤ gb241)); have n6_ := Aside0.mk ((by rw [hg]; exact Nat.ne_of_lt (blk_lt (g := gb227) (o := .cells #[.string a0_0, .string a0_1, .int .i64 a0_2] 50 (0, 0)) z56_) : gb227 ≠ gb241)); have n7_ := Aside0.mk ((by rw [hg]; exact Nat.ne_of_gt (blk_lt (g := gb227) (o := .cells #[.string a0_0, .string a0_1, .int .i64 a0_2] 50 (0, 0)) z56_) : gb241 ≠ gb227)); have n8_ := Aside0.mk ((by rw [hg]; exact Nat.ne_of_lt (blk_lt (g := gb228) (o := .cells #[.string a1_0, .string a1_1, .int .i64 a1_2] 50 (0, 0)) z57_) : gb228 ≠ gb241)); have n9_ := Aside0.mk ((by rw [hg]; exact Nat.ne_of_gt (blk_lt (g := gb228) (o := .cells #[.string a1_0, .string a1_1, .int .i64 a1_2] 50 (0, 0)) z57_) : gb241 ≠ gb228)); clear BK227; clear BK228; clear HB; have BK227 := n0_; have BK228 := n1_; have HB := n2_; have BK241 := n3_; have GW241 := n4_; have GE241 := n5_; have NB227_241 := n6_; have NB241_227 := n7_; have NB228_241 := n8_; have NB241_228 := n9_; clear n0_ n1_ n2_ n3_ n4_ n5_ n6_ n7_ n8_ n9_; clear hb hbox hg; have hnb48 := NB241_227.out; have hnc48 := NB227_241.out; have hnb49 := NB241_228.out; have hnc49 := NB228_241.out; have hcz50_0 : w47.cell? ⟨gb241, 0, none⟩ = some (.string (⟨#[]⟩ : ByteArray)) := (blk_cell BK241.out 0).trans rfl; have hcz50_1 : w47.cell? ⟨gb241, 1, none⟩ = some (.string (⟨#[]⟩ : ByteArray)) := (blk_cell BK241.out 1).trans rfl; have hcz50_2 : w47.cell? ⟨gb241, 2, none⟩ = some (.int .i64 0) := (blk_cell BK241.out 2).trans rfl; have hfz50_0 := blk_frozen BK241.out 0; have hfz50_1 := blk_frozen BK241.out 1; have hfz50_2 := blk_frozen BK241.out 2))
          have n0_ : Aside0 ((((w47.setCell ⟨gb241, 0, none⟩ (.string t237)).setCell ⟨gb241, 1, none⟩ (.string t238)).setCell ⟨gb241, 2, none⟩ (.int .i64 t239)).heap[gb227]? = some (.cells #[.string a0_0, .string a0_1, .int .i64 a0_2] 50 (0, 0))) := ⟨by (with_reducible repeat (first | refine blk_drewN ?_ _ | refine blk_drew ?_ | refine blk_alloc ?_ _)); refine blk_far ?_ NB227_241.out _; (with_reducible repeat (first | refine blk_drewN ?_ _ | refine blk_drew ?_ | refine blk_alloc ?_ _)); refine blk_far ?_ NB227_241.out _; (with_reducible repeat (first | refine blk_drewN ?_ _ | refine blk_drew ?_ | refine blk_alloc ?_ _)); refine blk_far ?_ NB227_241.out _; (with_reducible repeat (first | refine blk_drewN ?_ _ | refine blk_drew ?_ | refine blk_alloc ?_ _)); exact BK227.out⟩
          have n1_ : Aside0 ((((w47.setCell ⟨gb241, 0, none⟩ (.string t237)).setCell ⟨gb241, 1, none⟩ (.string t238)).setCell ⟨gb241, 2, none⟩ (.int .i64 t239)).heap[gb228]? = some (.cells #[.string a1_0, .string a1_1, .int .i64 a1_2] 50 (0, 0))) := ⟨by (with_reducible repeat (first | refine blk_drewN ?_ _ | refine blk_drew ?_ | refine blk_alloc ?_ _)); refine blk_far ?_ NB228_241.out _; (with_reducible repeat (first | refine blk_drewN ?_ _ | refine blk_drew ?_ | refine blk_alloc ?_ _)); refine blk_far ?_ NB228_241.out _; (with_reducible repeat (first | refine blk_drewN ?_ _ | refine blk_drew ?_ | refine blk_alloc ?_ _)); refine blk_far ?_ NB228_241.out _; (with_reducible repeat (first | refine blk_drewN ?_ _ | refine blk_drew ?_ | refine blk_alloc ?_ _)); exact BK228.out⟩
          have n2_ : Aside0 ((((w47.setCell ⟨gb241, 0, none⟩ (.string t237)).setCell ⟨gb241, 1, none⟩ (.string t238)).setCell ⟨gb241, 2, none⟩ (.int .i64 t239)).heap[gb241]? = some (.cells #[.string t237, .string t238, .int .i64 t239] 50 (0, 0))) := ⟨by (with_reducible repeat (first | refine blk_drewN ?_ _ | refine blk_drew ?_ | refine blk_alloc ?_ _)); refine blk_put (cs := #[.string t237, .string t238, .int .i64 0]) ?_ 2 _ rfl; (with_reducible repeat (first | refine blk_drewN ?_ _ | refine blk_drew ?_ | refine blk_alloc ?_ _)); refine blk_put (cs := #[.string t237, .string (⟨#[]⟩ : ByteArray), .int .i64 0]) ?_ 1 _ rfl; (with_reducible repeat (first | refine blk_drewN ?_ _ | refine blk_drew ?_ | refine blk_alloc ?_ _)); refine blk_put (cs := #[.string (⟨#[]⟩ : ByteArray), .string (⟨#[]⟩ : ByteArray), .int .i64 0]) ?_ 0 _ rfl; (with_reducible repeat (first | refine blk_drewN ?_ _ | refine blk_drew ?_ | refine blk_alloc ?_ _)); exact BK241.out⟩
          have n3_ : Aside0 (Below w.heap.size w (((w47.setCell ⟨gb241, 0, none⟩ (.string t237)).setCell ⟨gb241, 1, none⟩ (.string t238)).setCell ⟨gb241, 2, none⟩ (.int .i64 t239))) := ⟨z5_⟩
          (try clear BK227)
          (try clear BK228)
          (try clear BK241)
          (try clear HB)
          generalize (((w47.setCell ⟨gb241, 0, none⟩ (.string t237)).setCell ⟨gb241, 1, none⟩ (.string t238)).setCell ⟨gb241, 2, none⟩ (.int .i64 t239)) = w51 at n0_ n1_ n2_ n3_ ⊢
          have BK227 := n0_
          have BK228 := n1_
          have BK241 := n2_
          have HB := n3_
          clear n0_ n1_ n2_ n3_
          have n0_ := Aside0.mk (blk_drew BK227.out)
          have n1_ := Aside0.mk (blk_drew BK228.out)
          have n2_ := Aside0.mk (blk_drew BK241.out)
          have n3_ := Aside0.mk (below_drew1 HB.out)
          clear BK227
          clear BK228
          clear BK241
          clear HB
          have BK227 := n0_
          have BK228 := n1_
          have BK241 := n2_
          have HB := n3_
          clear n0_ n1_ n2_ n3_
          refine start_ (n := 22) (S := fun w' => w'.cell? ⟨gb241, 0, none⟩ = some (.string t237) ∧ w'.cell? ⟨gb241, 1, none⟩ = some (.string t238) ∧ w'.cell? ⟨gb241, 2, none⟩ = some (.int .i64 t239) ∧ w'.cell? ⟨gb227, 0, none⟩ = some (.string a0_0) ∧ w'.cell? ⟨gb227, 1, none⟩ = some (.string a0_1) ∧ w'.cell? ⟨gb227, 2, none⟩ = some (.int .i64 a0_2) ∧ w'.cell? ⟨gb228, 0, none⟩ = some (.string a1_0) ∧ w'.cell? ⟨gb228, 1, none⟩ = some (.string a1_1) ∧ w'.cell? ⟨gb228, 2, none⟩ = some (.int .i64 a1_2)) (ds := []) #[false, false, false, false, false, false, false, false, false, false, false, false, false, false, false, false, false, false, false, false, false, false] (by kernel_rfl) rfl rfl ⟨(blk_cell BK241.out 0).trans rfl, (blk_cell BK241.out 1).trans rfl, (blk_cell BK241.out 2).trans rfl, (blk_cell BK227.out 0).trans rfl, (blk_cell BK227.out 1).trans rfl, (blk_cell BK227.out 2).trans rfl, (blk_cell BK228.out 0).trans rfl, (blk_cell BK228.out 1).trans rfl, (blk_cell BK228.out 2).trans rfl⟩ (fun hHeld => ?_); refine with_tabW pursuivantlaw08_OriginSame.tab6 pursuivantlaw08_OriginSame.bits6 (fun HT_ HW_ => ?_)
          generalize w51.drew = w52 at BK227 BK228 BK241 HB hHeld ⊢
          refine one_ (i := 0) (N := some 38) #[true, false, false, false, false, false, false, false, false, false, false, false, false, false, false, false, false, false, false, false, false, false] rfl rfl (one_of HT_.out (by kernel_rfl)) (by decide) (fun K hK => ?_)
          refine goes_ Tryd.func47 (by kernel_rfl) rfl #[] (by rfl) rfl rfl z32_ ?_
          with_reducible refine (pursuivantlaw08_awake.calls kj19  true _ ?gw59_ A37.out z67_).mono ?_
          case gw59_ => first | (with_reducible exact hG_) | ((with_reducible refine GW.below hG_ ?_); (repeat (first | (with_reducible exact HB.out) | (with_reducible apply below_alloc) | (with_reducible apply pw_below_drewN) | (with_reducible apply below_drew1) | (with_reducible apply below_drew) | (with_reducible exact Below.refl _ _) | (with_reducible refine below_set ?_ GE227.out) | (with_reducible refine below_set ?_ GE228.out) | (with_reducible refine below_set ?_ GE241.out))); done) | exact hG_ | (refine GW.below hG_ ?_; first | (with_reducible exact HB.out) | (repeat (first | (with_reducible first | exact HB.out | apply below_alloc | apply pw_below_drewN | apply below_drew1 | apply below_drew | exact Below.refl _ _) | exact HB.out))) | (apply GW.drewN; exact hG_) | (apply GW.drew; exact hG_)
          rintro e w53 ⟨rfl, hb⟩
          refine ⟨_, rfl, ?_⟩
          have n0_ := Aside0.mk (blk_below (g := gb227) (o := .cells #[.string a0_0, .string a0_1, .int .i64 a0_2] 50 (0, 0)) z56_ hb)
          have n1_ := Aside0.mk (blk_below (g := gb228) (o := .cells #[.string a1_0, .string a1_1, .int .i64 a1_2] 50 (0, 0)) z57_ hb)
          have n2_ := Aside0.mk (blk_below (g := gb241) (o := .cells #[.string t237, .string t238, .int .i64 t239] 50 (0, 0)) z58_ hb)
          have n3_ := Aside0.mk (below_step z5_ hb)
          clear BK227
          clear BK228
          clear BK241
          clear HB
          have BK227 := n0_
          have BK228 := n1_
          have BK241 := n2_
          have HB := n3_
          clear n0_ n1_ n2_ n3_
          (try clear hb)
          (try clear hb2)
          (try clear hk)
          (try clear hi)
          refine hK.out _ _ ⟨(blk_cell BK241.out 0).trans rfl, (blk_cell BK241.out 1).trans rfl, (blk_cell BK241.out 2).trans rfl, (blk_cell BK227.out 0).trans rfl, (blk_cell BK227.out 1).trans rfl, (blk_cell BK227.out 2).trans rfl, (blk_cell BK228.out 0).trans rfl, (blk_cell BK228.out 1).trans rfl, (blk_cell BK228.out 2).trans rfl⟩ (fun hHeld => ?_)
          clear hK K
          refine norm_ (a' := ?_) ?_ ?_
          rotate_left
          ·show Act.put _ (some 38) _ = _
           simp only [Act.put, List.setIfInBounds_toArray, List.set_cons_zero, List.set_cons_succ, i64_w, i32_w]
           rfl
          refine pure_ (i := 1) (N := some 39) (v := ?_) (a' := ?_) #[true, true, false, false, false, false, false, false, false, false, false, false, false, false, false, false, false, false, false, false, false, false] rfl rfl (any_of HT_.out (by kernel_rfl)) (fun _ _ _ h => h) (Or.inl ⟨by rfl, ?_⟩) ?_ ?_
          rotate_left
          ·intro w'
           go_simp
           with_reducible rfl
          rotate_left
          ·simp only [Act.put, List.setIfInBounds_toArray, List.set_cons_zero, List.set_cons_succ, i64_w, i32_w]
           rfl
          refine take_ (i := 2) (N := some 40) (v := ?_) (a' := ?_) #[true, true, true, false, false, false, false, false, false, false, false, false, false, false, false, false, false, false, false, false, false, false] rfl rfl (take_ofW HT_.out HW_.out (by kernel_rfl)) (fun _ _ _ h => h) (Or.inl ⟨by rfl, ?_⟩) hHeld ?_ ?_
          rotate_left
          ·rintro w' ⟨s0, s1, s2, s3, s4, s5, s6, s7, s8⟩
           go_simp
           with_reducible rfl
          rotate_left
          ·simp only [Act.put, List.setIfInBounds_toArray, List.set_cons_zero, List.set_cons_succ, i64_w, i32_w]
           rfl
          refine take_ (i := 3) (N := some 41) (v := ?_) (a' := ?_) #[true, true, true, true, false, false, false, false, false, false, false, false, false, false, false, false, false, false, false, false, false, false] rfl rfl (take_ofW HT_.out HW_.out (by kernel_rfl)) (fun _ _ _ h => h) (Or.inl ⟨by rfl, ?_⟩) hHeld ?_ ?_
          rotate_left
          ·rintro w' ⟨s0, s1, s2, s3, s4, s5, s6, s7, s8⟩
           go_simp
           with_reducible rfl
          rotate_left
          ·simp only [Act.put, List.setIfInBounds_toArray, List.set_cons_zero, List.set_cons_succ, i64_w, i32_w]
           rfl
          refine pure_ (i := 4) (N := some 42) (v := ?_) (a' := ?_) #[true, true, true, true, true, false, false, false, false, false, false, false, false, false, false, false, false, false, false, false, false, false] rfl rfl (any_of HT_.out (by kernel_rfl)) (fun _ _ _ h => h) (Or.inl ⟨by rfl, ?_⟩) ?_ ?_
          rotate_left
          ·intro w'
           go_simp
           with_reducible rfl
          rotate_left
          ·simp only [Act.put, List.setIfInBounds_toArray, List.set_cons_zero, List.set_cons_succ, i64_w, i32_w]
           rfl
          refine pure_ (i := 5) (N := some 43) (v := ?_) (a' := ?_) #[true, true, true, true, true, true, false, false, false, false, false, false, false, false, false, false, false, false, false, false, false, false] rfl rfl (any_of HT_.out (by kernel_rfl)) (fun _ _ _ h => h) (Or.inl ⟨by rfl, ?_⟩) ?_ ?_
          rotate_left
          ·intro w'
           go_simp
           with_reducible rfl
          rotate_left
          ·simp only [Act.put, List.setIfInBounds_toArray, List.set_cons_zero, List.set_cons_succ, i64_w, i32_w]
           rfl
          refine pure_ (i := 6) (N := some 44) (v := ?_) (a' := ?_) #[true, true, true, true, true, true, true, false, false, false, false, false, false, false, false, false, false, false, false, false, false, false] rfl rfl (any_of HT_.out (by kernel_rfl)) (fun _ _ _ h => h) (Or.inl ⟨by rfl, ?_⟩) ?_ ?_
          rotate_left
          ·intro w'
           go_simp
           with_reducible rfl
          rotate_left
          ·simp only [Act.put, List.setIfInBounds_toArray, List.set_cons_zero, List.set_cons_succ, i64_w, i32_w]
           rfl
          refine pure_ (i := 7) (N := some 45) (v := ?_) (a' := ?_) #[true, true, true, true, true, true, true, true, false, false, false, false, false, false, false, false, false, false, false, false, false, false] rfl rfl (any_of HT_.out (by kernel_rfl)) (fun _ _ _ h => h) (Or.inl ⟨by rfl, ?_⟩) ?_ ?_
          rotate_left
          ·intro w'
           go_simp
           with_reducible rfl
          rotate_left
          ·simp only [Act.put, List.setIfInBounds_toArray, List.set_cons_zero, List.set_cons_succ, i64_w, i32_w]
           rfl
          refine pure_ (i := 8) (N := some 46) (v := ?_) (a' := ?_) #[true, true, true, true, true, true, true, true, true, false, false, false, false, false, false, false, false, false, false, false, false, false] rfl rfl (any_of HT_.out (by kernel_rfl)) (fun _ _ _ h => h) (Or.inl ⟨by rfl, ?_⟩) ?_ ?_
          rotate_left
          ·intro w'
           go_simp
           with_reducible rfl
          rotate_left
          ·simp only [Act.put, List.setIfInBounds_toArray, List.set_cons_zero, List.set_cons_succ, i64_w, i32_w]
           rfl
          refine pure_ (i := 9) (N := some 47) (v := ?_) (a' := ?_) #[true, true, true, true, true, true, true, true, true, true, false, false, false, false, false, false, false, false, false, false, false, false] rfl rfl (any_of HT_.out (by kernel_rfl)) (fun _ _ _ h => h) (Or.inl ⟨by rfl, ?_⟩) ?_ ?_
          rotate_left
          ·intro w'
           go_simp
           with_reducible rfl
          rotate_left
          ·simp only [Act.put, List.setIfInBounds_toArray, List.set_cons_zero, List.set_cons_succ, i64_w, i32_w]
           rfl
          refine pure_ (i := 10) (N := some 48) (v := ?_) (a' := ?_) #[true, true, true, true, true, true, true, true, true, true, true, false, false, false, false, false, false, false, false, false, false, false] rfl rfl (any_of HT_.out (by kernel_rfl)) (fun _ _ _ h => h) (Or.inl ⟨by rfl, ?_⟩) ?_ ?_
          rotate_left
          ·intro w'
           go_simp
           with_reducible rfl
          rotate_left
          ·simp only [Act.put, List.setIfInBounds_toArray, List.set_cons_zero, List.set_cons_succ, i64_w, i32_w]
           rfl
          refine take_ (i := 11) (N := some 49) (v := ?_) (a' := ?_) #[true, true, true, true, true, true, true, true, true, true, true, true, false, false, false, false, false, false, false, false, false, false] rfl rfl (take_ofW HT_.out HW_.out (by kernel_rfl)) (fun _ _ _ h => h) (Or.inl ⟨by rfl, ?_⟩) hHeld ?_ ?_
          rotate_left
          ·rintro w' ⟨s0, s1, s2, s3, s4, s5, s6, s7, s8⟩
           go_simp
           with_reducible rfl
          rotate_left
          ·simp only [Act.put, List.setIfInBounds_toArray, List.set_cons_zero, List.set_cons_succ, i64_w, i32_w]
           rfl
          refine take_ (i := 13) (N := some 51) (v := ?_) (a' := ?_) #[true, true, true, true, true, true, true, true, true, true, true, true, false, true, false, false, false, false, false, false, false, false] rfl rfl (take_ofW HT_.out HW_.out (by kernel_rfl)) (fun _ _ _ h => h) (Or.inl ⟨by rfl, ?_⟩) hHeld ?_ ?_
          rotate_left
          ·rintro w' ⟨s0, s1, s2, s3, s4, s5, s6, s7, s8⟩
           go_simp
           with_reducible rfl
          rotate_left
          ·simp only [Act.put, List.setIfInBounds_toArray, List.set_cons_zero, List.set_cons_succ, i64_w, i32_w]
           rfl
          refine take_ (i := 16) (N := some 54) (v := ?_) (a' := ?_) #[true, true, true, true, true, true, true, true, true, true, true, true, false, true, false, false, true, false, false, false, false, false] rfl rfl (take_ofW HT_.out HW_.out (by kernel_rfl)) (fun _ _ _ h => h) (Or.inl ⟨by rfl, ?_⟩) hHeld ?_ ?_
          rotate_left
          ·rintro w' ⟨s0, s1, s2, s3, s4, s5, s6, s7, s8⟩
           go_simp
           with_reducible rfl
          rotate_left
          ·simp only [Act.put, List.setIfInBounds_toArray, List.set_cons_zero, List.set_cons_succ, i64_w, i32_w]
           rfl
          refine take_ (i := 17) (N := some 55) (v := ?_) (a' := ?_) #[true, true, true, true, true, true, true, true, true, true, true, true, false, true, false, false, true, true, false, false, false, false] rfl rfl (take_ofW HT_.out HW_.out (by kernel_rfl)) (fun _ _ _ h => h) (Or.inl ⟨by rfl, ?_⟩) hHeld ?_ ?_
          rotate_left
          ·rintro w' ⟨s0, s1, s2, s3, s4, s5, s6, s7, s8⟩
           go_simp
           with_reducible rfl
          rotate_left
          ·simp only [Act.put, List.setIfInBounds_toArray, List.set_cons_zero, List.set_cons_succ, i64_w, i32_w]
           rfl
          refine pure_ (i := 18) (N := some 56) (v := ?_) (a' := ?_) #[true, true, true, true, true, true, true, true, true, true, true, true, false, true, false, false, true, true, true, false, false, false] rfl rfl (any_of HT_.out (by kernel_rfl)) (fun _ _ _ h => h) (Or.inl ⟨by rfl, ?_⟩) ?_ ?_
          rotate_left
          ·intro w'
           go_simp
           with_reducible rfl
          rotate_left
          ·simp only [Act.put, List.setIfInBounds_toArray, List.set_cons_zero, List.set_cons_succ, i64_w, i32_w]
           rfl
          refine one_ (i := 12) (N := some 50) #[true, true, true, true, true, true, true, true, true, true, true, true, true, true, false, false, true, true, true, false, false, false] rfl rfl (one_of HT_.out (by kernel_rfl)) (by decide) (fun K hK => ?_)
          refine goes_ Tryd.func50 (by kernel_rfl) rfl #[.agg #[.string a0_0, .string a0_1, .int .i64 a0_2]] (by rfl) rfl rfl z32_ ?_
          with_reducible refine (origin_Text.calls kj19 a0_0 a0_1 a0_2 t243 _ ?gw60_ A41.out).mono ?_
          case gw60_ => first | (with_reducible exact hG_) | ((with_reducible refine GW.below hG_ ?_); (repeat (first | (with_reducible exact HB.out) | (with_reducible apply below_alloc) | (with_reducible apply pw_below_drewN) | (with_reducible apply below_drew1) | (with_reducible apply below_drew) | (with_reducible exact Below.refl _ _) | (with_reducible refine below_set ?_ GE227.out) | (with_reducible refine below_set ?_ GE228.out) | (with_reducible refine below_set ?_ GE241.out))); done) | exact hG_ | (refine GW.below hG_ ?_; first | (with_reducible exact HB.out) | (repeat (first | (with_reducible first | exact HB.out | apply below_alloc | apply pw_below_drewN | apply below_drew1 | apply below_drew | exact Below.refl _ _) | exact HB.out))) | (apply GW.drewN; exact hG_) | (apply GW.drew; exact hG_)
          rintro e w54 ⟨rfl, hb⟩
          refine ⟨_, rfl, ?_⟩
          have n0_ := Aside0.mk (blk_below (g := gb227) (o := .cells #[.string a0_0, .string a0_1, .int .i64 a0_2] 50 (0, 0)) z56_ hb)
          have n1_ := Aside0.mk (blk_below (g := gb228) (o := .cells #[.string a1_0, .string a1_1, .int .i64 a1_2] 50 (0, 0)) z57_ hb)
          have n2_ := Aside0.mk (blk_below (g := gb241) (o := .cells #[.string t237, .string t238, .int .i64 t239] 50 (0, 0)) z58_ hb)
          have n3_ := Aside0.mk (below_step z5_ hb)
          clear BK227
          clear BK228
          clear BK241
          clear HB
          have BK227 := n0_
          have BK228 := n1_
          have BK241 := n2_
          have HB := n3_
          clear n0_ n1_ n2_ n3_
          (try clear hb)
          (try clear hb2)
          (try clear hk)
          (try clear hi)
          refine hK.out _ _ ⟨(blk_cell BK241.out 0).trans rfl, (blk_cell BK241.out 1).trans rfl, (blk_cell BK241.out 2).trans rfl, (blk_cell BK227.out 0).trans rfl, (blk_cell BK227.out 1).trans rfl, (blk_cell BK227.out 2).trans rfl, (blk_cell BK228.out 0).trans rfl, (blk_cell BK228.out 1).trans rfl, (blk_cell BK228.out 2).trans rfl⟩ (fun hHeld => ?_)
          clear hK K
          refine norm_ (a' := ?_) ?_ ?_
          rotate_left
          ·show Act.put _ (some 50) _ = _
           simp only [Act.put, List.setIfInBounds_toArray, List.set_cons_zero, List.set_cons_succ, i64_w, i32_w]
           rfl
          refine one_ (i := 14) (N := some 52) #[true, true, true, true, true, true, true, true, true, true, true, true, true, true, true, false, true, true, true, false, false, false] rfl rfl (one_of HT_.out (by kernel_rfl)) (by decide) (fun K hK => ?_)
          refine goes_ Tryd.func50 (by kernel_rfl) rfl #[.agg #[.string a1_0, .string a1_1, .int .i64 a1_2]] (by rfl) rfl rfl z32_ ?_
          with_reducible refine (origin_Text.calls kj19 a1_0 a1_1 a1_2 t244 _ ?gw61_ A42.out).mono ?_
          case gw61_ => first | (with_reducible exact hG_) | ((with_reducible refine GW.below hG_ ?_); (repeat (first | (with_reducible exact HB.out) | (with_reducible apply below_alloc) | (with_reducible apply pw_below_drewN) | (with_reducible apply below_drew1) | (with_reducible apply below_drew) | (with_reducible exact Below.refl _ _) | (with_reducible refine below_set ?_ GE227.out) | (with_reducible refine below_set ?_ GE228.out) | (with_reducible refine below_set ?_ GE241.out))); done) | exact hG_ | (refine GW.below hG_ ?_; first | (with_reducible exact HB.out) | (repeat (first | (with_reducible first | exact HB.out | apply below_alloc | apply pw_below_drewN | apply below_drew1 | apply below_drew | exact Below.refl _ _) | exact HB.out))) | (apply GW.drewN; exact hG_) | (apply GW.drew; exact hG_)
          rintro e w55 ⟨rfl, hb⟩
          refine ⟨_, rfl, ?_⟩
          have n0_ := Aside0.mk (blk_below (g := gb227) (o := .cells #[.string a0_0, .string a0_1, .int .i64 a0_2] 50 (0, 0)) z56_ hb)
          have n1_ := Aside0.mk (blk_below (g := gb228) (o := .cells #[.string a1_0, .string a1_1, .int .i64 a1_2] 50 (0, 0)) z57_ hb)
          have n2_ := Aside0.mk (blk_below (g := gb241) (o := .cells #[.string t237, .string t238, .int .i64 t239] 50 (0, 0)) z58_ hb)
          have n3_ := Aside0.mk (below_step z5_ hb)
          clear BK227
          clear BK228
          clear BK241
          clear HB
          have BK227 := n0_
          have BK228 := n1_
          have BK241 := n2_
          have HB := n3_
          clear n0_ n1_ n2_ n3_
          (try clear hb)
          (try clear hb2)
          (try clear hk)
          (try clear hi)
          refine hK.out _ _ ⟨(blk_cell BK241.out 0).trans rfl, (blk_cell BK241.out 1).trans rfl, (blk_cell BK241.out 2).trans rfl, (blk_cell BK227.out 0).trans rfl, (blk_cell BK227.out 1).trans rfl, (blk_cell BK227.out 2).trans rfl, (blk_cell BK228.out 0).trans rfl, (blk_cell BK228.out 1).trans rfl, (blk_cell BK228.out 2).trans rfl⟩ (fun hHeld => ?_)
          clear hK K
          refine norm_ (a' := ?_) ?_ ?_
          rotate_left
          ·show Act.put _ (some 52) _ = _
           simp only [Act.put, List.setIfInBounds_toArray, List.set_cons_zero, List.set_cons_succ, i64_w, i32_w]
           rfl
          refine pure_ (i := 15) (N := some 53) (v := ?_) (a' := ?_) #[true, true, true, true, true, true, true, true, true, true, true, true, true, true, true, true, true, true, true, false, false, false] rfl rfl (any_of HT_.out (by kernel_rfl)) (fun _ _ _ h => h) (Or.inl ⟨by rfl, ?_⟩) ?_ ?_
          rotate_left
          ·intro w'
           go_simp
           with_reducible rfl
          rotate_left
          ·simp only [Act.put, List.setIfInBounds_toArray, List.set_cons_zero, List.set_cons_succ, i64_w, i32_w]
           rfl
          refine pure_ (i := 19) (N := some 57) (v := ?_) (a' := ?_) #[true, true, true, true, true, true, true, true, true, true, true, true, true, true, true, true, true, true, true, true, false, false] rfl rfl (any_of HT_.out (by kernel_rfl)) (fun _ _ _ h => h) (Or.inl ⟨by rfl, ?_⟩) ?_ ?_
          rotate_left
          ·intro w'
           go_simp
           with_reducible rfl
          rotate_left
          ·simp only [Act.put, List.setIfInBounds_toArray, List.set_cons_zero, List.set_cons_succ, i64_w, i32_w]
           rfl
          refine pure_ (i := 20) (N := some 58) (v := ?_) (a' := ?_) #[true, true, true, true, true, true, true, true, true, true, true, true, true, true, true, true, true, true, true, true, true, false] rfl rfl (any_of HT_.out (by kernel_rfl)) (fun _ _ _ h => h) (Or.inl ⟨by rfl, ?_⟩) ?_ ?_
          rotate_left
          ·intro w'
           go_simp
           with_reducible rfl
          rotate_left
          ·simp only [Act.put, List.setIfInBounds_toArray, List.set_cons_zero, List.set_cons_succ, i64_w, i32_w]
           rfl
          refine pure_ (i := 21) (N := some 4) (v := ?_) (a' := ?_) #[true, true, true, true, true, true, true, true, true, true, true, true, true, true, true, true, true, true, true, true, true, true] rfl rfl (any_of HT_.out (by kernel_rfl)) (fun _ _ _ h => h) (Or.inl ⟨by rfl, ?_⟩) ?_ ?_
          rotate_left
          ·intro w'
           go_simp
           with_reducible rfl
          rotate_left
          ·simp only [Act.put, List.setIfInBounds_toArray, List.set_cons_zero, List.set_cons_succ, i64_w, i32_w]
           rfl
          refine done_ (done_of HT_.out (by kernel_rfl)) ?_
          try go_wp2
          go_ret
          exact ⟨z34_, z5_⟩
         ·rw [if_neg c40] at H
          have c40b0 : (t240 == 0) = false := beq_eq_false_iff_ne.mpr c40
          have c40b1 : (t240 != 0) = true := bne_iff_ne.mpr c40
          exact absurd ((Option.some.inj H).trans hr_) Bool.false_ne_true
        ·rw [if_neg c39] at H
         have c39b0 : (t237.toList == a0_0.toList && (t238.toList == a0_1.toList && (t239 == a0_2))) = false := by simpa using c39
         (try (have c39b1 : decide (t237.toList = a0_0.toList && (t238.toList == a0_1.toList && (t239 == a0_2))) = false := by simpa using c39))
         (try (have c39b2 : (t237.toList == a0_0.toList && (t238.toList == a0_1.toList && (t239 == a0_2))) = false := by simpa using c39))
         (try (have c39b3 : ¬ (t237.toList = a0_0.toList && (t238.toList == a0_1.toList && (t239 == a0_2))) := by simpa using c39))
         clear c39
         exact absurd ((Option.some.inj H).trans hr_) Bool.false_ne_true
       ·replace c38 := Bool.eq_false_iff.mpr c38
        subst c38
        have H1 : (some false) = some r := by rw [if_neg (show ¬ (false = true) by decide)] at H; exact H
        clear H
        have H := H1
        clear H1
        exact absurd ((Option.some.inj H).trans hr_) Bool.false_ne_true

end Go.Proofs.YtindkgcbglonhaaDoor.Hand
