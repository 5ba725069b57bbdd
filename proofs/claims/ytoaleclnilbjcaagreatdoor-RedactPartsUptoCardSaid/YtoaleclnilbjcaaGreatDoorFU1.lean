/- What each Go function here computes, and that its call computes it, over contracts proved by hand (written by this project's xprint.py, which drives the kit's print). -/
import Derived.Test.YtoaleclnilbjcaaGreatDoorZ
import Derived.Test.YtoaleclnilbjcaaGreatDoorK
import Derived.Test.YtoaleclnilbjcaaGreatDoorHostG
import Derived.Test.YtoaleclnilbjcaaGreatDoorFA1
namespace Go.Proofs.YtoaleclnilbjcaaGreatDoor.Hand
open Go.RowKit Go.Proofs.YtoaleclnilbjcaaGreatDoorW.PrintWords Go.Proofs.YtoaleclnilbjcaaGreatDoorW.PrintLast Go.Proofs.YtoaleclnilbjcaaGreatDoorW.PrintMore
attribute [local go_sem] Instr.field asAgg max2_int min2_int max_two min_two max_three min_three max_four min_four   -- for this text's walks alone
set_option linter.unusedVariables false
set_option linter.unusedSimpArgs false

mutual
def url_Good.j0 : Nat → Bool → ByteArray → ByteArray → ByteArray → Int → ByteArray → Bool → ByteArray → Bool → ByteArray → Option (Bool)
 | 0, _, _, _, _, _, _, _, _, _, _ => none
 | k + 1, x8, x102000, x102001, x102002, x102003, x102004, x102005, x102006, x102007, x102008 => if x8 = true then (some false) else ((host_Good.f k x102002).bind fun t103 => (if t103 = true then ((url_clean.f k x102001 (⟨#[34, 60, 62, 92, 94, 96, 123, 124, 125, 47, 63, 35, 64]⟩ : ByteArray)).bind fun t104 => (if t104 = true then ((strings_HasPrefix.f x102004 (⟨#[47]⟩ : ByteArray)).bind fun t105 => (if t105 = true then ((url_clean.f k x102004 (⟨#[34, 60, 62, 92, 94, 96, 123, 124, 125, 63, 35]⟩ : ByteArray)).bind fun t106 => (url_Good.j1 k (!t106) x102000 x102001 x102002 x102003 x102004 x102005 x102006 x102007 x102008)) else (url_Good.j1 k (!t105) x102000 x102001 x102002 x102003 x102004 x102005 x102006 x102007 x102008))) else (url_Good.j1 k (!t104) x102000 x102001 x102002 x102003 x102004 x102005 x102006 x102007 x102008))) else (url_Good.j1 k (!t103) x102000 x102001 x102002 x102003 x102004 x102005 x102006 x102007 x102008)))
def url_Good.j1 : Nat → Bool → ByteArray → ByteArray → ByteArray → Int → ByteArray → Bool → ByteArray → Bool → ByteArray → Option (Bool)
 | 0, _, _, _, _, _, _, _, _, _, _ => none
 | k + 1, x21, x102000, x102001, x102002, x102003, x102004, x102005, x102006, x102007, x102008 => if x21 = true then (some false) else ((url_clean.f k x102006 (⟨#[34, 60, 62, 92, 94, 96, 123, 124, 125, 35]⟩ : ByteArray)).bind fun t107 => (if t107 = true then ((url_clean.f k x102008 (⟨#[34, 60, 62, 92, 94, 96, 123, 124, 125]⟩ : ByteArray)).bind fun t108 => (if t108 = true then (if x102005 = true then (url_Good.j2 k false x102000 x102001 x102002 x102003 x102004 x102005 x102006 x102007 x102008) else (url_Good.j2 k (x102006.toList != ([] : List UInt8)) x102000 x102001 x102002 x102003 x102004 x102005 x102006 x102007 x102008)) else (some false))) else (some false)))
def url_Good.j2 : Nat → Bool → ByteArray → ByteArray → ByteArray → Int → ByteArray → Bool → ByteArray → Bool → ByteArray → Option (Bool)
 | 0, _, _, _, _, _, _, _, _, _, _ => none
 | k + 1, x38, x102000, x102001, x102002, x102003, x102004, x102005, x102006, x102007, x102008 => if x38 = true then (some false) else (if x102007 = true then (if (x102001.size : Int) ≤ 128 then ((url_text.f k x102000 (⟨#[]⟩ : ByteArray) x102002 x102003 x102004 x102005 x102006 x102007 x102008).bind fun t109 => (some (decide ((t109.size : Int) ≤ 1024)))) else (some false)) else (if x102008.toList = ([] : List UInt8) then (if (x102001.size : Int) ≤ 128 then ((url_text.f k x102000 (⟨#[]⟩ : ByteArray) x102002 x102003 x102004 x102005 x102006 x102007 x102008).bind fun t110 => (some (decide ((t110.size : Int) ≤ 1024)))) else (some false)) else (some false)))
end
def url_Good.f (k : Nat) (a0_0 a0_1 a0_2 : ByteArray) (a0_3 : Int) (a0_4 : ByteArray) (a0_5 : Bool) (a0_6 : ByteArray) (a0_7 : Bool) (a0_8 : ByteArray) : Option (Bool) := (host_Default.f a0_0).bind fun t102 => (if t102 = 0 then (url_Good.j0 k (t102 == 0) a0_0 a0_1 a0_2 a0_3 a0_4 a0_5 a0_6 a0_7 a0_8) else (if a0_3 < 0 then (url_Good.j0 k (decide (a0_3 < 0)) a0_0 a0_1 a0_2 a0_3 a0_4 a0_5 a0_6 a0_7 a0_8) else (if a0_3 > 65535 then (url_Good.j0 k (decide (a0_3 > 65535)) a0_0 a0_1 a0_2 a0_3 a0_4 a0_5 a0_6 a0_7 a0_8) else (url_Good.j0 k (a0_3 == t102) a0_0 a0_1 a0_2 a0_3 a0_4 a0_5 a0_6 a0_7 a0_8))))
set_option maxHeartbeats 8000000 in
set_option maxRecDepth 100000 in
theorem url_Good.calls (k : Nat) (a0_0 a0_1 a0_2 : ByteArray) (a0_3 : Int) (a0_4 : ByteArray) (a0_5 : Bool) (a0_6 : ByteArray) (a0_7 : Bool) (a0_8 : ByteArray) (r : Bool) (w : World) (hG_ : GW w) (h : url_Good.f k a0_0 a0_1 a0_2 a0_3 a0_4 a0_5 a0_6 a0_7 a0_8 = some r) :
  Calls Tryz.prog 68 #[.agg #[.string a0_0, .string a0_1, .string a0_2, .int .i64 a0_3, .string a0_4, .bool a0_5, .string a0_6, .bool a0_7, .string a0_8]] w fun e w' => e = .returned (.bool r) ∧ Below w.heap.size w w' := by
 have hu67 := Tryz.underlying67
 have HB := Aside0.mk (Below.refl w.heap.size w)
 have H : ((host_Default.f a0_0).bind fun t102 => (if t102 = 0 then (url_Good.j0 k (t102 == 0) a0_0 a0_1 a0_2 a0_3 a0_4 a0_5 a0_6 a0_7 a0_8) else (if a0_3 < 0 then (url_Good.j0 k (decide (a0_3 < 0)) a0_0 a0_1 a0_2 a0_3 a0_4 a0_5 a0_6 a0_7 a0_8) else (if a0_3 > 65535 then (url_Good.j0 k (decide (a0_3 > 65535)) a0_0 a0_1 a0_2 a0_3 a0_4 a0_5 a0_6 a0_7 a0_8) else (url_Good.j0 k (a0_3 == t102) a0_0 a0_1 a0_2 a0_3 a0_4 a0_5 a0_6 a0_7 a0_8))))) = some r := h
 clear h
 replace H := Option.bind_eq_some_iff.mp H
 obtain ⟨t102, A20, H⟩ := H
 replace H : (if t102 = 0 then (url_Good.j0 k (t102 == 0) a0_0 a0_1 a0_2 a0_3 a0_4 a0_5 a0_6 a0_7 a0_8) else (if a0_3 < 0 then (url_Good.j0 k (decide (a0_3 < 0)) a0_0 a0_1 a0_2 a0_3 a0_4 a0_5 a0_6 a0_7 a0_8) else (if a0_3 > 65535 then (url_Good.j0 k (decide (a0_3 > 65535)) a0_0 a0_1 a0_2 a0_3 a0_4 a0_5 a0_6 a0_7 a0_8) else (url_Good.j0 k (a0_3 == t102) a0_0 a0_1 a0_2 a0_3 a0_4 a0_5 a0_6 a0_7 a0_8)))) = some r := H
 have A2 := Aside0.mk A20; clear A20; have HC3 := Aside0.mk H; clear H
 go_enter Tryz.func68, Tryz.ntmps68
 go_upto_if 8 with (first | ((with_reducible refine gate_dst (N := 1) rfl ?_); (try (refine gate_guard (by rfl) ?_; dsimp only)); refine box_event ?hg (N := 1) ?hd (cs := #[.string a0_0, .string a0_1, .string a0_2, .int .i64 a0_3, .string a0_4, .bool a0_5, .string a0_6, .bool a0_7, .string a0_8]) (t := 67) ?hr ?_; (case hd => rfl); (case hg => rfl); (case hr => first | (go_simp; done) | (go_simp; rfl)); intro gb101 hg w4 hbox hb; have n0_ := Aside0.mk (below_step z23_ hb); have n1_ := Aside0.mk (hbox); have n2_ := Aside0.mk ((by rw [hg]; exact (below_size z23_) : w.heap.size ≤ gb101)); have n3_ := Aside0.mk ((by rw [hg]; exact (below_size z23_) : w.heap.size ≤ gb101)); clear HB; have HB := n0_; have BK101 := n1_; have GW101 := n2_; have GE101 := n3_; clear n0_ n1_ n2_ n3_; clear hb hbox hg; have hcz5_0 : w4.cell? ⟨gb101, 0, none⟩ = some (.string a0_0) := (blk_cell BK101.out 0).trans rfl; have hcz5_1 : w4.cell? ⟨gb101, 1, none⟩ = some (.string a0_1) := (blk_cell BK101.out 1).trans rfl; have hcz5_2 : w4.cell? ⟨gb101, 2, none⟩ = some (.string a0_2) := (blk_cell BK101.out 2).trans rfl; have hcz5_3 : w4.cell? ⟨gb101, 3, none⟩ = some (.int .i64 a0_3) := (blk_cell BK101.out 3).trans rfl; have hcz5_4 : w4.cell? ⟨gb101, 4, none⟩ = some (.string a0_4) := (blk_cell BK101.out 4).trans rfl; have hcz5_5 : w4.cell? ⟨gb101, 5, none⟩ = some (.bool a0_5) := (blk_cell BK101.out 5).trans rfl; have hcz5_6 : w4.cell? ⟨gb101, 6, none⟩ = some (.string a0_6) := (blk_cell BK101.out 6).trans rfl; have hcz5_7 : w4.cell? ⟨gb101, 7, none⟩ = some (.bool a0_7) := (blk_cell BK101.out 7).trans rfl; have hcz5_8 : w4.cell? ⟨gb101, 8, none⟩ = some (.string a0_8) := (blk_cell BK101.out 8).trans rfl; have hfz5_0 := blk_frozen BK101.out 0; have hfz5_1 := blk_frozen BK101.out 1; have hfz5_2 := blk_frozen BK101.out 2; have hfz5_3 := blk_frozen BK101.out 3; have hfz5_4 := blk_frozen BK101.out 4; have hfz5_5 := blk_frozen BK101.out 5; have hfz5_6 := blk_frozen BK101.out 6; have hfz5_7 := blk_frozen BK101.out 7; have hfz5_8 := blk_frozen BK101.out 8) | ((with_reducible refine gate_callee (f := 106) rfl ?_); refine goesL_ (some 7) rfl rfl Tryz.func106 (by kernel_rfl) rfl #[.string a0_0] rfl z22_ ?_; (with_reducible refine (host_Default.calls a0_0 t102 _ ?gw1_ A2.out).mono ?_); (case gw1_ => exact z3_); rintro e w' ⟨rfl, ⟨nd, rfl⟩⟩; refine ⟨_, rfl, ?_⟩))
 (try simp only [Act.put, List.setIfInBounds_toArray, List.set_cons_zero, List.set_cons_succ])
 go_cut [8] (fun v8 wc => ∃ (kq : Nat) (x8_2 : Bool), v8 = .bool x8_2 ∧ Aside0 (url_Good.j0 kq x8_2 a0_0 a0_1 a0_2 a0_3 a0_4 a0_5 a0_6 a0_7 a0_8 = some r) ∧ Aside0 (kq ≤ k) ∧ Aside0 (wc.heap[gb101]? = some (.cells #[.string a0_0, .string a0_1, .string a0_2, .int .i64 a0_3, .string a0_4, .bool a0_5, .string a0_6, .bool a0_7, .string a0_8] 67 (0, 0))) ∧ Aside0 (Below w.heap.size w wc))
 case first =>
  have H := HC3.out
  clear HC3
  by_cases c6 : t102 = 0
  ·rw [if_pos c6] at H
   have c6b0 : (t102 == 0) = true := beq_iff_eq.mpr c6
   have c6b1 : (t102 != 0) = false := bne_eq_false_iff_eq.mpr c6
   clear c6
   (first | rw [c6b0] | (simp only [i64_w, i32_w]; rw [c6b0]) | skip)
   have H' := Aside0.mk H
   clear H; go_wp2; go_meet
   case rel => exact ⟨_, ((t102 == 0)), z56_, H', ⟨z63_⟩, ⟨z33_⟩, ⟨z16_⟩⟩
  ·rw [if_neg c6] at H
   have c6b0 : (t102 == 0) = false := beq_eq_false_iff_ne.mpr c6
   have c6b1 : (t102 != 0) = true := bne_iff_ne.mpr c6
   (first | rw [c6b0] | (simp only [i64_w, i32_w]; rw [c6b0]) | skip)
   by_cases c7 : a0_3 < 0
   ·rw [if_pos c7] at H
    have c7b0 : decide (a0_3 < 0) = true := decide_eq_true c7; clear c7
    have H' := Aside0.mk H
    clear H; obtain ⟨hcz8_0, hcz8_1, hcz8_2, hcz8_3, hcz8_4, hcz8_5, hcz8_6, hcz8_7, hcz8_8⟩ := blkc9_ BK101.out; obtain ⟨hfz8_0, hfz8_1, hfz8_2, hfz8_3, hfz8_4, hfz8_5, hfz8_6, hfz8_7, hfz8_8⟩ := blkf9_ BK101.out; go_wp2; go_meet
    case rel => exact ⟨_, (decide (a0_3 < 0)), z56_, H', ⟨z63_⟩, ⟨z33_⟩, ⟨z16_⟩⟩
   ·rw [if_neg c7] at H
    have c7b0 : decide (a0_3 < 0) = false := decide_eq_false c7; clear c7
    by_cases c9 : a0_3 > 65535
    ·rw [if_pos c9] at H
     have c9b0 : decide (65535 < a0_3) = true := decide_eq_true c9; clear c9
     have H' := Aside0.mk H
     clear H; obtain ⟨hcz10_0, hcz10_1, hcz10_2, hcz10_3, hcz10_4, hcz10_5, hcz10_6, hcz10_7, hcz10_8⟩ := blkc9_ BK101.out; obtain ⟨hfz10_0, hfz10_1, hfz10_2, hfz10_3, hfz10_4, hfz10_5, hfz10_6, hfz10_7, hfz10_8⟩ := blkf9_ BK101.out; go_wp2; go_meet
     case rel => exact ⟨_, (decide (a0_3 > 65535)), z56_, H', ⟨z63_⟩, ⟨z33_⟩, ⟨z16_⟩⟩
    ·rw [if_neg c9] at H
     have c9b0 : decide (65535 < a0_3) = false := decide_eq_false c9; clear c9
     have H' := Aside0.mk H
     clear H; obtain ⟨hcz11_0, hcz11_1, hcz11_2, hcz11_3, hcz11_4, hcz11_5, hcz11_6, hcz11_7, hcz11_8⟩ := blkc9_ BK101.out; obtain ⟨hfz11_0, hfz11_1, hfz11_2, hfz11_3, hfz11_4, hfz11_5, hfz11_6, hfz11_7, hfz11_8⟩ := blkf9_ BK101.out; go_wp2; go_meet
     case rel => exact ⟨_, ((a0_3 == t102)), z56_, H', ⟨z63_⟩, ⟨z33_⟩, ⟨z16_⟩⟩
 case rest =>
  clear HC3; (try clear hcz5_0 hcz5_1 hcz5_2 hcz5_3 hcz5_4 hcz5_5 hcz5_6 hcz5_7 hcz5_8); (try clear hfz5_0 hfz5_1 hfz5_2 hfz5_3 hfz5_4 hfz5_5 hfz5_6 hfz5_7 hfz5_8)
  obtain ⟨kq, x8_2, rfl, HA, HJ2, BK101, HB⟩ := hcut
  cases kq with
  | zero => exact absurd HA.out (by simp [url_Good.j0])
  | succ kj2 =>
   have H := HA.out
   clear HA
   simp only [url_Good.j0] at H
   by_cases c12 : x8_2 = true
   ·subst c12
    have H1 : (some false) = some r := by rw [if_pos rfl] at H; exact H
    clear H
    have H := H1
    clear H1
    obtain rfl := Option.some.inj H
    go_wp2
    go_ret
    exact ⟨z25_, z16_⟩
   ·replace c12 := Bool.eq_false_iff.mpr c12
    subst c12
    have H1 : ((host_Good.f kj2 a0_2).bind fun t103 => (if t103 = true then ((url_clean.f kj2 a0_1 (⟨#[34, 60, 62, 92, 94, 96, 123, 124, 125, 47, 63, 35, 64]⟩ : ByteArray)).bind fun t104 => (if t104 = true then ((strings_HasPrefix.f a0_4 (⟨#[47]⟩ : ByteArray)).bind fun t105 => (if t105 = true then ((url_clean.f kj2 a0_4 (⟨#[34, 60, 62, 92, 94, 96, 123, 124, 125, 63, 35]⟩ : ByteArray)).bind fun t106 => (url_Good.j1 kj2 (!t106) a0_0 a0_1 a0_2 a0_3 a0_4 a0_5 a0_6 a0_7 a0_8)) else (url_Good.j1 kj2 (!t105) a0_0 a0_1 a0_2 a0_3 a0_4 a0_5 a0_6 a0_7 a0_8))) else (url_Good.j1 kj2 (!t104) a0_0 a0_1 a0_2 a0_3 a0_4 a0_5 a0_6 a0_7 a0_8))) else (url_Good.j1 kj2 (!t103) a0_0 a0_1 a0_2 a0_3 a0_4 a0_5 a0_6 a0_7 a0_8))) = some r := by rw [if_neg (show ¬ (false = true) by decide)] at H; exact H
    clear H
    have H := H1
    clear H1
    replace H := Option.bind_eq_some_iff.mp H
    obtain ⟨t103, A130, H⟩ := H
    replace H : (if t103 = true then ((url_clean.f kj2 a0_1 (⟨#[34, 60, 62, 92, 94, 96, 123, 124, 125, 47, 63, 35, 64]⟩ : ByteArray)).bind fun t104 => (if t104 = true then ((strings_HasPrefix.f a0_4 (⟨#[47]⟩ : ByteArray)).bind fun t105 => (if t105 = true then ((url_clean.f kj2 a0_4 (⟨#[34, 60, 62, 92, 94, 96, 123, 124, 125, 63, 35]⟩ : ByteArray)).bind fun t106 => (url_Good.j1 kj2 (!t106) a0_0 a0_1 a0_2 a0_3 a0_4 a0_5 a0_6 a0_7 a0_8)) else (url_Good.j1 kj2 (!t105) a0_0 a0_1 a0_2 a0_3 a0_4 a0_5 a0_6 a0_7 a0_8))) else (url_Good.j1 kj2 (!t104) a0_0 a0_1 a0_2 a0_3 a0_4 a0_5 a0_6 a0_7 a0_8))) else (url_Good.j1 kj2 (!t103) a0_0 a0_1 a0_2 a0_3 a0_4 a0_5 a0_6 a0_7 a0_8)) = some r := H
    have A13 := Aside0.mk A130; clear A130; have HC14 := Aside0.mk H; clear H; obtain ⟨hcz15_0, hcz15_1, hcz15_2, hcz15_3, hcz15_4, hcz15_5, hcz15_6, hcz15_7, hcz15_8⟩ := blkc9_ BK101.out; obtain ⟨hfz15_0, hfz15_1, hfz15_2, hfz15_3, hfz15_4, hfz15_5, hfz15_6, hfz15_7, hfz15_8⟩ := blkf9_ BK101.out
    go_upto_if 21 with (first | ((with_reducible refine gate_callee (f := 107) rfl ?_); refine goesL_ (some 24) rfl rfl Tryz.func107 (by kernel_rfl) rfl #[.string a0_2] rfl z22_ ?_; (with_reducible refine (host_Good.calls kj2 a0_2 t103 _ ?gw2_ A13.out).mono ?_); (case gw2_ => exact z3_); rintro e w16 ⟨rfl, hb⟩; refine ⟨_, rfl, ?_⟩; have n0_ := Aside0.mk (blk_below (g := gb101) (o := .cells #[.string a0_0, .string a0_1, .string a0_2, .int .i64 a0_3, .string a0_4, .bool a0_5, .string a0_6, .bool a0_7, .string a0_8] 67 (0, 0)) z33_ hb); have n1_ := Aside0.mk (below_step z16_ hb); clear BK101; clear HB; have BK101 := n0_; have HB := n1_; clear n0_ n1_; (try clear hb); (try clear hb2); (try clear hk); (try clear hi)))
    (try simp only [Act.put, List.setIfInBounds_toArray, List.set_cons_zero, List.set_cons_succ])
    go_cut [21] (fun v21 wc => ∃ (kq : Nat) (x21_13 : Bool), v21 = .bool x21_13 ∧ Aside0 (url_Good.j1 kq x21_13 a0_0 a0_1 a0_2 a0_3 a0_4 a0_5 a0_6 a0_7 a0_8 = some r) ∧ Aside0 (kq ≤ kj2) ∧ Aside0 (wc.heap[gb101]? = some (.cells #[.string a0_0, .string a0_1, .string a0_2, .int .i64 a0_3, .string a0_4, .bool a0_5, .string a0_6, .bool a0_7, .string a0_8] 67 (0, 0))) ∧ Aside0 (Below w.heap.size w wc))
    case first =>
     have H := HC14.out
     clear HC14
     by_cases c17 : t103 = true
     ·subst c17
      have H1 : ((url_clean.f kj2 a0_1 (⟨#[34, 60, 62, 92, 94, 96, 123, 124, 125, 47, 63, 35, 64]⟩ : ByteArray)).bind fun t104 => (if t104 = true then ((strings_HasPrefix.f a0_4 (⟨#[47]⟩ : ByteArray)).bind fun t105 => (if t105 = true then ((url_clean.f kj2 a0_4 (⟨#[34, 60, 62, 92, 94, 96, 123, 124, 125, 63, 35]⟩ : ByteArray)).bind fun t106 => (url_Good.j1 kj2 (!t106) a0_0 a0_1 a0_2 a0_3 a0_4 a0_5 a0_6 a0_7 a0_8)) else (url_Good.j1 kj2 (!t105) a0_0 a0_1 a0_2 a0_3 a0_4 a0_5 a0_6 a0_7 a0_8))) else (url_Good.j1 kj2 (!t104) a0_0 a0_1 a0_2 a0_3 a0_4 a0_5 a0_6 a0_7 a0_8))) = some r := by rw [if_pos rfl] at H; exact H
      clear H
      have H := H1
      clear H1
      replace H := Option.bind_eq_some_iff.mp H
      obtain ⟨t104, A180, H⟩ := H
      replace H : (if t104 = true then ((strings_HasPrefix.f a0_4 (⟨#[47]⟩ : ByteArray)).bind fun t105 => (if t105 = true then ((url_clean.f kj2 a0_4 (⟨#[34, 60, 62, 92, 94, 96, 123, 124, 125, 63, 35]⟩ : ByteArray)).bind fun t106 => (url_Good.j1 kj2 (!t106) a0_0 a0_1 a0_2 a0_3 a0_4 a0_5 a0_6 a0_7 a0_8)) else (url_Good.j1 kj2 (!t105) a0_0 a0_1 a0_2 a0_3 a0_4 a0_5 a0_6 a0_7 a0_8))) else (url_Good.j1 kj2 (!t104) a0_0 a0_1 a0_2 a0_3 a0_4 a0_5 a0_6 a0_7 a0_8)) = some r := H
      have A18 := Aside0.mk A180; clear A180
      by_cases c19 : t104 = true
      ·subst c19
       have H1 : ((strings_HasPrefix.f a0_4 (⟨#[47]⟩ : ByteArray)).bind fun t105 => (if t105 = true then ((url_clean.f kj2 a0_4 (⟨#[34, 60, 62, 92, 94, 96, 123, 124, 125, 63, 35]⟩ : ByteArray)).bind fun t106 => (url_Good.j1 kj2 (!t106) a0_0 a0_1 a0_2 a0_3 a0_4 a0_5 a0_6 a0_7 a0_8)) else (url_Good.j1 kj2 (!t105) a0_0 a0_1 a0_2 a0_3 a0_4 a0_5 a0_6 a0_7 a0_8))) = some r := by rw [if_pos rfl] at H; exact H
       clear H
       have H := H1
       clear H1
       replace H := Option.bind_eq_some_iff.mp H
       obtain ⟨t105, A200, H⟩ := H
       replace H : (if t105 = true then ((url_clean.f kj2 a0_4 (⟨#[34, 60, 62, 92, 94, 96, 123, 124, 125, 63, 35]⟩ : ByteArray)).bind fun t106 => (url_Good.j1 kj2 (!t106) a0_0 a0_1 a0_2 a0_3 a0_4 a0_5 a0_6 a0_7 a0_8)) else (url_Good.j1 kj2 (!t105) a0_0 a0_1 a0_2 a0_3 a0_4 a0_5 a0_6 a0_7 a0_8)) = some r := H
       have A20 := Aside0.mk A200; clear A200
       by_cases c21 : t105 = true
       ·subst c21
        have H1 : ((url_clean.f kj2 a0_4 (⟨#[34, 60, 62, 92, 94, 96, 123, 124, 125, 63, 35]⟩ : ByteArray)).bind fun t106 => (url_Good.j1 kj2 (!t106) a0_0 a0_1 a0_2 a0_3 a0_4 a0_5 a0_6 a0_7 a0_8)) = some r := by rw [if_pos rfl] at H; exact H
        clear H
        have H := H1
        clear H1
        replace H := Option.bind_eq_some_iff.mp H
        obtain ⟨t106, A220, H⟩ := H
        replace H : (url_Good.j1 kj2 (!t106) a0_0 a0_1 a0_2 a0_3 a0_4 a0_5 a0_6 a0_7 a0_8) = some r := H
        have A22 := Aside0.mk A220; clear A220
        have H' := Aside0.mk H
        clear H; obtain ⟨hcz23_0, hcz23_1, hcz23_2, hcz23_3, hcz23_4, hcz23_5, hcz23_6, hcz23_7, hcz23_8⟩ := blkc9_ BK101.out; obtain ⟨hfz23_0, hfz23_1, hfz23_2, hfz23_3, hfz23_4, hfz23_5, hfz23_6, hfz23_7, hfz23_8⟩ := blkf9_ BK101.out
        go_wp2_with (first | ((with_reducible refine gate_callee (f := 108) rfl ?_); refine goesL_ (some 28) rfl rfl Tryz.func108 (by kernel_rfl) rfl #[.string a0_1, .string (⟨#[34, 60, 62, 92, 94, 96, 123, 124, 125, 47, 63, 35, 64]⟩ : ByteArray)] rfl z22_ ?_; (with_reducible refine (url_clean.calls kj2 a0_1 (⟨#[34, 60, 62, 92, 94, 96, 123, 124, 125, 47, 63, 35, 64]⟩ : ByteArray) true _ ?gw3_ A18.out).mono ?_); (case gw3_ => exact z3_); rintro e w' ⟨rfl, ⟨nd, rfl⟩⟩; refine ⟨_, rfl, ?_⟩) | ((with_reducible refine gate_callee (f := 62) rfl ?_); refine goesL_ (some 32) rfl rfl Tryz.func62 (by kernel_rfl) rfl #[.string a0_4, .string (⟨#[47]⟩ : ByteArray)] rfl z22_ ?_; (with_reducible refine (strings_HasPrefix.calls a0_4 (⟨#[47]⟩ : ByteArray) true _ ?gw4_ A20.out).mono ?_); (case gw4_ => exact z3_); rintro e w' ⟨rfl, ⟨nd, rfl⟩⟩; refine ⟨_, rfl, ?_⟩) | ((with_reducible refine gate_callee (f := 108) rfl ?_); refine goesL_ (some 36) rfl rfl Tryz.func108 (by kernel_rfl) rfl #[.string a0_4, .string (⟨#[34, 60, 62, 92, 94, 96, 123, 124, 125, 63, 35]⟩ : ByteArray)] rfl z22_ ?_; (with_reducible refine (url_clean.calls kj2 a0_4 (⟨#[34, 60, 62, 92, 94, 96, 123, 124, 125, 63, 35]⟩ : ByteArray) t106 _ ?gw5_ A22.out).mono ?_); (case gw5_ => exact z3_); rintro e w' ⟨rfl, ⟨nd, rfl⟩⟩; refine ⟨_, rfl, ?_⟩))
        go_meet
        case rel => exact ⟨_, (!t106), z56_, H', ⟨z60_⟩, ⟨z33_⟩, ⟨z16_⟩⟩
       ·replace c21 := Bool.eq_false_iff.mpr c21
        subst c21
        have H1 : (url_Good.j1 kj2 (!false) a0_0 a0_1 a0_2 a0_3 a0_4 a0_5 a0_6 a0_7 a0_8) = some r := by rw [if_neg (show ¬ (false = true) by decide)] at H; exact H
        clear H
        have H := H1
        clear H1
        have H' := Aside0.mk H
        clear H; obtain ⟨hcz24_0, hcz24_1, hcz24_2, hcz24_3, hcz24_4, hcz24_5, hcz24_6, hcz24_7, hcz24_8⟩ := blkc9_ BK101.out; obtain ⟨hfz24_0, hfz24_1, hfz24_2, hfz24_3, hfz24_4, hfz24_5, hfz24_6, hfz24_7, hfz24_8⟩ := blkf9_ BK101.out
        go_wp2_with (first | ((with_reducible refine gate_callee (f := 108) rfl ?_); refine goesL_ (some 28) rfl rfl Tryz.func108 (by kernel_rfl) rfl #[.string a0_1, .string (⟨#[34, 60, 62, 92, 94, 96, 123, 124, 125, 47, 63, 35, 64]⟩ : ByteArray)] rfl z22_ ?_; (with_reducible refine (url_clean.calls kj2 a0_1 (⟨#[34, 60, 62, 92, 94, 96, 123, 124, 125, 47, 63, 35, 64]⟩ : ByteArray) true _ ?gw6_ A18.out).mono ?_); (case gw6_ => exact z3_); rintro e w' ⟨rfl, ⟨nd, rfl⟩⟩; refine ⟨_, rfl, ?_⟩) | ((with_reducible refine gate_callee (f := 62) rfl ?_); refine goesL_ (some 32) rfl rfl Tryz.func62 (by kernel_rfl) rfl #[.string a0_4, .string (⟨#[47]⟩ : ByteArray)] rfl z22_ ?_; (with_reducible refine (strings_HasPrefix.calls a0_4 (⟨#[47]⟩ : ByteArray) false _ ?gw7_ A20.out).mono ?_); (case gw7_ => exact z3_); rintro e w' ⟨rfl, ⟨nd, rfl⟩⟩; refine ⟨_, rfl, ?_⟩))
        go_meet
        case rel => exact ⟨_, (!false), z56_, H', ⟨z60_⟩, ⟨z33_⟩, ⟨z16_⟩⟩
      ·replace c19 := Bool.eq_false_iff.mpr c19
       subst c19
       have H1 : (url_Good.j1 kj2 (!false) a0_0 a0_1 a0_2 a0_3 a0_4 a0_5 a0_6 a0_7 a0_8) = some r := by rw [if_neg (show ¬ (false = true) by decide)] at H; exact H
       clear H
       have H := H1
       clear H1
       have H' := Aside0.mk H
       clear H; obtain ⟨hcz25_0, hcz25_1, hcz25_2, hcz25_3, hcz25_4, hcz25_5, hcz25_6, hcz25_7, hcz25_8⟩ := blkc9_ BK101.out; obtain ⟨hfz25_0, hfz25_1, hfz25_2, hfz25_3, hfz25_4, hfz25_5, hfz25_6, hfz25_7, hfz25_8⟩ := blkf9_ BK101.out
       go_wp2_with (first | ((with_reducible refine gate_callee (f := 108) rfl ?_); refine goesL_ (some 28) rfl rfl Tryz.func108 (by kernel_rfl) rfl #[.string a0_1, .string (⟨#[34, 60, 62, 92, 94, 96, 123, 124, 125, 47, 63, 35, 64]⟩ : ByteArray)] rfl z22_ ?_; (with_reducible refine (url_clean.calls kj2 a0_1 (⟨#[34, 60, 62, 92, 94, 96, 123, 124, 125, 47, 63, 35, 64]⟩ : ByteArray) false _ ?gw8_ A18.out).mono ?_); (case gw8_ => exact z3_); rintro e w' ⟨rfl, ⟨nd, rfl⟩⟩; refine ⟨_, rfl, ?_⟩))
       go_meet
       case rel => exact ⟨_, (!false), z56_, H', ⟨z60_⟩, ⟨z33_⟩, ⟨z16_⟩⟩
     ·replace c17 := Bool.eq_false_iff.mpr c17
      subst c17
      have H1 : (url_Good.j1 kj2 (!false) a0_0 a0_1 a0_2 a0_3 a0_4 a0_5 a0_6 a0_7 a0_8) = some r := by rw [if_neg (show ¬ (false = true) by decide)] at H; exact H
      clear H
      have H := H1
      clear H1
      have H' := Aside0.mk H
      clear H; go_wp2; go_meet
      case rel => exact ⟨_, (!false), z56_, H', ⟨z60_⟩, ⟨z33_⟩, ⟨z16_⟩⟩
    case rest =>
     clear HC14; (try clear c12); (try clear hcz15_0 hcz15_1 hcz15_2 hcz15_3 hcz15_4 hcz15_5 hcz15_6 hcz15_7 hcz15_8); (try clear hcz5_0 hcz5_1 hcz5_2 hcz5_3 hcz5_4 hcz5_5 hcz5_6 hcz5_7 hcz5_8); (try clear hfz15_0 hfz15_1 hfz15_2 hfz15_3 hfz15_4 hfz15_5 hfz15_6 hfz15_7 hfz15_8); (try clear hfz5_0 hfz5_1 hfz5_2 hfz5_3 hfz5_4 hfz5_5 hfz5_6 hfz5_7 hfz5_8)
     obtain ⟨kq, x21_13, rfl, HA, HJ13, BK101, HB⟩ := hcut
     cases kq with
     | zero => exact absurd HA.out (by simp [url_Good.j1])
     | succ kj13 =>
      have H := HA.out
      clear HA
      simp only [url_Good.j1] at H
      by_cases c26 : x21_13 = true
      ·subst c26
       have H1 : (some false) = some r := by rw [if_pos rfl] at H; exact H
       clear H
       have H := H1
       clear H1
       obtain rfl := Option.some.inj H
       go_wp2
       go_ret
       exact ⟨z25_, z16_⟩
      ·replace c26 := Bool.eq_false_iff.mpr c26
       subst c26
       have H1 : ((url_clean.f kj13 a0_6 (⟨#[34, 60, 62, 92, 94, 96, 123, 124, 125, 35]⟩ : ByteArray)).bind fun t107 => (if t107 = true then ((url_clean.f kj13 a0_8 (⟨#[34, 60, 62, 92, 94, 96, 123, 124, 125]⟩ : ByteArray)).bind fun t108 => (if t108 = true then (if a0_5 = true then (url_Good.j2 kj13 false a0_0 a0_1 a0_2 a0_3 a0_4 a0_5 a0_6 a0_7 a0_8) else (url_Good.j2 kj13 (a0_6.toList != ([] : List UInt8)) a0_0 a0_1 a0_2 a0_3 a0_4 a0_5 a0_6 a0_7 a0_8)) else (some false))) else (some false))) = some r := by rw [if_neg (show ¬ (false = true) by decide)] at H; exact H
       clear H
       have H := H1
       clear H1
       replace H := Option.bind_eq_some_iff.mp H
       obtain ⟨t107, A270, H⟩ := H
       replace H : (if t107 = true then ((url_clean.f kj13 a0_8 (⟨#[34, 60, 62, 92, 94, 96, 123, 124, 125]⟩ : ByteArray)).bind fun t108 => (if t108 = true then (if a0_5 = true then (url_Good.j2 kj13 false a0_0 a0_1 a0_2 a0_3 a0_4 a0_5 a0_6 a0_7 a0_8) else (url_Good.j2 kj13 (a0_6.toList != ([] : List UInt8)) a0_0 a0_1 a0_2 a0_3 a0_4 a0_5 a0_6 a0_7 a0_8)) else (some false))) else (some false)) = some r := H
       have A27 := Aside0.mk A270; clear A270
       by_cases c28 : t107 = true
       ·subst c28
        have H1 : ((url_clean.f kj13 a0_8 (⟨#[34, 60, 62, 92, 94, 96, 123, 124, 125]⟩ : ByteArray)).bind fun t108 => (if t108 = true then (if a0_5 = true then (url_Good.j2 kj13 false a0_0 a0_1 a0_2 a0_3 a0_4 a0_5 a0_6 a0_7 a0_8) else (url_Good.j2 kj13 (a0_6.toList != ([] : List UInt8)) a0_0 a0_1 a0_2 a0_3 a0_4 a0_5 a0_6 a0_7 a0_8)) else (some false))) = some r := by rw [if_pos rfl] at H; exact H
        clear H
        have H := H1
        clear H1
        replace H := Option.bind_eq_some_iff.mp H
        obtain ⟨t108, A290, H⟩ := H
        replace H : (if t108 = true then (if a0_5 = true then (url_Good.j2 kj13 false a0_0 a0_1 a0_2 a0_3 a0_4 a0_5 a0_6 a0_7 a0_8) else (url_Good.j2 kj13 (a0_6.toList != ([] : List UInt8)) a0_0 a0_1 a0_2 a0_3 a0_4 a0_5 a0_6 a0_7 a0_8)) else (some false)) = some r := H
        have A29 := Aside0.mk A290; clear A290
        by_cases c30 : t108 = true
        ·subst c30
         have H1 : (if a0_5 = true then (url_Good.j2 kj13 false a0_0 a0_1 a0_2 a0_3 a0_4 a0_5 a0_6 a0_7 a0_8) else (url_Good.j2 kj13 (a0_6.toList != ([] : List UInt8)) a0_0 a0_1 a0_2 a0_3 a0_4 a0_5 a0_6 a0_7 a0_8)) = some r := by rw [if_pos rfl] at H; exact H
         clear H
         have H := H1
         clear H1; have HC31 := Aside0.mk H; clear H; obtain ⟨hcz32_0, hcz32_1, hcz32_2, hcz32_3, hcz32_4, hcz32_5, hcz32_6, hcz32_7, hcz32_8⟩ := blkc9_ BK101.out; obtain ⟨hfz32_0, hfz32_1, hfz32_2, hfz32_3, hfz32_4, hfz32_5, hfz32_6, hfz32_7, hfz32_8⟩ := blkf9_ BK101.out
         go_upto_region 12 with (first | ((with_reducible refine gate_callee (f := 108) rfl ?_); refine goesL_ (some 41) rfl rfl Tryz.func108 (by kernel_rfl) rfl #[.string a0_6, .string (⟨#[34, 60, 62, 92, 94, 96, 123, 124, 125, 35]⟩ : ByteArray)] rfl z22_ ?_; (with_reducible refine (url_clean.calls kj13 a0_6 (⟨#[34, 60, 62, 92, 94, 96, 123, 124, 125, 35]⟩ : ByteArray) true _ ?gw9_ A27.out).mono ?_); (case gw9_ => exact z3_); rintro e w' ⟨rfl, ⟨nd, rfl⟩⟩; refine ⟨_, rfl, ?_⟩) | ((with_reducible refine gate_callee (f := 108) rfl ?_); refine goesL_ (some 45) rfl rfl Tryz.func108 (by kernel_rfl) rfl #[.string a0_8, .string (⟨#[34, 60, 62, 92, 94, 96, 123, 124, 125]⟩ : ByteArray)] rfl z22_ ?_; (with_reducible refine (url_clean.calls kj13 a0_8 (⟨#[34, 60, 62, 92, 94, 96, 123, 124, 125]⟩ : ByteArray) true _ ?gw10_ A29.out).mono ?_); (case gw10_ => exact z3_); rintro e w' ⟨rfl, ⟨nd, rfl⟩⟩; refine ⟨_, rfl, ?_⟩))
         (try simp only [Act.put, List.setIfInBounds_toArray, List.set_cons_zero, List.set_cons_succ])
         go_cut [38] (fun v38 wc => ∃ (kq : Nat) (x38_30 : Bool), v38 = .bool x38_30 ∧ Aside0 (url_Good.j2 kq x38_30 a0_0 a0_1 a0_2 a0_3 a0_4 a0_5 a0_6 a0_7 a0_8 = some r) ∧ Aside0 (kq ≤ kj13) ∧ Aside0 (wc.heap[gb101]? = some (.cells #[.string a0_0, .string a0_1, .string a0_2, .int .i64 a0_3, .string a0_4, .bool a0_5, .string a0_6, .bool a0_7, .string a0_8] 67 (0, 0))) ∧ Aside0 (Below w.heap.size w wc))
         case first =>
          have H := HC31.out
          clear HC31
          by_cases c33 : a0_5 = true
          ·subst c33
           have H1 : (url_Good.j2 kj13 false a0_0 a0_1 a0_2 a0_3 a0_4 true a0_6 a0_7 a0_8) = some r := by rw [if_pos rfl] at H; exact H
           clear H
           have H := H1
           clear H1
           have H' := Aside0.mk H
           clear H; obtain ⟨hcz34_0, hcz34_1, hcz34_2, hcz34_3, hcz34_4, hcz34_5, hcz34_6, hcz34_7, hcz34_8⟩ := blkc9_ BK101.out; obtain ⟨hfz34_0, hfz34_1, hfz34_2, hfz34_3, hfz34_4, hfz34_5, hfz34_6, hfz34_7, hfz34_8⟩ := blkf9_ BK101.out; go_wp2; go_meet
           case rel => exact ⟨_, (false), z56_, H', ⟨by have := HJ2.out; have := HJ13.out; first | omega | exact Nat.le_refl _⟩, ⟨z33_⟩, ⟨z16_⟩⟩
          ·replace c33 := Bool.eq_false_iff.mpr c33
           subst c33
           have H1 : (url_Good.j2 kj13 (a0_6.toList != ([] : List UInt8)) a0_0 a0_1 a0_2 a0_3 a0_4 false a0_6 a0_7 a0_8) = some r := by rw [if_neg (show ¬ (false = true) by decide)] at H; exact H
           clear H
           have H := H1
           clear H1
           have H' := Aside0.mk H
           clear H; obtain ⟨hcz35_0, hcz35_1, hcz35_2, hcz35_3, hcz35_4, hcz35_5, hcz35_6, hcz35_7, hcz35_8⟩ := blkc9_ BK101.out; obtain ⟨hfz35_0, hfz35_1, hfz35_2, hfz35_3, hfz35_4, hfz35_5, hfz35_6, hfz35_7, hfz35_8⟩ := blkf9_ BK101.out; go_wp2; go_meet
           case rel => exact ⟨_, ((a0_6.toList != ([] : List UInt8))), z56_, H', ⟨by have := HJ2.out; have := HJ13.out; first | omega | exact Nat.le_refl _⟩, ⟨z33_⟩, ⟨z16_⟩⟩
         case rest =>
          clear HC31; (try clear c12); (try clear c26); (try clear c28); (try clear c30); (try clear hcz15_0 hcz15_1 hcz15_2 hcz15_3 hcz15_4 hcz15_5 hcz15_6 hcz15_7 hcz15_8); (try clear hcz32_0 hcz32_1 hcz32_2 hcz32_3 hcz32_4 hcz32_5 hcz32_6 hcz32_7 hcz32_8); (try clear hcz5_0 hcz5_1 hcz5_2 hcz5_3 hcz5_4 hcz5_5 hcz5_6 hcz5_7 hcz5_8); (try clear hfz15_0 hfz15_1 hfz15_2 hfz15_3 hfz15_4 hfz15_5 hfz15_6 hfz15_7 hfz15_8); (try clear hfz32_0 hfz32_1 hfz32_2 hfz32_3 hfz32_4 hfz32_5 hfz32_6 hfz32_7 hfz32_8); (try clear hfz5_0 hfz5_1 hfz5_2 hfz5_3 hfz5_4 hfz5_5 hfz5_6 hfz5_7 hfz5_8)
          obtain ⟨kq, x38_30, rfl, HA, HJ30, BK101, HB⟩ := hcut
          cases kq with
          | zero => exact absurd HA.out (by simp [url_Good.j2])
          | succ kj30 =>
           have H := HA.out
           clear HA
           simp only [url_Good.j2] at H
           by_cases c36 : x38_30 = true
           ·subst c36
            have H1 : (some false) = some r := by rw [if_pos rfl] at H; exact H
            clear H
            have H := H1
            clear H1
            obtain rfl := Option.some.inj H
            go_wp2
            go_ret
            exact ⟨z25_, z16_⟩
           ·replace c36 := Bool.eq_false_iff.mpr c36
            subst c36
            have H1 : (if a0_7 = true then (if (a0_1.size : Int) ≤ 128 then ((url_text.f kj30 a0_0 (⟨#[]⟩ : ByteArray) a0_2 a0_3 a0_4 a0_5 a0_6 a0_7 a0_8).bind fun t109 => (some (decide ((t109.size : Int) ≤ 1024)))) else (some false)) else (if a0_8.toList = ([] : List UInt8) then (if (a0_1.size : Int) ≤ 128 then ((url_text.f kj30 a0_0 (⟨#[]⟩ : ByteArray) a0_2 a0_3 a0_4 a0_5 a0_6 a0_7 a0_8).bind fun t110 => (some (decide ((t110.size : Int) ≤ 1024)))) else (some false)) else (some false))) = some r := by rw [if_neg (show ¬ (false = true) by decide)] at H; exact H
            clear H
            have H := H1
            clear H1
            by_cases c37 : a0_7 = true
            ·subst c37
             have H1 : (if (a0_1.size : Int) ≤ 128 then ((url_text.f kj30 a0_0 (⟨#[]⟩ : ByteArray) a0_2 a0_3 a0_4 a0_5 a0_6 true a0_8).bind fun t109 => (some (decide ((t109.size : Int) ≤ 1024)))) else (some false)) = some r := by rw [if_pos rfl] at H; exact H
             clear H
             have H := H1
             clear H1
             by_cases c38 : (a0_1.size : Int) ≤ 128
             ·rw [if_pos c38] at H
              have c38b0 : decide ((a0_1.size : Int) ≤ 128) = true := decide_eq_true c38
              have c38b1 : decide (a0_1.size ≤ 128) = true := decide_eq_true (by omega)
              clear c38
              replace H := Option.bind_eq_some_iff.mp H
              obtain ⟨t109, A390, H⟩ := H
              replace H : (some (decide ((t109.size : Int) ≤ 1024))) = some r := H
              have A39 := Aside0.mk A390; clear A390
              obtain rfl := Option.some.inj H
              obtain ⟨hcz40_0, hcz40_1, hcz40_2, hcz40_3, hcz40_4, hcz40_5, hcz40_6, hcz40_7, hcz40_8⟩ := blkc9_ BK101.out; obtain ⟨hfz40_0, hfz40_1, hfz40_2, hfz40_3, hfz40_4, hfz40_5, hfz40_6, hfz40_7, hfz40_8⟩ := blkf9_ BK101.out
              go_wp2_with (first | (go_at_call 109; (fail_if_success (have z_ := U_1)); have U_1 := trivial; (with_reducible refine (url_text.calls kj30 a0_0 (⟨#[]⟩ : ByteArray) a0_2 a0_3 a0_4 a0_5 a0_6 true a0_8 t109 _ ?gw11_ A39.out).mono ?_); (case gw11_ => exact z3_); rintro e w41 ⟨rfl, hb⟩; have n0_ := Aside0.mk (blk_below (g := gb101) (o := .cells #[.string a0_0, .string (⟨#[]⟩ : ByteArray), .string a0_2, .int .i64 a0_3, .string a0_4, .bool a0_5, .string a0_6, .bool true, .string a0_8] 67 (0, 0)) (by (with_reducible repeat (first | refine blk_drewN ?_ _ | refine blk_drew ?_ | refine blk_alloc ?_ _)); refine blk_put (cs := #[.string a0_0, .string a0_1, .string a0_2, .int .i64 a0_3, .string a0_4, .bool a0_5, .string a0_6, .bool true, .string a0_8]) ?_ 1 _ rfl; (with_reducible repeat (first | refine blk_drewN ?_ _ | refine blk_drew ?_ | refine blk_alloc ?_ _)); exact BK101.out) hb); have n1_ := Aside0.mk (below_step z16_ hb); clear BK101; clear HB; have BK101 := n0_; have HB := n1_; clear n0_ n1_; (try clear hb); (try clear hb2); (try clear hk); (try clear hi)))
              go_ret
              exact ⟨z25_, z16_⟩
             ·rw [if_neg c38] at H
              have c38b0 : decide ((a0_1.size : Int) ≤ 128) = false := decide_eq_false c38
              have c38b1 : decide (a0_1.size ≤ 128) = false := decide_eq_false (by omega)
              clear c38
              obtain rfl := Option.some.inj H
              obtain ⟨hcz42_0, hcz42_1, hcz42_2, hcz42_3, hcz42_4, hcz42_5, hcz42_6, hcz42_7, hcz42_8⟩ := blkc9_ BK101.out; obtain ⟨hfz42_0, hfz42_1, hfz42_2, hfz42_3, hfz42_4, hfz42_5, hfz42_6, hfz42_7, hfz42_8⟩ := blkf9_ BK101.out; go_wp2
              go_ret
              exact ⟨z25_, z16_⟩
            ·replace c37 := Bool.eq_false_iff.mpr c37
             subst c37
             have H1 : (if a0_8.toList = ([] : List UInt8) then (if (a0_1.size : Int) ≤ 128 then ((url_text.f kj30 a0_0 (⟨#[]⟩ : ByteArray) a0_2 a0_3 a0_4 a0_5 a0_6 false a0_8).bind fun t110 => (some (decide ((t110.size : Int) ≤ 1024)))) else (some false)) else (some false)) = some r := by rw [if_neg (show ¬ (false = true) by decide)] at H; exact H
             clear H
             have H := H1
             clear H1
             by_cases c43 : a0_8.toList = ([] : List UInt8)
             ·rw [if_pos c43] at H
              have c43b0 : (a0_8.toList == ([] : List UInt8)) = true := beq_iff_eq.mpr c43
              try have c43e0 : a0_8.toList.isEmpty = true := by rw [← nil_beq]; exact c43b0
              have c43b1 : (a0_8.toList != ([] : List UInt8)) = false := bne_eq_false_iff_eq.mpr c43
              clear c43
              by_cases c44 : (a0_1.size : Int) ≤ 128
              ·rw [if_pos c44] at H
               have c44b0 : decide ((a0_1.size : Int) ≤ 128) = true := decide_eq_true c44
               have c44b1 : decide (a0_1.size ≤ 128) = true := decide_eq_true (by omega)
               clear c44
               replace H := Option.bind_eq_some_iff.mp H
               obtain ⟨t110, A450, H⟩ := H
               replace H : (some (decide ((t110.size : Int) ≤ 1024))) = some r := H
               have A45 := Aside0.mk A450; clear A450
               obtain rfl := Option.some.inj H
               obtain ⟨hcz46_0, hcz46_1, hcz46_2, hcz46_3, hcz46_4, hcz46_5, hcz46_6, hcz46_7, hcz46_8⟩ := blkc9_ BK101.out; obtain ⟨hfz46_0, hfz46_1, hfz46_2, hfz46_3, hfz46_4, hfz46_5, hfz46_6, hfz46_7, hfz46_8⟩ := blkf9_ BK101.out
               go_wp2_with (first | (go_at_call 109; (fail_if_success (have z_ := U_2)); have U_2 := trivial; (with_reducible refine (url_text.calls kj30 a0_0 (⟨#[]⟩ : ByteArray) a0_2 a0_3 a0_4 a0_5 a0_6 false a0_8 t110 _ ?gw12_ A45.out).mono ?_); (case gw12_ => exact z3_); rintro e w47 ⟨rfl, hb⟩; have n0_ := Aside0.mk (blk_below (g := gb101) (o := .cells #[.string a0_0, .string (⟨#[]⟩ : ByteArray), .string a0_2, .int .i64 a0_3, .string a0_4, .bool a0_5, .string a0_6, .bool false, .string a0_8] 67 (0, 0)) (by (with_reducible repeat (first | refine blk_drewN ?_ _ | refine blk_drew ?_ | refine blk_alloc ?_ _)); refine blk_put (cs := #[.string a0_0, .string a0_1, .string a0_2, .int .i64 a0_3, .string a0_4, .bool a0_5, .string a0_6, .bool false, .string a0_8]) ?_ 1 _ rfl; (with_reducible repeat (first | refine blk_drewN ?_ _ | refine blk_drew ?_ | refine blk_alloc ?_ _)); exact BK101.out) hb); have n1_ := Aside0.mk (below_step z16_ hb); clear BK101; clear HB; have BK101 := n0_; have HB := n1_; clear n0_ n1_; (try clear hb); (try clear hb2); (try clear hk); (try clear hi)))
               go_ret
               exact ⟨z25_, z16_⟩
              ·rw [if_neg c44] at H
               have c44b0 : decide ((a0_1.size : Int) ≤ 128) = false := decide_eq_false c44
               have c44b1 : decide (a0_1.size ≤ 128) = false := decide_eq_false (by omega)
               clear c44
               obtain rfl := Option.some.inj H
               obtain ⟨hcz48_0, hcz48_1, hcz48_2, hcz48_3, hcz48_4, hcz48_5, hcz48_6, hcz48_7, hcz48_8⟩ := blkc9_ BK101.out; obtain ⟨hfz48_0, hfz48_1, hfz48_2, hfz48_3, hfz48_4, hfz48_5, hfz48_6, hfz48_7, hfz48_8⟩ := blkf9_ BK101.out; go_wp2
               go_ret
               exact ⟨z25_, z16_⟩
             ·rw [if_neg c43] at H
              have c43b0 : (a0_8.toList == ([] : List UInt8)) = false := beq_eq_false_iff_ne.mpr c43
              try have c43e0 : a0_8.toList.isEmpty = false := by rw [← nil_beq]; exact c43b0
              have c43b1 : (a0_8.toList != ([] : List UInt8)) = true := bne_iff_ne.mpr c43
              obtain rfl := Option.some.inj H
              obtain ⟨hcz49_0, hcz49_1, hcz49_2, hcz49_3, hcz49_4, hcz49_5, hcz49_6, hcz49_7, hcz49_8⟩ := blkc9_ BK101.out; obtain ⟨hfz49_0, hfz49_1, hfz49_2, hfz49_3, hfz49_4, hfz49_5, hfz49_6, hfz49_7, hfz49_8⟩ := blkf9_ BK101.out; go_wp2
              go_ret
              exact ⟨z25_, z16_⟩
        ·replace c30 := Bool.eq_false_iff.mpr c30
         subst c30
         have H1 : (some false) = some r := by rw [if_neg (show ¬ (false = true) by decide)] at H; exact H
         clear H
         have H := H1
         clear H1
         obtain rfl := Option.some.inj H
         obtain ⟨hcz50_0, hcz50_1, hcz50_2, hcz50_3, hcz50_4, hcz50_5, hcz50_6, hcz50_7, hcz50_8⟩ := blkc9_ BK101.out; obtain ⟨hfz50_0, hfz50_1, hfz50_2, hfz50_3, hfz50_4, hfz50_5, hfz50_6, hfz50_7, hfz50_8⟩ := blkf9_ BK101.out
         go_wp2_with (first | ((with_reducible refine gate_callee (f := 108) rfl ?_); refine goesL_ (some 41) rfl rfl Tryz.func108 (by kernel_rfl) rfl #[.string a0_6, .string (⟨#[34, 60, 62, 92, 94, 96, 123, 124, 125, 35]⟩ : ByteArray)] rfl z22_ ?_; (with_reducible refine (url_clean.calls kj13 a0_6 (⟨#[34, 60, 62, 92, 94, 96, 123, 124, 125, 35]⟩ : ByteArray) true _ ?gw13_ A27.out).mono ?_); (case gw13_ => exact z3_); rintro e w' ⟨rfl, ⟨nd, rfl⟩⟩; refine ⟨_, rfl, ?_⟩) | ((with_reducible refine gate_callee (f := 108) rfl ?_); refine goesL_ (some 45) rfl rfl Tryz.func108 (by kernel_rfl) rfl #[.string a0_8, .string (⟨#[34, 60, 62, 92, 94, 96, 123, 124, 125]⟩ : ByteArray)] rfl z22_ ?_; (with_reducible refine (url_clean.calls kj13 a0_8 (⟨#[34, 60, 62, 92, 94, 96, 123, 124, 125]⟩ : ByteArray) false _ ?gw14_ A29.out).mono ?_); (case gw14_ => exact z3_); rintro e w' ⟨rfl, ⟨nd, rfl⟩⟩; refine ⟨_, rfl, ?_⟩))
         go_ret
         exact ⟨z25_, z16_⟩
       ·replace c28 := Bool.eq_false_iff.mpr c28
        subst c28
        have H1 : (some false) = some r := by rw [if_neg (show ¬ (false = true) by decide)] at H; exact H
        clear H
        have H := H1
        clear H1
        obtain rfl := Option.some.inj H
        obtain ⟨hcz51_0, hcz51_1, hcz51_2, hcz51_3, hcz51_4, hcz51_5, hcz51_6, hcz51_7, hcz51_8⟩ := blkc9_ BK101.out; obtain ⟨hfz51_0, hfz51_1, hfz51_2, hfz51_3, hfz51_4, hfz51_5, hfz51_6, hfz51_7, hfz51_8⟩ := blkf9_ BK101.out
        go_wp2_with (first | ((with_reducible refine gate_callee (f := 108) rfl ?_); refine goesL_ (some 41) rfl rfl Tryz.func108 (by kernel_rfl) rfl #[.string a0_6, .string (⟨#[34, 60, 62, 92, 94, 96, 123, 124, 125, 35]⟩ : ByteArray)] rfl z22_ ?_; (with_reducible refine (url_clean.calls kj13 a0_6 (⟨#[34, 60, 62, 92, 94, 96, 123, 124, 125, 35]⟩ : ByteArray) false _ ?gw15_ A27.out).mono ?_); (case gw15_ => exact z3_); rintro e w' ⟨rfl, ⟨nd, rfl⟩⟩; refine ⟨_, rfl, ?_⟩))
        go_ret
        exact ⟨z25_, z16_⟩

end Go.Proofs.YtoaleclnilbjcaaGreatDoor.Hand
