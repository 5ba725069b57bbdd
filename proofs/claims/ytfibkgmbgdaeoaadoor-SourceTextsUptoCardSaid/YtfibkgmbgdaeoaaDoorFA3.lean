/- What each Go function here computes, and that its call computes it, over contracts proved by hand (written by this project's xprint.py, which drives the kit's print). -/
import Derived.Test.YtfibkgmbgdaeoaaDoorZ
import Derived.Test.YtfibkgmbgdaeoaaDoorK
import Derived.Test.YtfibkgmbgdaeoaaDoorLib
import Derived.Test.YtfibkgmbgdaeoaaDoorLow
import Derived.Test.YtfibkgmbgdaeoaaDoorFA2
namespace Go.Proofs.YtfibkgmbgdaeoaaDoor.Hand
open Go.RowKit Go.Proofs.YtfibkgmbgdaeoaaDoorW.PrintWords Go.Proofs.YtfibkgmbgdaeoaaDoorW.PrintLast Go.Proofs.YtfibkgmbgdaeoaaDoorW.PrintMore
attribute [local go_sem] Instr.field asAgg max2_int min2_int max_two min_two max_three min_three max_four min_four   -- for this text's walks alone
set_option linter.unusedVariables false
set_option linter.unusedSimpArgs false

mutual
def pursuivantref06_whole.j0 : Nat → ByteArray → ByteArray → ByteArray → ByteArray → Int → ByteArray → Bool → ByteArray → Bool → ByteArray → Option (ByteArray)
 | 0, _, _, _, _, _, _, _, _, _, _ => none
 | k + 1, x3, x123000, x123001, x123002, x123003, x123004, x123005, x123006, x123007, x123008 => if x3.size + x123002.size ≤ 9223372036854775807 then (if x123003 > 0 then ((pursuivantref06_Digits.f k x123003).bind fun t123 => (if 1 + t123.size ≤ 9223372036854775807 then (if (x3 ++ x123002).size + ((⟨#[58]⟩ : ByteArray) ++ t123).size ≤ 9223372036854775807 then (pursuivantref06_whole.j1 k ((x3 ++ x123002) ++ ((⟨#[58]⟩ : ByteArray) ++ t123)) x123000 x123001 x123002 x123003 x123004 x123005 x123006 x123007 x123008) else (none)) else (none))) else (pursuivantref06_whole.j1 k (x3 ++ x123002) x123000 x123001 x123002 x123003 x123004 x123005 x123006 x123007 x123008)) else (none)
def pursuivantref06_whole.j1 : Nat → ByteArray → ByteArray → ByteArray → ByteArray → Int → ByteArray → Bool → ByteArray → Bool → ByteArray → Option (ByteArray)
 | 0, _, _, _, _, _, _, _, _, _, _ => none
 | k + 1, x3, x123000, x123001, x123002, x123003, x123004, x123005, x123006, x123007, x123008 => if x3.size + x123004.size ≤ 9223372036854775807 then (if x123005 = true then (if 1 + x123006.size ≤ 9223372036854775807 then (if (x3 ++ x123004).size + ((⟨#[63]⟩ : ByteArray) ++ x123006).size ≤ 9223372036854775807 then (if x123007 = true then (if 1 + x123008.size ≤ 9223372036854775807 then (if ((x3 ++ x123004) ++ ((⟨#[63]⟩ : ByteArray) ++ x123006)).size + ((⟨#[35]⟩ : ByteArray) ++ x123008).size ≤ 9223372036854775807 then (some (((x3 ++ x123004) ++ ((⟨#[63]⟩ : ByteArray) ++ x123006)) ++ ((⟨#[35]⟩ : ByteArray) ++ x123008))) else (none)) else (none)) else (some ((x3 ++ x123004) ++ ((⟨#[63]⟩ : ByteArray) ++ x123006)))) else (none)) else (none)) else (if x123007 = true then (if 1 + x123008.size ≤ 9223372036854775807 then (if (x3 ++ x123004).size + ((⟨#[35]⟩ : ByteArray) ++ x123008).size ≤ 9223372036854775807 then (some ((x3 ++ x123004) ++ ((⟨#[35]⟩ : ByteArray) ++ x123008))) else (none)) else (none)) else (some (x3 ++ x123004)))) else (none)
end
def pursuivantref06_whole.f (k : Nat) (a0_0 a0_1 a0_2 : ByteArray) (a0_3 : Int) (a0_4 : ByteArray) (a0_5 : Bool) (a0_6 : ByteArray) (a0_7 : Bool) (a0_8 : ByteArray) : Option (ByteArray) := if a0_0.size + 3 ≤ 9223372036854775807 then (if a0_1.toList = ([] : List UInt8) then (pursuivantref06_whole.j0 k (a0_0 ++ (⟨#[58, 47, 47]⟩ : ByteArray)) a0_0 a0_1 a0_2 a0_3 a0_4 a0_5 a0_6 a0_7 a0_8) else (if a0_1.size + 1 ≤ 9223372036854775807 then (if (a0_0 ++ (⟨#[58, 47, 47]⟩ : ByteArray)).size + (a0_1 ++ (⟨#[64]⟩ : ByteArray)).size ≤ 9223372036854775807 then (pursuivantref06_whole.j0 k ((a0_0 ++ (⟨#[58, 47, 47]⟩ : ByteArray)) ++ (a0_1 ++ (⟨#[64]⟩ : ByteArray))) a0_0 a0_1 a0_2 a0_3 a0_4 a0_5 a0_6 a0_7 a0_8) else (none)) else (none))) else (none)
theorem pursuivantref06_whole.mono_l : ∀ k, (∀ y0 y1 y2 y3 y4 y5 y6 y7 y8 y9, LeO (pursuivantref06_whole.j0 k y0 y1 y2 y3 y4 y5 y6 y7 y8 y9) (pursuivantref06_whole.j0 (k + 1) y0 y1 y2 y3 y4 y5 y6 y7 y8 y9)) ∧ (∀ y0 y1 y2 y3 y4 y5 y6 y7 y8 y9, LeO (pursuivantref06_whole.j1 k y0 y1 y2 y3 y4 y5 y6 y7 y8 y9) (pursuivantref06_whole.j1 (k + 1) y0 y1 y2 y3 y4 y5 y6 y7 y8 y9))
 | 0 => ⟨fun _ _ _ _ _ _ _ _ _ _ r h => by simp [pursuivantref06_whole.j0] at h, fun _ _ _ _ _ _ _ _ _ _ r h => by simp [pursuivantref06_whole.j1] at h⟩
 | k + 1 => by
  obtain ⟨ih0, ih1⟩ := pursuivantref06_whole.mono_l k
  refine ⟨?_, ?_⟩
  ·intro y0 y1 y2 y3 y4 y5 y6 y7 y8 y9
   unfold pursuivantref06_whole.j0
   repeat' first
   | (with_reducible exact ih0 _ _ _ _ _ _ _ _ _ _)
   | (with_reducible exact ih1 _ _ _ _ _ _ _ _ _ _)
   | (with_reducible exact pursuivantref06_Digits.mono _ _)
   | (with_reducible exact LeO.refl _)
   | (with_reducible exact LeO.none _)
   | (with_reducible refine LeO.ite ?_ ?_)
   | (with_reducible refine LeO.bind ?_ (fun _ => ?_))
   | exact ih0 _ _ _ _ _ _ _ _ _ _
   | exact ih1 _ _ _ _ _ _ _ _ _ _
   | exact pursuivantref06_Digits.mono _ _
   | exact LeO.none _
   | refine LeO.ite ?_ ?_
   | refine LeO.bind ?_ (fun _ => ?_)
  ·intro y0 y1 y2 y3 y4 y5 y6 y7 y8 y9
   unfold pursuivantref06_whole.j1
   repeat' first
   | (with_reducible exact ih0 _ _ _ _ _ _ _ _ _ _)
   | (with_reducible exact ih1 _ _ _ _ _ _ _ _ _ _)
   | (with_reducible exact pursuivantref06_Digits.mono _ _)
   | (with_reducible exact LeO.refl _)
   | (with_reducible exact LeO.none _)
   | (with_reducible refine LeO.ite ?_ ?_)
   | (with_reducible refine LeO.bind ?_ (fun _ => ?_))
   | exact ih0 _ _ _ _ _ _ _ _ _ _
   | exact ih1 _ _ _ _ _ _ _ _ _ _
   | exact pursuivantref06_Digits.mono _ _
   | exact LeO.none _
   | refine LeO.ite ?_ ?_
   | refine LeO.bind ?_ (fun _ => ?_)
theorem pursuivantref06_whole.mono : ∀ a0 a1 a2 a3 a4 a5 a6 a7 a8 k, LeO (pursuivantref06_whole.f k a0 a1 a2 a3 a4 a5 a6 a7 a8) (pursuivantref06_whole.f (k + 1) a0 a1 a2 a3 a4 a5 a6 a7 a8) := by
 intro a0 a1 a2 a3 a4 a5 a6 a7 a8 k
 obtain ⟨ih0, ih1⟩ := pursuivantref06_whole.mono_l k
 unfold pursuivantref06_whole.f
 repeat' first
   | (with_reducible exact ih0 _ _ _ _ _ _ _ _ _ _)
   | (with_reducible exact ih1 _ _ _ _ _ _ _ _ _ _)
   | (with_reducible exact pursuivantref06_Digits.mono _ _)
   | (with_reducible exact LeO.refl _)
   | (with_reducible exact LeO.none _)
   | (with_reducible refine LeO.ite ?_ ?_)
   | (with_reducible refine LeO.bind ?_ (fun _ => ?_))
   | exact ih0 _ _ _ _ _ _ _ _ _ _
   | exact ih1 _ _ _ _ _ _ _ _ _ _
   | exact pursuivantref06_Digits.mono _ _
   | exact LeO.none _
   | refine LeO.ite ?_ ?_
   | refine LeO.bind ?_ (fun _ => ?_)
set_option maxHeartbeats 8000000 in
set_option maxRecDepth 100000 in
theorem pursuivantref06_whole.calls (k : Nat) (a0_0 a0_1 a0_2 : ByteArray) (a0_3 : Int) (a0_4 : ByteArray) (a0_5 : Bool) (a0_6 : ByteArray) (a0_7 : Bool) (a0_8 r : ByteArray) (w : World) (hG_ : GW w) (h : pursuivantref06_whole.f k a0_0 a0_1 a0_2 a0_3 a0_4 a0_5 a0_6 a0_7 a0_8 = some r) :
  Calls Tryd.prog 57 #[.agg #[.string a0_0, .string a0_1, .string a0_2, .int .i64 a0_3, .string a0_4, .bool a0_5, .string a0_6, .bool a0_7, .string a0_8]] w fun e w' => e = .returned (.string r) ∧ Below w.heap.size w w' := by
 have hu31 := Tryd.underlying31
 have HB := Aside0.mk (Below.refl w.heap.size w)
 have H : (if a0_0.size + 3 ≤ 9223372036854775807 then (if a0_1.toList = ([] : List UInt8) then (pursuivantref06_whole.j0 k (a0_0 ++ (⟨#[58, 47, 47]⟩ : ByteArray)) a0_0 a0_1 a0_2 a0_3 a0_4 a0_5 a0_6 a0_7 a0_8) else (if a0_1.size + 1 ≤ 9223372036854775807 then (if (a0_0 ++ (⟨#[58, 47, 47]⟩ : ByteArray)).size + (a0_1 ++ (⟨#[64]⟩ : ByteArray)).size ≤ 9223372036854775807 then (pursuivantref06_whole.j0 k ((a0_0 ++ (⟨#[58, 47, 47]⟩ : ByteArray)) ++ (a0_1 ++ (⟨#[64]⟩ : ByteArray))) a0_0 a0_1 a0_2 a0_3 a0_4 a0_5 a0_6 a0_7 a0_8) else (none)) else (none))) else (none)) = some r := h
 clear h
 by_cases c2 : a0_0.size + 3 ≤ 9223372036854775807
 ·rw [if_pos c2] at H
  have c2b0 := eq_true c2; have c2b1 : decide (a0_0.size + 3 ≤ 9223372036854775807) = true := decide_eq_true c2
  try have c2b2 : (9223372036854775807 < a0_0.size + 3) = False := eq_false (Nat.not_lt.2 c2)
  have HC3 := Aside0.mk H; clear H
  go_enter Tryd.func57, Tryd.ntmps57
  go_upto_if 9 with (first | ((with_reducible refine gate_dst (N := 1) rfl ?_); refine box_event ?hg (N := 1) ?hd (cs := #[.string a0_0, .string a0_1, .string a0_2, .int .i64 a0_3, .string a0_4, .bool a0_5, .string a0_6, .bool a0_7, .string a0_8]) (t := 31) ?hr ?_; (case hd => rfl); (case hg => rfl); (case hr => first | (go_simp; done) | (go_simp; rfl)); intro gb122 hg w4 hbox hb; have n0_ := Aside0.mk (below_step z40_ hb); have n1_ := Aside0.mk (hbox); have n2_ := Aside0.mk ((by rw [hg]; exact (below_size z40_) : w.heap.size ≤ gb122)); have n3_ := Aside0.mk ((by rw [hg]; exact (below_size z40_) : w.heap.size ≤ gb122)); clear HB; have HB := n0_; have BK122 := n1_; have GW122 := n2_; have GE122 := n3_; clear n0_ n1_ n2_ n3_; clear hb hbox hg; have hcz5_0 : w4.cell? ⟨gb122, 0, none⟩ = some (.string a0_0) := (blk_cell BK122.out 0).trans rfl; have hcz5_1 : w4.cell? ⟨gb122, 1, none⟩ = some (.string a0_1) := (blk_cell BK122.out 1).trans rfl; have hcz5_2 : w4.cell? ⟨gb122, 2, none⟩ = some (.string a0_2) := (blk_cell BK122.out 2).trans rfl; have hcz5_3 : w4.cell? ⟨gb122, 3, none⟩ = some (.int .i64 a0_3) := (blk_cell BK122.out 3).trans rfl; have hcz5_4 : w4.cell? ⟨gb122, 4, none⟩ = some (.string a0_4) := (blk_cell BK122.out 4).trans rfl; have hcz5_5 : w4.cell? ⟨gb122, 5, none⟩ = some (.bool a0_5) := (blk_cell BK122.out 5).trans rfl; have hcz5_6 : w4.cell? ⟨gb122, 6, none⟩ = some (.string a0_6) := (blk_cell BK122.out 6).trans rfl; have hcz5_7 : w4.cell? ⟨gb122, 7, none⟩ = some (.bool a0_7) := (blk_cell BK122.out 7).trans rfl; have hcz5_8 : w4.cell? ⟨gb122, 8, none⟩ = some (.string a0_8) := (blk_cell BK122.out 8).trans rfl; have hfz5_0 := blk_frozen BK122.out 0; have hfz5_1 := blk_frozen BK122.out 1; have hfz5_2 := blk_frozen BK122.out 2; have hfz5_3 := blk_frozen BK122.out 3; have hfz5_4 := blk_frozen BK122.out 4; have hfz5_5 := blk_frozen BK122.out 5; have hfz5_6 := blk_frozen BK122.out 6; have hfz5_7 := blk_frozen BK122.out 7; have hfz5_8 := blk_frozen BK122.out 8))
  (try simp only [Act.put, List.setIfInBounds_toArray, List.set_cons_zero, List.set_cons_succ])
  go_cut [3] (fun v3 wc => ∃ (kq : Nat) (x3_2 : ByteArray), v3 = .string x3_2 ∧ Aside0 (pursuivantref06_whole.j0 kq x3_2 a0_0 a0_1 a0_2 a0_3 a0_4 a0_5 a0_6 a0_7 a0_8 = some r) ∧ Aside0 (kq ≤ k) ∧ Aside0 (wc.heap[gb122]? = some (.cells #[.string a0_0, .string a0_1, .string a0_2, .int .i64 a0_3, .string a0_4, .bool a0_5, .string a0_6, .bool a0_7, .string a0_8] 31 (0, 0))) ∧ Aside0 (Below w.heap.size w wc))
  case first =>
   have H := HC3.out
   clear HC3
   by_cases c6 : a0_1.toList = ([] : List UInt8)
   ·rw [if_pos c6] at H
    have c6b0 : (a0_1.toList == ([] : List UInt8)) = true := beq_iff_eq.mpr c6
    try have c6e0 : a0_1.toList.isEmpty = true := by rw [← nil_beq]; exact c6b0
    have c6b1 : (a0_1.toList != ([] : List UInt8)) = false := bne_eq_false_iff_eq.mpr c6
    clear c6
    (first | rw [c6b0] | (simp only [i64_w, i32_w]; rw [c6b0]) | rw [c6e0] | skip)
    have H' := Aside0.mk H
    clear H; go_wp2; go_meet
    case rel => exact ⟨_, (a0_0 ++ (⟨#[58, 47, 47]⟩ : ByteArray)), z59_, H', ⟨z65_⟩, ⟨z44_⟩, ⟨z27_⟩⟩
   ·rw [if_neg c6] at H
    have c6b0 : (a0_1.toList == ([] : List UInt8)) = false := beq_eq_false_iff_ne.mpr c6
    try have c6e0 : a0_1.toList.isEmpty = false := by rw [← nil_beq]; exact c6b0
    have c6b1 : (a0_1.toList != ([] : List UInt8)) = true := bne_iff_ne.mpr c6
    (first | rw [c6b0] | (simp only [i64_w, i32_w]; rw [c6b0]) | rw [c6e0] | skip)
    by_cases c7 : a0_1.size + 1 ≤ 9223372036854775807
    ·rw [if_pos c7] at H
     have c7b0 := eq_true c7; have c7b1 : decide (a0_1.size + 1 ≤ 9223372036854775807) = true := decide_eq_true c7
     try have c7b2 : (9223372036854775807 < a0_1.size + 1) = False := eq_false (Nat.not_lt.2 c7)
     try have c7c0 : (9223372036854775807 ≤ a0_1.size) = False := eq_false (by omega)
     try have c7c1 : (a0_1.size < 9223372036854775807) = True := eq_true (by omega)
     by_cases c8 : (a0_0 ++ (⟨#[58, 47, 47]⟩ : ByteArray)).size + (a0_1 ++ (⟨#[64]⟩ : ByteArray)).size ≤ 9223372036854775807
     ·rw [if_pos c8] at H
      have c8b0 := eq_true c8
      try have c8m : ((a0_0.size + 3) + (a0_1.size + 1) ≤ 9223372036854775807) = True := by first | exact c8b0 | (have h_ := c8; simp only [ByteArray.size_append, Int.natCast_add] at h_; exact eq_true h_)
      have c8b1 : decide ((a0_0 ++ (⟨#[58, 47, 47]⟩ : ByteArray)).size + (a0_1 ++ (⟨#[64]⟩ : ByteArray)).size ≤ 9223372036854775807) = true := decide_eq_true c8
      try have c8b1n : decide ((a0_0.size + 3) + (a0_1.size + 1) ≤ 9223372036854775807) = true := by first | exact c8b1 | (have h_ := c8b1; simp only [ByteArray.size_append, Int.natCast_add] at h_; exact h_)
      try have c8b2 : (9223372036854775807 < (a0_0 ++ (⟨#[58, 47, 47]⟩ : ByteArray)).size + (a0_1 ++ (⟨#[64]⟩ : ByteArray)).size) = False := eq_false (Nat.not_lt.2 c8)
      try have c8b2n : (9223372036854775807 < (a0_0.size + 3) + (a0_1.size + 1)) = False := by first | exact c8b2 | (have h_ := c8b2; simp only [ByteArray.size_append, Int.natCast_add] at h_; exact h_)
      have H' := Aside0.mk H
      clear H; obtain ⟨hcz9_0, hcz9_1, hcz9_2, hcz9_3, hcz9_4, hcz9_5, hcz9_6, hcz9_7, hcz9_8⟩ := blkc9_ BK122.out; obtain ⟨hfz9_0, hfz9_1, hfz9_2, hfz9_3, hfz9_4, hfz9_5, hfz9_6, hfz9_7, hfz9_8⟩ := blkf9_ BK122.out; go_wp2; go_meet
      case rel => exact ⟨_, ((a0_0 ++ (⟨#[58, 47, 47]⟩ : ByteArray)) ++ (a0_1 ++ (⟨#[64]⟩ : ByteArray))), z59_, H', ⟨z65_⟩, ⟨z44_⟩, ⟨z27_⟩⟩
     ·rw [if_neg c8] at H
      exact absurd H (by simp)
    ·rw [if_neg c7] at H
     exact absurd H (by simp)
  case rest =>
   clear HC3; (try clear c2); (try clear c2b0); (try clear c2b1); (try clear c2b2); (try clear hcz5_0 hcz5_1 hcz5_2 hcz5_3 hcz5_4 hcz5_5 hcz5_6 hcz5_7 hcz5_8); (try clear hfz5_0 hfz5_1 hfz5_2 hfz5_3 hfz5_4 hfz5_5 hfz5_6 hfz5_7 hfz5_8)
   obtain ⟨kq, x3_2, rfl, HA, HJ2, BK122, HB⟩ := hcut
   cases kq with
   | zero => exact absurd HA.out (by simp [pursuivantref06_whole.j0])
   | succ kj2 =>
    have H := HA.out
    clear HA
    simp only [pursuivantref06_whole.j0] at H
    by_cases c10 : x3_2.size + a0_2.size ≤ 9223372036854775807
    ·rw [if_pos c10] at H
     have c10b0 := eq_true c10; have c10b1 : decide (x3_2.size + a0_2.size ≤ 9223372036854775807) = true := decide_eq_true c10
     try have c10b2 : (9223372036854775807 < x3_2.size + a0_2.size) = False := eq_false (Nat.not_lt.2 c10)
     have HC11 := Aside0.mk H; clear H; obtain ⟨hcz12_0, hcz12_1, hcz12_2, hcz12_3, hcz12_4, hcz12_5, hcz12_6, hcz12_7, hcz12_8⟩ := blkc9_ BK122.out; obtain ⟨hfz12_0, hfz12_1, hfz12_2, hfz12_3, hfz12_4, hfz12_5, hfz12_6, hfz12_7, hfz12_8⟩ := blkf9_ BK122.out
     go_upto_if 21 with (fail)
     go_cut [3] (fun v3 wc => ∃ (kq : Nat) (x3_10 : ByteArray), v3 = .string x3_10 ∧ Aside0 (pursuivantref06_whole.j1 kq x3_10 a0_0 a0_1 a0_2 a0_3 a0_4 a0_5 a0_6 a0_7 a0_8 = some r) ∧ Aside0 (kq ≤ kj2) ∧ Aside0 (wc.heap[gb122]? = some (.cells #[.string a0_0, .string a0_1, .string a0_2, .int .i64 a0_3, .string a0_4, .bool a0_5, .string a0_6, .bool a0_7, .string a0_8] 31 (0, 0))) ∧ Aside0 (Below w.heap.size w wc))
     case first =>
      have H := HC11.out
      clear HC11
      by_cases c13 : a0_3 > 0
      ·rw [if_pos c13] at H
       have c13b0 : decide (0 < a0_3) = true := decide_eq_true c13; clear c13
       (first | rw [c13b0] | (simp only [i64_w, i32_w]; rw [c13b0]) | skip)
       replace H := Option.bind_eq_some_iff.mp H
       obtain ⟨t123, A140, H⟩ := H
       replace H : (if 1 + t123.size ≤ 9223372036854775807 then (if (x3_2 ++ a0_2).size + ((⟨#[58]⟩ : ByteArray) ++ t123).size ≤ 9223372036854775807 then (pursuivantref06_whole.j1 kj2 ((x3_2 ++ a0_2) ++ ((⟨#[58]⟩ : ByteArray) ++ t123)) a0_0 a0_1 a0_2 a0_3 a0_4 a0_5 a0_6 a0_7 a0_8) else (none)) else (none)) = some r := H
       have A14 := Aside0.mk A140; clear A140
       by_cases c15 : 1 + t123.size ≤ 9223372036854775807
       ·rw [if_pos c15] at H
        have c15b0 := eq_true c15; have c15b1 : decide (1 + t123.size ≤ 9223372036854775807) = true := decide_eq_true c15
        try have c15b2 : (9223372036854775807 < 1 + t123.size) = False := eq_false (Nat.not_lt.2 c15)
        try have c15c0 : (9223372036854775807 ≤ t123.size) = False := eq_false (by omega)
        try have c15c1 : (t123.size < 9223372036854775807) = True := eq_true (by omega)
        by_cases c16 : (x3_2 ++ a0_2).size + ((⟨#[58]⟩ : ByteArray) ++ t123).size ≤ 9223372036854775807
        ·rw [if_pos c16] at H
         have c16b0 := eq_true c16
         try have c16m : ((x3_2.size + a0_2.size) + (1 + t123.size) ≤ 9223372036854775807) = True := by first | exact c16b0 | (have h_ := c16; simp only [ByteArray.size_append, Int.natCast_add] at h_; exact eq_true h_)
         have c16b1 : decide ((x3_2 ++ a0_2).size + ((⟨#[58]⟩ : ByteArray) ++ t123).size ≤ 9223372036854775807) = true := decide_eq_true c16
         try have c16b1n : decide ((x3_2.size + a0_2.size) + (1 + t123.size) ≤ 9223372036854775807) = true := by first | exact c16b1 | (have h_ := c16b1; simp only [ByteArray.size_append, Int.natCast_add] at h_; exact h_)
         try have c16b2 : (9223372036854775807 < (x3_2 ++ a0_2).size + ((⟨#[58]⟩ : ByteArray) ++ t123).size) = False := eq_false (Nat.not_lt.2 c16)
         try have c16b2n : (9223372036854775807 < (x3_2.size + a0_2.size) + (1 + t123.size)) = False := by first | exact c16b2 | (have h_ := c16b2; simp only [ByteArray.size_append, Int.natCast_add] at h_; exact h_)
         have H' := Aside0.mk H
         clear H; obtain ⟨hcz17_0, hcz17_1, hcz17_2, hcz17_3, hcz17_4, hcz17_5, hcz17_6, hcz17_7, hcz17_8⟩ := blkc9_ BK122.out; obtain ⟨hfz17_0, hfz17_1, hfz17_2, hfz17_3, hfz17_4, hfz17_5, hfz17_6, hfz17_7, hfz17_8⟩ := blkf9_ BK122.out
         go_wp2_with (first | ((with_reducible refine gate_callee (f := 22) rfl ?_); refine goesL_ (some 25) rfl rfl Tryd.func22 (by kernel_rfl) rfl #[.int .i64 a0_3] rfl z39_ ?_; (with_reducible refine (pursuivantref06_Digits.calls kj2 a0_3 t123 _ ?gw22_ A14.out).mono ?_); (case gw22_ => first | (with_reducible exact hG_) | ((with_reducible refine GW.below hG_ ?_); (repeat (first | (with_reducible exact HB.out) | (with_reducible apply below_alloc) | (with_reducible apply pw_below_drewN) | (with_reducible apply below_drew1) | (with_reducible apply below_drew) | (with_reducible exact Below.refl _ _) | (with_reducible refine below_set ?_ GE122.out))); done) | exact hG_ | (refine GW.below hG_ ?_; first | (with_reducible exact HB.out) | (repeat (first | (with_reducible first | exact HB.out | apply below_alloc | apply pw_below_drewN | apply below_drew1 | apply below_drew | exact Below.refl _ _) | exact HB.out))) | (apply GW.drewN; exact hG_) | (apply GW.drew; exact hG_)); rintro e w18 ⟨rfl, hb⟩; refine ⟨_, rfl, ?_⟩; have n0_ := Aside0.mk (blk_below (g := gb122) (o := .cells #[.string a0_0, .string a0_1, .string a0_2, .int .i64 a0_3, .string a0_4, .bool a0_5, .string a0_6, .bool a0_7, .string a0_8] 31 (0, 0)) z44_ hb); have n1_ := Aside0.mk (below_step z27_ hb); clear BK122; clear HB; have BK122 := n0_; have HB := n1_; clear n0_ n1_; (try clear hb); (try clear hb2); (try clear hk); (try clear hi)))
         go_meet
         case rel => exact ⟨_, ((x3_2 ++ a0_2) ++ ((⟨#[58]⟩ : ByteArray) ++ t123)), z59_, H', ⟨z62_⟩, ⟨z44_⟩, ⟨z27_⟩⟩
        ·rw [if_neg c16] at H
         exact absurd H (by simp)
       ·rw [if_neg c15] at H
        exact absurd H (by simp)
      ·rw [if_neg c13] at H
       have c13b0 : decide (0 < a0_3) = false := decide_eq_false c13; clear c13
       (first | rw [c13b0] | (simp only [i64_w, i32_w]; rw [c13b0]) | skip)
       have H' := Aside0.mk H
       clear H; go_wp2; go_meet
       case rel => exact ⟨_, (x3_2 ++ a0_2), z59_, H', ⟨z62_⟩, ⟨z44_⟩, ⟨z27_⟩⟩
     case rest =>
      clear HC11; (try clear c2); (try clear c2b0); (try clear c2b1); (try clear c2b2); (try clear c10); (try clear c10b0); (try clear c10b1); (try clear c10b2); (try clear hcz12_0 hcz12_1 hcz12_2 hcz12_3 hcz12_4 hcz12_5 hcz12_6 hcz12_7 hcz12_8); (try clear hcz5_0 hcz5_1 hcz5_2 hcz5_3 hcz5_4 hcz5_5 hcz5_6 hcz5_7 hcz5_8); (try clear hfz12_0 hfz12_1 hfz12_2 hfz12_3 hfz12_4 hfz12_5 hfz12_6 hfz12_7 hfz12_8); (try clear hfz5_0 hfz5_1 hfz5_2 hfz5_3 hfz5_4 hfz5_5 hfz5_6 hfz5_7 hfz5_8)
      obtain ⟨kq, x3_10, rfl, HA, HJ10, BK122, HB⟩ := hcut
      cases kq with
      | zero => exact absurd HA.out (by simp [pursuivantref06_whole.j1])
      | succ kj10 =>
       have H := HA.out
       clear HA
       simp only [pursuivantref06_whole.j1] at H
       by_cases c19 : x3_10.size + a0_4.size ≤ 9223372036854775807
       ·rw [if_pos c19] at H
        have c19b0 := eq_true c19; have c19b1 : decide (x3_10.size + a0_4.size ≤ 9223372036854775807) = true := decide_eq_true c19
        try have c19b2 : (9223372036854775807 < x3_10.size + a0_4.size) = False := eq_false (Nat.not_lt.2 c19)
        by_cases c20 : a0_5 = true
        ·subst c20
         have H1 : (if 1 + a0_6.size ≤ 9223372036854775807 then (if (x3_10 ++ a0_4).size + ((⟨#[63]⟩ : ByteArray) ++ a0_6).size ≤ 9223372036854775807 then (if a0_7 = true then (if 1 + a0_8.size ≤ 9223372036854775807 then (if ((x3_10 ++ a0_4) ++ ((⟨#[63]⟩ : ByteArray) ++ a0_6)).size + ((⟨#[35]⟩ : ByteArray) ++ a0_8).size ≤ 9223372036854775807 then (some (((x3_10 ++ a0_4) ++ ((⟨#[63]⟩ : ByteArray) ++ a0_6)) ++ ((⟨#[35]⟩ : ByteArray) ++ a0_8))) else (none)) else (none)) else (some ((x3_10 ++ a0_4) ++ ((⟨#[63]⟩ : ByteArray) ++ a0_6)))) else (none)) else (none)) = some r := by rw [if_pos rfl] at H; exact H
         clear H
         have H := H1
         clear H1
         by_cases c21 : 1 + a0_6.size ≤ 9223372036854775807
         ·rw [if_pos c21] at H
          have c21b0 := eq_true c21; have c21b1 : decide (1 + a0_6.size ≤ 9223372036854775807) = true := decide_eq_true c21
          try have c21b2 : (9223372036854775807 < 1 + a0_6.size) = False := eq_false (Nat.not_lt.2 c21)
          try have c21c0 : (9223372036854775807 ≤ a0_6.size) = False := eq_false (by omega)
          try have c21c1 : (a0_6.size < 9223372036854775807) = True := eq_true (by omega)
          by_cases c22 : (x3_10 ++ a0_4).size + ((⟨#[63]⟩ : ByteArray) ++ a0_6).size ≤ 9223372036854775807
          ·rw [if_pos c22] at H
           have c22b0 := eq_true c22
           try have c22m : ((x3_10.size + a0_4.size) + (1 + a0_6.size) ≤ 9223372036854775807) = True := by first | exact c22b0 | (have h_ := c22; simp only [ByteArray.size_append, Int.natCast_add] at h_; exact eq_true h_)
           have c22b1 : decide ((x3_10 ++ a0_4).size + ((⟨#[63]⟩ : ByteArray) ++ a0_6).size ≤ 9223372036854775807) = true := decide_eq_true c22
           try have c22b1n : decide ((x3_10.size + a0_4.size) + (1 + a0_6.size) ≤ 9223372036854775807) = true := by first | exact c22b1 | (have h_ := c22b1; simp only [ByteArray.size_append, Int.natCast_add] at h_; exact h_)
           try have c22b2 : (9223372036854775807 < (x3_10 ++ a0_4).size + ((⟨#[63]⟩ : ByteArray) ++ a0_6).size) = False := eq_false (Nat.not_lt.2 c22)
           try have c22b2n : (9223372036854775807 < (x3_10.size + a0_4.size) + (1 + a0_6.size)) = False := by first | exact c22b2 | (have h_ := c22b2; simp only [ByteArray.size_append, Int.natCast_add] at h_; exact h_)
           by_cases c23 : a0_7 = true
           ·subst c23
            have H1 : (if 1 + a0_8.size ≤ 9223372036854775807 then (if ((x3_10 ++ a0_4) ++ ((⟨#[63]⟩ : ByteArray) ++ a0_6)).size + ((⟨#[35]⟩ : ByteArray) ++ a0_8).size ≤ 9223372036854775807 then (some (((x3_10 ++ a0_4) ++ ((⟨#[63]⟩ : ByteArray) ++ a0_6)) ++ ((⟨#[35]⟩ : ByteArray) ++ a0_8))) else (none)) else (none)) = some r := by rw [if_pos rfl] at H; exact H
            clear H
            have H := H1
            clear H1
            by_cases c24 : 1 + a0_8.size ≤ 9223372036854775807
            ·rw [if_pos c24] at H
             have c24b0 := eq_true c24; have c24b1 : decide (1 + a0_8.size ≤ 9223372036854775807) = true := decide_eq_true c24
             try have c24b2 : (9223372036854775807 < 1 + a0_8.size) = False := eq_false (Nat.not_lt.2 c24)
             try have c24c0 : (9223372036854775807 ≤ a0_8.size) = False := eq_false (by omega)
             try have c24c1 : (a0_8.size < 9223372036854775807) = True := eq_true (by omega)
             by_cases c25 : ((x3_10 ++ a0_4) ++ ((⟨#[63]⟩ : ByteArray) ++ a0_6)).size + ((⟨#[35]⟩ : ByteArray) ++ a0_8).size ≤ 9223372036854775807
             ·rw [if_pos c25] at H
              have c25b0 := eq_true c25
              try have c25m : ((x3_10.size + a0_4.size + (1 + a0_6.size)) + (1 + a0_8.size) ≤ 9223372036854775807) = True := by first | exact c25b0 | (have h_ := c25; simp only [ByteArray.size_append, Int.natCast_add] at h_; exact eq_true h_)
              have c25b1 : decide (((x3_10 ++ a0_4) ++ ((⟨#[63]⟩ : ByteArray) ++ a0_6)).size + ((⟨#[35]⟩ : ByteArray) ++ a0_8).size ≤ 9223372036854775807) = true := decide_eq_true c25
              try have c25b1n : decide ((x3_10.size + a0_4.size + (1 + a0_6.size)) + (1 + a0_8.size) ≤ 9223372036854775807) = true := by first | exact c25b1 | (have h_ := c25b1; simp only [ByteArray.size_append, Int.natCast_add] at h_; exact h_)
              try have c25b2 : (9223372036854775807 < ((x3_10 ++ a0_4) ++ ((⟨#[63]⟩ : ByteArray) ++ a0_6)).size + ((⟨#[35]⟩ : ByteArray) ++ a0_8).size) = False := eq_false (Nat.not_lt.2 c25)
              try have c25b2n : (9223372036854775807 < (x3_10.size + a0_4.size + (1 + a0_6.size)) + (1 + a0_8.size)) = False := by first | exact c25b2 | (have h_ := c25b2; simp only [ByteArray.size_append, Int.natCast_add] at h_; exact h_)
              obtain rfl := Option.some.inj H
              obtain ⟨hcz26_0, hcz26_1, hcz26_2, hcz26_3, hcz26_4, hcz26_5, hcz26_6, hcz26_7, hcz26_8⟩ := blkc9_ BK122.out; obtain ⟨hfz26_0, hfz26_1, hfz26_2, hfz26_3, hfz26_4, hfz26_5, hfz26_6, hfz26_7, hfz26_8⟩ := blkf9_ BK122.out; go_wp2
              go_ret
              exact ⟨z41_, z27_⟩
             ·rw [if_neg c25] at H
              exact absurd H (by simp)
            ·rw [if_neg c24] at H
             exact absurd H (by simp)
           ·replace c23 := Bool.eq_false_iff.mpr c23
            subst c23
            have H1 : (some ((x3_10 ++ a0_4) ++ ((⟨#[63]⟩ : ByteArray) ++ a0_6))) = some r := by rw [if_neg (show ¬ (false = true) by decide)] at H; exact H
            clear H
            have H := H1
            clear H1
            obtain rfl := Option.some.inj H
            obtain ⟨hcz27_0, hcz27_1, hcz27_2, hcz27_3, hcz27_4, hcz27_5, hcz27_6, hcz27_7, hcz27_8⟩ := blkc9_ BK122.out; obtain ⟨hfz27_0, hfz27_1, hfz27_2, hfz27_3, hfz27_4, hfz27_5, hfz27_6, hfz27_7, hfz27_8⟩ := blkf9_ BK122.out; go_wp2
            go_ret
            exact ⟨z41_, z27_⟩
          ·rw [if_neg c22] at H
           exact absurd H (by simp)
         ·rw [if_neg c21] at H
          exact absurd H (by simp)
        ·replace c20 := Bool.eq_false_iff.mpr c20
         subst c20
         have H1 : (if a0_7 = true then (if 1 + a0_8.size ≤ 9223372036854775807 then (if (x3_10 ++ a0_4).size + ((⟨#[35]⟩ : ByteArray) ++ a0_8).size ≤ 9223372036854775807 then (some ((x3_10 ++ a0_4) ++ ((⟨#[35]⟩ : ByteArray) ++ a0_8))) else (none)) else (none)) else (some (x3_10 ++ a0_4))) = some r := by rw [if_neg (show ¬ (false = true) by decide)] at H; exact H
         clear H
         have H := H1
         clear H1
         by_cases c28 : a0_7 = true
         ·subst c28
          have H1 : (if 1 + a0_8.size ≤ 9223372036854775807 then (if (x3_10 ++ a0_4).size + ((⟨#[35]⟩ : ByteArray) ++ a0_8).size ≤ 9223372036854775807 then (some ((x3_10 ++ a0_4) ++ ((⟨#[35]⟩ : ByteArray) ++ a0_8))) else (none)) else (none)) = some r := by rw [if_pos rfl] at H; exact H
          clear H
          have H := H1
          clear H1
          by_cases c29 : 1 + a0_8.size ≤ 9223372036854775807
          ·rw [if_pos c29] at H
           have c29b0 := eq_true c29; have c29b1 : decide (1 + a0_8.size ≤ 9223372036854775807) = true := decide_eq_true c29
           try have c29b2 : (9223372036854775807 < 1 + a0_8.size) = False := eq_false (Nat.not_lt.2 c29)
           try have c29c0 : (9223372036854775807 ≤ a0_8.size) = False := eq_false (by omega)
           try have c29c1 : (a0_8.size < 9223372036854775807) = True := eq_true (by omega)
           by_cases c30 : (x3_10 ++ a0_4).size + ((⟨#[35]⟩ : ByteArray) ++ a0_8).size ≤ 9223372036854775807
           ·rw [if_pos c30] at H
            have c30b0 := eq_true c30
            try have c30m : ((x3_10.size + a0_4.size) + (1 + a0_8.size) ≤ 9223372036854775807) = True := by first | exact c30b0 | (have h_ := c30; simp only [ByteArray.size_append, Int.natCast_add] at h_; exact eq_true h_)
            have c30b1 : decide ((x3_10 ++ a0_4).size + ((⟨#[35]⟩ : ByteArray) ++ a0_8).size ≤ 9223372036854775807) = true := decide_eq_true c30
            try have c30b1n : decide ((x3_10.size + a0_4.size) + (1 + a0_8.size) ≤ 9223372036854775807) = true := by first | exact c30b1 | (have h_ := c30b1; simp only [ByteArray.size_append, Int.natCast_add] at h_; exact h_)
            try have c30b2 : (9223372036854775807 < (x3_10 ++ a0_4).size + ((⟨#[35]⟩ : ByteArray) ++ a0_8).size) = False := eq_false (Nat.not_lt.2 c30)
            try have c30b2n : (9223372036854775807 < (x3_10.size + a0_4.size) + (1 + a0_8.size)) = False := by first | exact c30b2 | (have h_ := c30b2; simp only [ByteArray.size_append, Int.natCast_add] at h_; exact h_)
            obtain rfl := Option.some.inj H
            obtain ⟨hcz31_0, hcz31_1, hcz31_2, hcz31_3, hcz31_4, hcz31_5, hcz31_6, hcz31_7, hcz31_8⟩ := blkc9_ BK122.out; obtain ⟨hfz31_0, hfz31_1, hfz31_2, hfz31_3, hfz31_4, hfz31_5, hfz31_6, hfz31_7, hfz31_8⟩ := blkf9_ BK122.out; go_wp2
            go_ret
            exact ⟨z41_, z27_⟩
           ·rw [if_neg c30] at H
            exact absurd H (by simp)
          ·rw [if_neg c29] at H
           exact absurd H (by simp)
         ·replace c28 := Bool.eq_false_iff.mpr c28
          subst c28
          have H1 : (some (x3_10 ++ a0_4)) = some r := by rw [if_neg (show ¬ (false = true) by decide)] at H; exact H
          clear H
          have H := H1
          clear H1
          obtain rfl := Option.some.inj H
          obtain ⟨hcz32_0, hcz32_1, hcz32_2, hcz32_3, hcz32_4, hcz32_5, hcz32_6, hcz32_7, hcz32_8⟩ := blkc9_ BK122.out; obtain ⟨hfz32_0, hfz32_1, hfz32_2, hfz32_3, hfz32_4, hfz32_5, hfz32_6, hfz32_7, hfz32_8⟩ := blkf9_ BK122.out; go_wp2
          go_ret
          exact ⟨z41_, z27_⟩
       ·rw [if_neg c19] at H
        exact absurd H (by simp)
    ·rw [if_neg c10] at H
     exact absurd H (by simp)
 ·rw [if_neg c2] at H
  exact absurd H (by simp)

end Go.Proofs.YtfibkgmbgdaeoaaDoor.Hand
