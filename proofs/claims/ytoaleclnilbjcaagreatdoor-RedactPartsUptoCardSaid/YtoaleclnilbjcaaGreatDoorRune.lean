/- strings.IndexRune of "/?#" at a rune beyond ASCII, strings.IndexAny of any text with "/?#". No condition but the text's size. -/
import Derived.Test.YtoaleclnilbjcaaGreatDoorShelf
import Derived.Test.YtoaleclnilbjcaaGreatDoorGW
import Derived.Laws.RangeAny
import Derived.WalkKit
import Derived.WalkMore
import Derived.Lib.OthersKept
import Derived.Test.YtoaleclnilbjcaaGreatDoorPz
import Derived.Test.YtoaleclnilbjcaaGreatDoorWMore
namespace Go.Proofs.YtoaleclnilbjcaaGreatDoor.Hand
open Go.RowKit Go.Proofs.YtoaleclnilbjcaaGreatDoorW.PrintWords Go.Proofs.YtoaleclnilbjcaaGreatDoorW.PrintLast Go.Proofs.YtoaleclnilbjcaaGreatDoorW.PrintMore
set_option linter.unusedVariables false
set_option linter.unusedSimpArgs false
set_option maxHeartbeats 2000000

abbrev stops : ByteArray := ⟨#[47, 63, 35]⟩
theorem enc_last (r : Int) (h0 : 128 ≤ r) (hv : Lib.validRune r = true) :
  (∃ b1 b2 : UInt8, Utf8.encode r = ⟨#[b1, b2]⟩ ∧ 128 ≤ b2.toNat) ∨ (∃ b1 b2 b3 : UInt8, Utf8.encode r = ⟨#[b1, b2, b3]⟩ ∧ 128 ≤ b3.toNat) ∨ ∃ b1 b2 b3 b4 : UInt8, Utf8.encode r = ⟨#[b1, b2, b3, b4]⟩ := by
 have hv2 : Utf8.valid r = true := by
  unfold Lib.validRune at hv
  have := of_decide_eq_true hv
  unfold Utf8.valid
  simp
  omega
 have hb : ∀ n : Nat, 128 ≤ (UInt8.ofNat (128 + n % 64)).toNat := by
  intro n
  rw [UInt8.toNat_ofNat']
  omega
 unfold Utf8.encode
 simp only [hv2, if_true]
 rw [if_neg (by omega)]
 by_cases c1 : r.toNat < 2048
 ·rw [if_pos c1]
  exact .inl ⟨_, _, rfl, hb _⟩
 ·rw [if_neg c1]
  by_cases c2 : r.toNat < 65536
  ·rw [if_pos c2]
   exact .inr (.inl ⟨_, _, _, rfl, hb _⟩)
  ·rw [if_neg c2]
   exact .inr (.inr ⟨_, _, _, _, rfl⟩)
set_option maxRecDepth 100000 in
theorem indexRune_bad (r : Int) (h0 : 128 ≤ r) (h1 : r ≠ 65533) (hv : Lib.validRune r = false) (w : World) :
  Calls Tryz.prog 63 #[.string stops, .int .i32 r] w fun e w' => e = .returned (.int .i64 (-1)) ∧ Below w.heap.size w w' := by
 have c1 : decide (0 ≤ r) = true := by simp; omega
 have c2 : decide (r < 128) = false := by simp; omega
 have c3 : (r == 65533) = false := by simp; omega
 go_enter Tryz.func63, Tryz.ntmps63
 go_wp2_with (go_at_call 103; refine (Tryz.utf8_ValidRune _ _).mono ?_; rintro e w' ⟨rfl, rfl⟩; rw [hv])
 go_ret
 exact ⟨rfl, Below.refl _ _⟩
set_option maxRecDepth 100000 in
theorem indexRune_err (w : World) :
  Calls Tryz.prog 63 #[.string stops, .int .i32 65533] w fun e w' => e = .returned (.int .i64 (-1)) ∧ Below w.heap.size w w' := by
 go_enter Tryz.func63, Tryz.ntmps63
 go_wp2
 go_loopg [5, 6] 3 (fun g _ _ wx => ∃ i : Nat, i + g = 3 ∧ wx = w.iter stops i)
 case atStart => exact ⟨0, by omega, rfl⟩
 case round =>
  obtain ⟨i, hig, rfl⟩ := hrel
  cases gk with
  | zero =>
   obtain rfl : i = 3 := by omega
   have hnx := run_next_end (P := Tryz.prog) w stops 3
   go_wp2
   go_ret
   exact ⟨rfl, (Below.refl _ _).alloc (Nat.le_refl _) _⟩
  | succ g =>
   have hi : i < stops.size := by show i < 3; omega
   have hx128 : (stops[i]'hi).toNat < 128 := by
    have : i = 0 ∨ i = 1 ∨ i = 2 := by omega
    rcases this with rfl | rfl | rfl
    ·exact (by decide : (47 : UInt8).toNat < 128)
    ·exact (by decide : (63 : UInt8).toNat < 128)
    ·exact (by decide : (35 : UInt8).toNat < 128)
   obtain ⟨x, hx⟩ : ∃ x : UInt8, stops[i]'hi = x := ⟨_, rfl⟩
   have hnx := fun ty => run_next_ascii (P := Tryz.prog) w stops i ty hi (by exact hx128)
   rw [hx] at hnx hx128
   have hne : ((x.toNat : Int) == 65533) = false := by simp; omega
   go_wp2
   go_roundg g
   case measure => omega
   case rel => exact ⟨i + 1, by omega, rfl⟩
set_option maxRecDepth 100000 in
theorem indexRune_two (r : Int) (b1 b2 : UInt8) (hE : Utf8.encode r = ⟨#[b1, b2]⟩) (hb : 128 ≤ b2.toNat) (h0 : 128 ≤ r) (h1 : r ≠ 65533) (hv : Lib.validRune r = true) (w : World) :
  Calls Tryz.prog 63 #[.string stops, .int .i32 r] w fun e w' => e = .returned (.int .i64 (-1)) ∧ Below w.heap.size w w' := by
 have c1 : decide (0 ≤ r) = true := by simp; omega
 have c2 : decide (r < 128) = false := by simp; omega
 have c3 : (r == 65533) = false := by simp; omega
 have c4 : ((63 : Int) != (b2.toNat : Int)) = true := by simp; omega
 have c5 : Lib.indexByte ([35] : List UInt8) b2 = -1 := by
  have : b2 ≠ 35 := by rintro rfl; simp at hb
  simp [Lib.indexByte, Ne.symm this]
 go_enter Tryz.func63, Tryz.ntmps63
 go_wp2_with (go_at_call 103; refine (Tryz.utf8_ValidRune _ _).mono ?_; rintro e w' ⟨rfl, rfl⟩; rw [hv])
 go_step3
 go_wp2
 go_loopg [9, 10, 11, 12] 0 (fun g x _ _ _ wx => x = .int .i64 1 ∧ wx = w')
 case atStart => exact ⟨rfl, rfl⟩
 case round =>
  obtain ⟨rfl, rfl⟩ := hrel
  go_wp2_with (go_step3)
  refine start_ (n := 7) (S := fun _ => True) (ds := []) (tb_ 7 0) (by kernel_rfl) rfl rfl trivial (fun hHeld => ?_)
  refine with_tab (T := rtab .any (opsOf Tryz.f63 6)) rfl (fun HT_ => ?_)
  refine pz_ 0 27 (tb_ 7 1) HT_.out ?_
  refine pz_ 1 28 (tb_ 7 3) HT_.out ?_
  refine pz_ 2 29 (tb_ 7 7) HT_.out ?_
  refine pz_ 3 30 (tb_ 7 15) HT_.out ?_
  refine pz_ 4 31 (tb_ 7 31) HT_.out ?_
  refine pz_ 5 32 (tb_ 7 63) HT_.out ?_
  refine pzv_ 6 33 (tb_ 7 127) (.bool true) HT_.out ?_ ?_
  ·refine Or.inl ⟨by rfl, fun w' => ?_⟩
   go_simp
   exact bne_iff_ne.1 c4
  refine done_ (done_of HT_.out (by kernel_rfl)) ?_
  clear HT_ hHeld
  have HB1 := Lib.hid (below_drew1 (Below.refl wr.heap.size wr))
  generalize wr.drew = w1 at HB1 ⊢
  go_wp2
  refine start_ (n := 9) (S := fun _ => True) (ds := []) (tb_ 9 0) (by kernel_rfl) rfl rfl trivial (fun hHeld => ?_)
  refine with_tab (T := rtab .any (opsOf Tryz.f63 7)) rfl (fun HT_ => ?_)
  refine pz_ 0 34 (tb_ 9 1) HT_.out ?_
  refine pz_ 1 35 (tb_ 9 3) HT_.out ?_
  refine pzv_ 2 36 (tb_ 9 7) (.int .i64 (1 + 1)) HT_.out ?_ ?_
  ·refine Or.inl ⟨by rfl, fun w' => ?_⟩
   go_simp
   rfl
  refine pz_ 3 37 (tb_ 9 15) HT_.out ?_
  refine pz_ 4 38 (tb_ 9 31) HT_.out ?_
  refine pz_ 5 39 (tb_ 9 63) HT_.out ?_
  refine pz_ 6 40 (tb_ 9 127) HT_.out ?_
  have HB2 := Lib.hid (below_drew1 HB1.out)
  generalize w1.drew = w2 at HB2 ⊢
  refine one_ (i := 7) (N := some 41) (tb_ 9 255) rfl rfl (one_of HT_.out (by kernel_rfl)) (by decide) (fun K hK => ?_)
  refine goes_ Tryz.func102 (by kernel_rfl) rfl #[.string ⟨([35] : List UInt8).toArray⟩, .int .u8 b2.toNat] (by rfl) rfl rfl (by (try simp only [List.map_toArray, List.map_cons, List.map_nil]); first | done | rfl) ?_
  refine (Tryz.strings_IndexByte _ _ _).mono ?_
  rintro e w3 ⟨rfl, rfl⟩
  have e5 : ((b2.toNat : Int)).toNat.toUInt8 = b2 := by simp
  rw [e5, c5]
  refine ⟨_, rfl, ?_⟩
  refine hK.out _ _ trivial (fun hHeld2 => ?_)
  clear hK K
  refine norm_ (a' := ?_) ?_ ?_
  rotate_left
  ·show Act.put _ (some 41) _ = _
   simp only [Act.put, List.setIfInBounds_toArray, List.set_cons_zero, List.set_cons_succ, i64_w, i32_w]
   rfl
  refine pz_ 8 11 (tb_ 9 511) HT_.out ?_
  refine done_ (done_of HT_.out (by kernel_rfl)) ?_
  clear HT_
  go_wp2
  rw [Exit.noGoto_ret]
  go_wp2
  rw [Exit.noGoto_ret]
  go_wp2
  go_ret
  exact ⟨rfl, HB2.out⟩
set_option maxRecDepth 100000 in
theorem indexRune_three (r : Int) (b1 b2 b3 : UInt8) (hE : Utf8.encode r = ⟨#[b1, b2, b3]⟩) (hb : 128 ≤ b3.toNat) (h0 : 128 ≤ r) (h1 : r ≠ 65533) (hv : Lib.validRune r = true) (w : World) :
  Calls Tryz.prog 63 #[.string stops, .int .i32 r] w fun e w' => e = .returned (.int .i64 (-1)) ∧ Below w.heap.size w w' := by
 have c1 : decide (0 ≤ r) = true := by simp; omega
 have c2 : decide (r < 128) = false := by simp; omega
 have c3 : (r == 65533) = false := by simp; omega
 have c4 : ((35 : Int) != (b3.toNat : Int)) = true := by simp; omega
 have c5 : Lib.indexByte ([] : List UInt8) b3 = -1 := by
  simp [Lib.indexByte]
 go_enter Tryz.func63, Tryz.ntmps63
 go_wp2_with (go_at_call 103; refine (Tryz.utf8_ValidRune _ _).mono ?_; rintro e w' ⟨rfl, rfl⟩; rw [hv])
 go_step3
 go_wp2
 go_loopg [9, 10, 11, 12] 0 (fun g x _ _ _ wx => x = .int .i64 2 ∧ wx = w')
 case atStart => exact ⟨rfl, rfl⟩
 case round =>
  obtain ⟨rfl, rfl⟩ := hrel
  go_wp2_with (go_step3)
  refine start_ (n := 7) (S := fun _ => True) (ds := []) (tb_ 7 0) (by kernel_rfl) rfl rfl trivial (fun hHeld => ?_)
  refine with_tab (T := rtab .any (opsOf Tryz.f63 6)) rfl (fun HT_ => ?_)
  refine pz_ 0 27 (tb_ 7 1) HT_.out ?_
  refine pz_ 1 28 (tb_ 7 3) HT_.out ?_
  refine pz_ 2 29 (tb_ 7 7) HT_.out ?_
  refine pz_ 3 30 (tb_ 7 15) HT_.out ?_
  refine pz_ 4 31 (tb_ 7 31) HT_.out ?_
  refine pz_ 5 32 (tb_ 7 63) HT_.out ?_
  refine pzv_ 6 33 (tb_ 7 127) (.bool true) HT_.out ?_ ?_
  ·refine Or.inl ⟨by rfl, fun w' => ?_⟩
   go_simp
   exact bne_iff_ne.1 c4
  refine done_ (done_of HT_.out (by kernel_rfl)) ?_
  clear HT_ hHeld
  have HB1 := Lib.hid (below_drew1 (Below.refl wr.heap.size wr))
  generalize wr.drew = w1 at HB1 ⊢
  go_wp2
  refine start_ (n := 9) (S := fun _ => True) (ds := []) (tb_ 9 0) (by kernel_rfl) rfl rfl trivial (fun hHeld => ?_)
  refine with_tab (T := rtab .any (opsOf Tryz.f63 7)) rfl (fun HT_ => ?_)
  refine pz_ 0 34 (tb_ 9 1) HT_.out ?_
  refine pz_ 1 35 (tb_ 9 3) HT_.out ?_
  refine pzv_ 2 36 (tb_ 9 7) (.int .i64 (2 + 1)) HT_.out ?_ ?_
  ·refine Or.inl ⟨by rfl, fun w' => ?_⟩
   go_simp
   rfl
  refine pz_ 3 37 (tb_ 9 15) HT_.out ?_
  refine pz_ 4 38 (tb_ 9 31) HT_.out ?_
  refine pz_ 5 39 (tb_ 9 63) HT_.out ?_
  refine pz_ 6 40 (tb_ 9 127) HT_.out ?_
  have HB2 := Lib.hid (below_drew1 HB1.out)
  generalize w1.drew = w2 at HB2 ⊢
  refine one_ (i := 7) (N := some 41) (tb_ 9 255) rfl rfl (one_of HT_.out (by kernel_rfl)) (by decide) (fun K hK => ?_)
  refine goes_ Tryz.func102 (by kernel_rfl) rfl #[.string ⟨([] : List UInt8).toArray⟩, .int .u8 b3.toNat] (by rfl) rfl rfl (by (try simp only [List.map_toArray, List.map_cons, List.map_nil]); first | done | rfl) ?_
  refine (Tryz.strings_IndexByte _ _ _).mono ?_
  rintro e w3 ⟨rfl, rfl⟩
  have e5 : ((b3.toNat : Int)).toNat.toUInt8 = b3 := by simp
  rw [e5, c5]
  refine ⟨_, rfl, ?_⟩
  refine hK.out _ _ trivial (fun hHeld2 => ?_)
  clear hK K
  refine norm_ (a' := ?_) ?_ ?_
  rotate_left
  ·show Act.put _ (some 41) _ = _
   simp only [Act.put, List.setIfInBounds_toArray, List.set_cons_zero, List.set_cons_succ, i64_w, i32_w]
   rfl
  refine pz_ 8 11 (tb_ 9 511) HT_.out ?_
  refine done_ (done_of HT_.out (by kernel_rfl)) ?_
  clear HT_
  go_wp2
  rw [Exit.noGoto_ret]
  go_wp2
  rw [Exit.noGoto_ret]
  go_wp2
  go_ret
  exact ⟨rfl, HB2.out⟩
set_option maxRecDepth 100000 in
theorem indexRune_four (r : Int) (b1 b2 b3 b4 : UInt8) (hE : Utf8.encode r = ⟨#[b1, b2, b3, b4]⟩) (h0 : 128 ≤ r) (h1 : r ≠ 65533) (hv : Lib.validRune r = true) (w : World) :
  Calls Tryz.prog 63 #[.string stops, .int .i32 r] w fun e w' => e = .returned (.int .i64 (-1)) ∧ Below w.heap.size w w' := by
 have c1 : decide (0 ≤ r) = true := by simp; omega
 have c2 : decide (r < 128) = false := by simp; omega
 have c3 : (r == 65533) = false := by simp; omega
 go_enter Tryz.func63, Tryz.ntmps63
 go_wp2_with (go_at_call 103; refine (Tryz.utf8_ValidRune _ _).mono ?_; rintro e w' ⟨rfl, rfl⟩; rw [hv])
 go_step3
 go_wp2
 go_loopg [9, 10, 11, 12] 0 (fun g x _ _ _ wx => x = .int .i64 3 ∧ wx = w')
 case atStart => exact ⟨rfl, rfl⟩
 case round =>
  obtain ⟨rfl, rfl⟩ := hrel
  go_wp2_with (go_step3)
  rw [Exit.noGoto_ret]
  go_wp2
  go_ret
  exact ⟨rfl, Below.refl _ _⟩
theorem indexRune_high (r : Int) (h0 : 128 ≤ r) (w : World) :
  Calls Tryz.prog 63 #[.string stops, .int .i32 r] w fun e w' => e = .returned (.int .i64 (-1)) ∧ Below w.heap.size w w' := by
 by_cases h1 : r = 65533
 ·subst h1; exact indexRune_err w
 cases hv : Lib.validRune r
 ·exact indexRune_bad r h0 h1 hv w
 ·rcases enc_last r h0 hv with ⟨b1, b2, hE, hb⟩ | ⟨b1, b2, b3, hE, hb⟩ | ⟨b1, b2, b3, b4, hE⟩
  ·exact indexRune_two r b1 b2 hE hb h0 h1 hv w
  ·exact indexRune_three r b1 b2 b3 hE hb h0 h1 hv w
  ·exact indexRune_four r b1 b2 b3 b4 hE h0 h1 hv w
theorem decode_width (s : ByteArray) (pos : Nat) : (Utf8.decode s pos).2 = 1 ∨ ((Utf8.decode s pos).2 = 2 ∧ (decide (pos + 1 < s.size) && (s.get! (pos + 1)).toNat / 64 == 2) = true)
  ∨ ((Utf8.decode s pos).2 = 3 ∧ (decide (pos + 1 < s.size) && (s.get! (pos + 1)).toNat / 64 == 2) = true ∧ (decide (pos + 2 < s.size) && (s.get! (pos + 2)).toNat / 64 == 2) = true)
  ∨ ((Utf8.decode s pos).2 = 4 ∧ (decide (pos + 1 < s.size) && (s.get! (pos + 1)).toNat / 64 == 2) = true ∧ (decide (pos + 2 < s.size) && (s.get! (pos + 2)).toNat / 64 == 2) = true ∧ (decide (pos + 3 < s.size) && (s.get! (pos + 3)).toNat / 64 == 2) = true) := by
 simp only [Utf8.decode]
 repeat' split
 all_goals simp_all
theorem cont_at {s : ByteArray} {p : Nat} (h : (decide (p < s.size) && (s.get! p).toNat / 64 == 2) = true) : p < s.size ∧ ∀ b, s.data.toList[p]? = some b → 128 ≤ b.toNat := by
 rw [Bool.and_eq_true] at h
 obtain ⟨h1, h2⟩ := h
 have h1 := of_decide_eq_true h1
 have h2 := eq_of_beq h2
 refine ⟨h1, fun b hb => ?_⟩
 have e : s.get! p = b := by
  have e1 : s.get! p = s[p]'h1 := get_at s p h1
  rw [e1]
  have := Lib.data_getElem? s p h1
  rw [hb] at this
  exact (Option.some.inj this).symm
 rw [e] at h2
 omega
theorem decode_span (s : ByteArray) (pos : Nat) (h : pos < s.size) (ha : 128 ≤ (s[pos]'h).toNat) :
  pos + (Utf8.decode s pos).2 ≤ s.size ∧ ∀ (j : Nat) b, pos ≤ j → j < pos + (Utf8.decode s pos).2 → s.data.toList[j]? = some b → 128 ≤ b.toNat := by
 have h0 : ∀ b, s.data.toList[pos]? = some b → 128 ≤ b.toNat := by
  intro b hb
  have := Lib.data_getElem? s pos h
  rw [hb] at this
  rw [Option.some.inj this]
  exact ha
 rcases decode_width s pos with e | ⟨e, c1⟩ | ⟨e, c1, c2⟩ | ⟨e, c1, c2, c3⟩ <;> rw [e]
 ·refine ⟨by omega, fun j b h1 h2 hb => ?_⟩
  obtain rfl : j = pos := by omega
  exact h0 b hb
 ·have k1 := cont_at c1
  refine ⟨by omega, fun j b h1 h2 hb => ?_⟩
  obtain rfl | rfl : j = pos ∨ j = pos + 1 := by omega
  ·exact h0 b hb
  ·exact k1.2 b hb
 ·have k1 := cont_at c1
  have k2 := cont_at c2
  refine ⟨by omega, fun j b h1 h2 hb => ?_⟩
  obtain rfl | rfl | rfl : j = pos ∨ j = pos + 1 ∨ j = pos + 2 := by omega
  ·exact h0 b hb
  ·exact k1.2 b hb
  ·exact k2.2 b hb
 ·have k1 := cont_at c1
  have k2 := cont_at c2
  have k3 := cont_at c3
  refine ⟨by omega, fun j b h1 h2 hb => ?_⟩
  obtain rfl | rfl | rfl | rfl : j = pos ∨ j = pos + 1 ∨ j = pos + 2 ∨ j = pos + 3 := by omega
  ·exact h0 b hb
  ·exact k1.2 b hb
  ·exact k2.2 b hb
  ·exact k3.2 b hb
theorem stops_high {b : UInt8} (h : 128 ≤ b.toNat) : stops.data.toList.contains b = false := by
 have h1 : b ≠ 47 := by rintro rfl; simp at h
 have h2 : b ≠ 63 := by rintro rfl; simp at h
 have h3 : b ≠ 35 := by rintro rfl; simp at h
 simp [stops, h1, h2, h3]
set_option maxRecDepth 100000 in
theorem indexAny_short (s : ByteArray) (w : World) (h8 : s.size ≤ 8) :
  Calls Tryz.prog 28 #[.string s, .string stops] w fun e w' => e = .returned (.int .i64 (Lib.indexAny s.data.toList stops.data.toList)) ∧ Below w.heap.size w w' := by
 have h8z : decide ((8 : Int) < (s.size : Int)) = false := decide_eq_false (by omega)
 go_enter Tryz.func28, Tryz.ntmps28
 go_wp2_with (go_at_call 64; refine (Tryz.strings_shouldUseASCIISet _ _).mono ?_; rintro e w' ⟨rfl, hw⟩; rw [hw, h8z])
 go_loopg [9, 10] s.size (fun g _ _ wx => ∃ i : Nat, i + g = s.size ∧ Below w.heap.size w wx ∧ wx.heap[w.heap.size]? = some (.stringIter s i) ∧ Lib.NoAny s.data.toList stops.data.toList i)
 case atStart => exact ⟨0, by omega, (Below.refl _ _).alloc (Nat.le_refl _) _, World.iter_heap _ _ _, Lib.NoAny.zero _ _⟩
 case round =>
  obtain ⟨i, hig, hb, hk, hno⟩ := hrel
  have HN := Lib.hid hno
  have HB := Lib.hid hb
  clear hno hb
  cases gk with
  | zero =>
   obtain rfl : i = s.size := by omega
   have hnx := Lib.run_next_end_at (P := Tryz.prog) wr w.heap.size s s.size
   have hnx2 := fun ty => hnx ty hk (by omega)
   clear hnx
   go_wp2
   go_ret
   exact ⟨by rw [Lib.indexAny_none (by rw [← Lib.size_eq]; exact HN.out)]; rfl, HB.out⟩
  | succ g =>
   have hi : i < s.size := by omega
   obtain ⟨x, hx⟩ : ∃ x : UInt8, s[i]'hi = x := ⟨_, rfl⟩
   have hxl : s.data.toList[i]? = some x := by rw [← hx]; exact Lib.data_getElem? s i hi
   have Hx := Lib.hid hxl
   clear hxl
   by_cases hx128 : x.toNat < 128
   ·have hnx := fun ty => Lib.run_next_ascii_at (P := Tryz.prog) wr w.heap.size s i ty hk hi (by rw [hx]; exact hx128)
    rw [hx] at hnx
    have HB2 := Lib.hid (Lib.below_iterAt HB.out (Nat.le_refl _) s (i + 1))
    have HK2 := Lib.hid (Lib.iterAt_heap wr w.heap.size s i (i + 1) hk)
    clear hx hk
    generalize wr.iterAt w.heap.size s (i + 1) = w2 at hnx HB2 HK2
    have hcon := Lib.contains_iff_indexByte stops.data.toList x
    have hback : ((x.toNat : Int)).toNat.toUInt8 = x := by simp
    cases hin : stops.data.toList.contains x
    ·have HI := Lib.hid hin
     rw [hin] at hcon
     have hlt : ¬ ((0 : Int) ≤ Lib.indexByte stops.data.toList x) := of_decide_eq_false hcon.symm
     clear hcon hin
     generalize hq : Lib.indexByte stops.data.toList x = q at hlt
     have HC := Lib.hid (Tryz.strings_IndexRune_ascii stops x.toNat w2 (by omega) (by omega))
     have hc := HC.out
     rw [hback, hq] at hc
     have HC := Lib.hid hc
     clear hc hq
     go_wp2_with (go_at_call 63; with_reducible refine HC.out.mono ?_; rintro e w' ⟨rfl, rfl⟩)
     go_roundg g
     case measure => omega
     case rel => exact ⟨i + 1, by omega, HB2.out, HK2.out, HN.out.succ Hx.out HI.out⟩
    ·have HI := Lib.hid hin
     rw [hin] at hcon
     have hge : (0 : Int) ≤ Lib.indexByte stops.data.toList x := of_decide_eq_true hcon.symm
     clear hcon hin
     generalize hq : Lib.indexByte stops.data.toList x = q at hge
     have HC := Lib.hid (Tryz.strings_IndexRune_ascii stops x.toNat w2 (by omega) (by omega))
     have hc := HC.out
     rw [hback, hq] at hc
     have HC := Lib.hid hc
     clear hc hq
     go_wp2_with (go_at_call 63; with_reducible refine HC.out.mono ?_; rintro e w' ⟨rfl, rfl⟩)
     go_ret
     exact ⟨by rw [Lib.indexAny_hit HN.out Hx.out HI.out]; rfl, HB2.out⟩
   ·have hnx := fun ty => Lib.run_next_any_at (P := Tryz.prog) wr w.heap.size s i ty hk hi
    have hd := decode_high s i hi (by rw [hx]; omega)
    have hsp := decode_span s i hi (by rw [hx]; omega)
    obtain ⟨c, hc⟩ : ∃ c, (Utf8.decode s i).1 = c := ⟨_, rfl⟩
    obtain ⟨k, hk2⟩ : ∃ k, (Utf8.decode s i).2 = k := ⟨_, rfl⟩
    rw [hc, hk2] at hnx hd
    rw [hk2] at hsp
    have HSp := Lib.hid hsp
    have hcle : c ≤ 2147483647 := by rw [← hc]; exact decode_le s i
    have HB2 := Lib.hid (Lib.below_iterAt HB.out (Nat.le_refl _) s (i + k))
    have HK2 := Lib.hid (Lib.iterAt_heap wr w.heap.size s i (i + k) hk)
    have HC := Lib.hid (indexRune_high (c : Int) (by omega))
    clear hx hk hc hk2 hsp
    generalize wr.iterAt w.heap.size s (i + k) = w2 at hnx HB2 HK2
    go_wp2_with (go_at_call 63; with_reducible refine (HC.out _).mono ?_; rintro e w3 ⟨rfl, hb3⟩; have HB3 := Lib.hid hb3; clear hb3)
    have HB4 := Lib.hid (HB2.out.trans (HB3.out.mono HB2.out.size))
    go_roundg (s.size - (i + k))
    case measure => have := hd.2; omega
    case rel =>
     have h1 := HSp.out.1
     refine ⟨i + k, by omega, HB4.out, ?_, ?_⟩
     ·have hlt : w.heap.size < w2.heap.size := (Array.getElem?_eq_some_iff.1 HK2.out).1
      rw [HB3.out.block _ hlt]
      exact HK2.out
     ·intro j b hj hb
      rcases Nat.lt_or_ge j i with hji | hji
      ·exact HN.out j b hji hb
      ·exact stops_high (HSp.out.2 j b hji hj hb)
theorem indexAny_stops (s : ByteArray) (w : World) (hs : s.size < 4294967281) :
  Calls Tryz.prog 28 #[.string s, .string stops] w fun e w' => e = .returned (.int .i64 (Lib.indexAny s.data.toList stops.data.toList)) ∧ Below w.heap.size w w' := by
 by_cases h8 : s.size ≤ 8
 ·exact indexAny_short s w h8
 ·refine (Tryz.strings_IndexAny_long (zero_of_info (n := 256) (by kernel_rfl)).1 s stops w (by decide) (by omega) hs (by decide) ?_).mono fun e w' ⟨h1, h2⟩ => ⟨h1, ?_⟩
  ·intro j b hb
   have : b ∈ stops.data.toList := List.mem_of_getElem? hb
   simp [stops] at this
   rcases this with rfl | rfl | rfl <;> decide
  ·rw [h2]
   exact ((Below.refl _ _).alloc (Nat.le_refl _) _).alloc (by simp) _
end Go.Proofs.YtoaleclnilbjcaaGreatDoor.Hand
