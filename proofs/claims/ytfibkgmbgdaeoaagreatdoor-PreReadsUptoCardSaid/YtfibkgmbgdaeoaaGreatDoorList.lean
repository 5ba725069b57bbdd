/- ascii.Trim and ascii.List: what the walk of each gives. Condition: texts of fewer than 4294967281 bytes. -/
import Derived.Test.YtfibkgmbgdaeoaaGreatDoorLib
import Derived.Test.YtfibkgmbgdaeoaaGreatDoorDelS
import Derived.Test.YtfibkgmbgdaeoaaGreatDoorClip
import Derived.Lib.SplitLaws
import Derived.Deep.LoopGhost
namespace Go.Proofs.YtfibkgmbgdaeoaaGreatDoor.Hand
open Go.RowKit Go.Proofs.YtfibkgmbgdaeoaaGreatDoorW.PrintWords Go.Proofs.YtfibkgmbgdaeoaaGreatDoorW.PrintLast Go.Proofs.YtfibkgmbgdaeoaaGreatDoorW.PrintMore
set_option linter.unusedVariables false
set_option linter.unusedSimpArgs false

def trimBA (s : ByteArray) : ByteArray := ⟨(Lib.trimS s.data.toList [32, 9]).toArray⟩
theorem trim_calls (s : ByteArray) (w : World) (hs : s.size ≤ 9223372036854775807) :
  Calls Tryz.prog 69 #[.string s] w fun e w' => e = .returned (.string (trimBA s)) ∧ Below w.heap.size w w' := by
 go_enter Tryz.func69, Tryz.ntmps69
 go_wp2_with fail
 refine (Any.strings_Trim_laid Tryz.lays160 (by kernel_rfl) s ⟨#[32, 9]⟩ w hs (by decide) (ascii_of_all (by decide))).mono ?_
 rintro e w' ⟨rfl, hb⟩
 go_wp2
 go_ret
 exact ⟨rfl, hb⟩

theorem splitB_mem_size (sep : ByteArray) : ∀ (k : Nat) (s x : ByteArray), x ∈ Lib.splitB sep 0 k s → x.size ≤ s.size := by
 intro k
 induction k with
 | zero => intro s x hx; rw [Lib.splitB_zero] at hx; rw [List.mem_singleton.1 hx]; exact Nat.le_refl _
 | succ k ih =>
  intro s x hx
  unfold Lib.splitB at hx
  split at hx
  ·rw [List.mem_singleton.1 hx]; exact Nat.le_refl _
  ·rcases List.mem_cons.1 hx with rfl | hx
   ·rw [ByteArray.size_extract]; omega
   ·have := ih _ _ hx
    rw [ByteArray.size_extract] at this
    omega
def partsBA (s : ByteArray) : List ByteArray := Lib.splitB ⟨#[44]⟩ 0 (Lib.countB s ⟨#[44]⟩) s
theorem partsBA_length (s : ByteArray) : (partsBA s).length = Lib.countB s ⟨#[44]⟩ + 1 := Lib.splitB_all ⟨#[44]⟩ (by decide) 0 _ s rfl
theorem partsBA_size (s : ByteArray) : (partsBA s).length ≤ s.size + 1 := by
 rw [partsBA_length]
 have := Lib.countB_le ⟨#[44]⟩ (by decide) s.size s (Nat.le_refl _)
 omega
def emptyBA (x : ByteArray) : Bool := x.toList.isEmpty
def listBA (s : ByteArray) : List ByteArray := ((partsBA s).map trimBA).filter (fun x => !emptyBA x)

theorem list1_says (PW : World → Prop) (h : ∀ (W W' : World), PW W → Below W.heap.size W W' → PW W') : SaysS PW 71 #[] emptyBA (fun _ => True) where
 enters := enters_of Tryz.func71 (by kernel_rfl) rfl
 says := fun W x _ _ => by
  show Calls Tryz.prog 71 #[.string x] W _
  go_enter Tryz.func71, Tryz.ntmps71
  go_wp2
  go_ret
  exact ⟨rfl, Below.refl _ _⟩
 later := h

def trimmed (xs : List ByteArray) (k : Nat) : List ByteArray := (xs.take k).map trimBA ++ xs.drop k
theorem trimmed_length (xs : List ByteArray) (k : Nat) : (trimmed xs k).length = xs.length := by simp [trimmed]; omega
theorem trimmed_at (xs : List ByteArray) (k : Nat) : (trimmed xs k)[k]? = xs[k]? := by
 unfold trimmed
 by_cases h : k ≤ xs.length
 ·rw [List.getElem?_append_right (by simp; omega), List.length_map, List.length_take, List.getElem?_drop]
  congr 1
  omega
 ·rw [List.getElem?_eq_none (by simp; omega), List.getElem?_eq_none (by omega)]
theorem trimmed_succ (xs : List ByteArray) (k : Nat) (x : ByteArray) (h : xs[k]? = some x) : trimmed xs (k + 1) = (trimmed xs k).set k (trimBA x) := by
 have hk : k < xs.length := (List.getElem?_eq_some_iff.1 h).1
 have hx : xs[k] = x := (List.getElem?_eq_some_iff.1 h).2
 unfold trimmed
 rw [List.take_add_one, h]
 rw [List.set_append_right _ _ (by simp; omega)]
 rw [List.drop_eq_getElem_cons hk]
 have e : k - ((xs.take k).map trimBA).length = 0 := by simp; omega
 rw [e, List.set_cons_zero]
 simp

set_option maxHeartbeats 2000000 in
theorem list_row (s : ByteArray) (w : World) (hG : GW w) (hs : s.size < 4294967281) :
  Calls Tryz.prog 51 #[.string s] w fun e w' => ∃ g cap, e = .returned (.slice (some ⟨g, 0, none⟩) (listBA s).length (listBA s).length) ∧ w.heap.size ≤ g ∧ RowAt encS 1 9 g cap w' (listBA s) ∧ Below w.heap.size w w' := by
 obtain ⟨m, hm⟩ := hG.maxLen
 have hN := partsBA_length s
 have hN2 := partsBA_size s
 have hsp := Tryz.strings_Split s ⟨#[44]⟩ m w hs hm (by decide)
 have HR0 : RowAt encS 1 9 w.heap.size (partsBA s).length (w.alloc (.cells ((partsBA s).map Value.string).toArray 9)) (partsBA s) := by
  refine ⟨⟨_, blk_new _ _, by simp⟩, fun j x hj i v hv => ?_, Nat.le_refl _, by unfold maxLen; omega⟩
  have hi : i = 0 := by have := (List.getElem?_eq_some_iff.1 hv).1; simpa [encS] using this
  subst hi
  injection hv with hv
  subst hv
  rw [blk_cell (blk_new _ _)]
  simp [hj]
 have hsp2 : Calls Tryz.prog 68 #[.string s, .string ⟨#[44]⟩] w fun e w' => e = .returned (.slice (some ⟨w.heap.size, 0, none⟩) (partsBA s).length (partsBA s).length) ∧ w' = w.alloc (.cells ((partsBA s).map Value.string).toArray 9) := by
  rw [hN]; exact hsp
 have HL : Hid (listBA s = ((partsBA s).map trimBA).filter (fun x => !emptyBA x)) := rfl
 have hpart : ∀ x ∈ partsBA s, x.size ≤ 9223372036854775807 := fun x hx => by have := splitB_mem_size _ _ s x hx; omega
 have HB0 := Aside0.mk (below_alloc (Below.refl w.heap.size w) (.cells ((partsBA s).map Value.string).toArray 9))
 have HP := Lib.hid hpart
 clear hN hsp hpart hm hG
 generalize partsBA s = xs at *
 generalize hW1 : w.alloc (.cells (xs.map Value.string).toArray 9) = w1 at *
 clear hW1
 go_enter Tryz.func51, Tryz.ntmps51
 go_wp2_with fail
 refine hsp2.mono ?_
 rintro e w' ⟨rfl, rfl⟩
 have HR1 := Aside0.mk HR0
 clear hsp2 HR0
 go_wp2_with fail
 go_loopw [9] (fun n wr => ∃ k : Nat, k ≤ xs.length ∧ n = .int .i64 k ∧ Aside0 (RowAt encS 1 9 w.heap.size xs.length wr (trimmed xs k)) ∧ Aside0 (Below w.heap.size w wr)) (fun n _ => xs.length - (intOf n).toNat)
 case atStart => exact ⟨0, Nat.zero_le _, rfl, ⟨by simpa [trimmed] using HR1.out⟩, HB0⟩
 case round =>
  obtain ⟨k, hk, rfl, HR, HB⟩ := hrel
  clear HR1 HB0
  by_cases hlt : k < xs.length
  ·have HX := Aside0.mk (List.getElem?_eq_getElem hlt)
   have hxs := HP.out _ (List.getElem_mem hlt)
   generalize xs[k] = x at *
   have hx0 := HR.out.cell k x (by rw [trimmed_at]; exact HX.out) 0 _ rfl
   rw [Nat.mul_one, Nat.add_zero] at hx0
   go_wp2_with fail
   refine (trim_calls x wr hxs).mono ?_
   rintro e w2 ⟨rfl, hb2⟩
   have HR2 := Aside0.mk (HR.out.below hb2)
   have HB2 := Aside0.mk (below_then HB.out (below_size HB.out) hb2)
   have hs0 := HR2.out.there k (by omega)
   have hf0 := HR2.out.free k
   obtain ⟨o0, ho0⟩ := Option.isSome_iff_exists.1 hs0
   clear hb2 HR HB hx0 hs0
   go_wp2
   go_roundw
   case rel =>
    refine ⟨k + 1, by omega, by go_num, ⟨?_⟩, ⟨HB2.out.setCell (p := ⟨w.heap.size, k, none⟩) (Nat.le_refl _) _⟩⟩
    have hput := HR2.out.put (enc := encS) (sz := 1) (fun _ => rfl) k (by rw [trimmed_length]; exact hlt) (trimBA x)
    rw [Nat.mul_one, ← trimmed_succ xs k x HX.out] at hput
    exact hput
   case measure => simp [intOf]; omega
  ·obtain rfl : k = xs.length := by omega
   have hxl : (xs.map trimBA).length = xs.length := List.length_map _
   have hall : trimmed xs xs.length = xs.map trimBA := by simp [trimmed]
   have HR2 := Lib.hid HR.out
   rw [hall] at HR2
   have hd := Lib.hid (deleteFuncS (list1_says (fun _ => True) (fun _ _ _ _ => trivial)) w.heap.size xs.length w.heap.size w (xs.map trimBA) wr (fun _ _ _ _ => trivial) HR2.out (fun _ _ => trivial) trivial HB.out (Nat.le_refl _) (Nat.le_refl _))
   rw [hxl] at hd
   have HLL := Lib.hid (show ((xs.map trimBA).filter fun x => !emptyBA x).length ≤ xs.length from Nat.le_trans (List.length_filter_le _ _) (by rw [hxl]; exact Nat.le_refl _))
   clear hall HR hlt hxl HR2
   go_wp2_with fail
   refine hd.out.mono ?_
   rintro e w2 ⟨rfl, hr2, _, hb2⟩
   rw [← HL.out] at hr2 ⊢
   rw [← HL.out] at HLL
   have HRF := Lib.hid hr2
   have HBF := Lib.hid hb2
   clear hd hr2 hb2
   have hll := HLL.out
   go_wp2_with fail
   refine (clipS _ _ _ _ hll (by omega)).mono ?_
   rintro e w3 ⟨rfl, rfl⟩
   go_wp2
   go_ret
   exact ⟨_, _, rfl, Nat.le_refl _, HRF.out, HBF.out⟩
end Go.Proofs.YtfibkgmbgdaeoaaGreatDoor.Hand
