/- ascii.Lower, head.alike, its closure, and head.Get: what the walk of each gives. Conditions: strings of at most 2^47 bytes; for Get, names and values of at most 2^40 bytes together. -/
import Derived.Test.YtfibkgmbgdaeoaaGreatDoorLow
import Derived.Test.YtfibkgmbgdaeoaaGreatDoorK
import Derived.Test.YtfibkgmbgdaeoaaGreatDoorShelf
import Derived.Deep.AppendLies
import Derived.Maps.AppendAt
import Derived.Laws.MakeOwn
import Derived.Laws.OwnMore
import Derived.Deep.OwnRows
import Derived.Deep.LoopGhost
import Derived.Deep.QuietTactic
import Derived.BigQuiet
import Derived.WideLaws
import Derived.Deep.DeepCutAuto
import Derived.Deep.CutBlock
import Derived.Deep.RegionHeld3
import Derived.Laws.Rows
import Derived.Lib.AppendStr
import Derived.ArgAppend
import Derived.OrdersHeld
import Derived.Deep.DeepFit
import Derived.Test.YtfibkgmbgdaeoaaGreatDoorWMore
namespace Go.Proofs.YtfibkgmbgdaeoaaGreatDoor.Hand
open Go.RowKit Go.Proofs.YtfibkgmbgdaeoaaGreatDoorW.PrintWords Go.Proofs.YtfibkgmbgdaeoaaGreatDoorW.PrintLast Go.Proofs.YtfibkgmbgdaeoaaGreatDoorW.PrintMore
set_option linter.unusedVariables false
set_option linter.unusedSimpArgs false

set_option maxHeartbeats 400000 in
theorem alike_calls (s : ByteArray) (w : World) (hs : s.size ≤ 140737488351232) :
  Calls Tryz.prog 55 #[.string s] w fun e w' => ∃ B, e = .returned (.func (.func 73) #[] #[.pointer (some ⟨B, 0, none⟩)]) ∧ w.heap.size ≤ B ∧ B < w'.heap.size ∧ w'.cell? ⟨B, 0, none⟩ = some (.string (lowBA s)) ∧ Below w.heap.size w w' := by
 go_enter Tryz.func55, Tryz.ntmps55
 go_wp2_with fail
 refine (lower_calls s w hs).mono ?_
 rintro e w' ⟨rfl, hb⟩
 go_wp2
 go_ret
 refine ⟨w'.heap.size, rfl, hb.size, by simp, by go_simp, ?_⟩
 exact below_alloc hb _

set_option maxHeartbeats 400000 in
theorem alike1_calls (x : S45) (B : Nat) (low : ByteArray) (w : World) (hs : x.f0.size ≤ 140737488351232) (hB : B < w.heap.size) (hc : w.cell? ⟨B, 0, none⟩ = some (.string low)) (q : Bool) (hq : ((lowBA x.f0).toList == low.toList) = q) :
  Calls Tryz.prog 73 #[.agg #[.string x.f0, .string x.f1], .pointer (some ⟨B, 0, none⟩)] w fun e w' => e = .returned (.bool q) ∧ Below w.heap.size w w' := by
 subst hq
 go_enter Tryz.func73, Tryz.ntmps73
 go_wp2_with fail
 have hc1 : (w.alloc (.cells #[.string x.f0, .string x.f1] 45)).cell? ⟨B, 0, none⟩ = some (.string low) := pw_cell_below (below_alloc (Below.refl _ _) _) hc
 have hb1 := below_alloc (Below.refl w.heap.size w) (.cells #[.string x.f0, .string x.f1] 45)
 have hc0 : (w.alloc (.cells #[.string x.f0, .string x.f1] 45)).cell? ⟨w.heap.size, 0, none⟩ = some (.string x.f0) := by go_simp
 generalize w.alloc (.cells #[.string x.f0, .string x.f1] 45) = w0 at *
 go_region_held3 (fun W => W.cell? ⟨w.heap.size, 0, none⟩ = some (.string x.f0) ∧ W.cell? ⟨B, 0, none⟩ = some (.string low) ∧ Below w.heap.size w W) (first | exact ⟨hc0, hc1, below_drew hb1⟩ | exact ⟨pw_cell_below (w := w0.drew) hb hc0, pw_cell_below (w := w0.drew) hb hc1, below_then (below_drew hb1) hb1.size hb⟩)
  (first | (go_at_call 27; refine (lower_calls x.f0 _ hs).mono ?_; rintro e w' ⟨rfl, hb⟩))
 have HH := ‹_ ∧ _ ∧ Below w.heap.size w _›.2.2
 go_wp2
 go_ret
 exact ⟨rfl, HH⟩

def hdrSum (l : List S45) : Nat := (l.map fun h => h.f0.size + h.f1.size + 3).sum
theorem hdrSum_take (l : List S45) (k : Nat) : hdrSum (l.take k) ≤ hdrSum l := by
 induction l generalizing k with
 | nil => simp [hdrSum]
 | cons x l ih =>
  cases k with
  | zero => simp [hdrSum]
  | succ k => have := ih k; simp only [hdrSum, List.take_succ_cons, List.map_cons, List.sum_cons] at this ⊢; omega
theorem hdrSum_length (l : List S45) : 3 * l.length ≤ hdrSum l := by
 induction l with
 | nil => simp [hdrSum]
 | cons x l ih => simp only [hdrSum, List.map_cons, List.sum_cons, List.length_cons] at ih ⊢; omega
theorem hdrSum_mem {l : List S45} {x : S45} (h : x ∈ l) : x.f0.size + x.f1.size + 3 ≤ hdrSum l := by
 induction l with
 | nil => cases h
 | cons y l ih =>
  simp only [hdrSum, List.map_cons, List.sum_cons] at ih ⊢
  rcases List.mem_cons.1 h with rfl | h
  ·omega
  ·have := ih h; omega
def getV (nm : ByteArray) (l : List S45) : List ByteArray := (l.filter fun h => (lowBA h.f0).toList == (lowBA nm).toList).map (·.f1)
theorem getV_snoc (nm : ByteArray) (l : List S45) (k : Nat) (hk : k < l.length) : getV nm (l.take (k + 1)) = if ((lowBA (rd_T45 l k).f0).toList == (lowBA nm).toList) = true then getV nm (l.take k) ++ [(rd_T45 l k).f1] else getV nm (l.take k) := by
 have e : l[k]'hk = rd_T45 l k := by simp [rd_T45, List.getD_eq_getElem?_getD, hk]
 rw [List.take_succ_eq_append_getElem hk, e]
 unfold getV
 rw [List.filter_append]
 by_cases h : ((lowBA (rd_T45 l k).f0).toList == (lowBA nm).toList) = true
 ·rw [if_pos h]; simp [List.filter_cons, h]
 ·rw [if_neg h]; simp [List.filter_cons, h]
theorem getV_length (nm : ByteArray) (l : List S45) : (getV nm l).length ≤ l.length := by
 unfold getV; rw [List.length_map]; exact List.length_filter_le _ _
theorem rd_mem {l : List S45} {k : Nat} (hk : k < l.length) : rd_T45 l k ∈ l := by
 have e : l[k]'hk = rd_T45 l k := by simp [rd_T45, List.getD_eq_getElem?_getD, hk]
 rw [← e]; exact List.getElem_mem hk

theorem join_tail_length (sep : List UInt8) (r : List (List UInt8)) : (Lib.joinTail sep r).length = (r.map fun x => sep.length + x.length).sum := by
 simp [Lib.joinTail, List.length_flatten, Function.comp_def]
theorem getV_join (nm : ByteArray) (l : List S45) : (Lib.join ((getV nm l).map (·.data.toList)) [44, 32]).length ≤ hdrSum l := by
 have h : ∀ l : List S45, (((getV nm l).map (·.data.toList)).map fun x => 2 + x.length).sum ≤ hdrSum l := by
  intro l
  unfold getV hdrSum
  induction l with
  | nil => simp
  | cons x l ih =>
   have e : x.f1.data.size = x.f1.size := rfl
   by_cases hq : ((lowBA x.f0).toList == (lowBA nm).toList) = true
   ·rw [List.filter_cons, if_pos hq]; simp only [List.map_cons, List.sum_cons, Array.length_toList] at ih ⊢; omega
   ·rw [List.filter_cons, if_neg hq]; simp only [List.map_cons, List.sum_cons] at ih ⊢; omega
 refine Nat.le_trans ?_ (h l)
 generalize (getV nm l).map (·.data.toList) = xs
 cases xs with
 | nil => simp [Lib.join_nil]
 | cons x r => rw [Lib.join_cons, List.length_append, join_tail_length, List.map_cons, List.sum_cons, show ([44, 32] : List UInt8).length = 2 from rfl]; omega

theorem strRow {e : Nat} {w : World} {base : Nat} {ok : Nat → Prop} {v : Value} {xs : List ByteArray} (h : Kd.R Kd.string e w base ok v xs) :
  (v = .slice none 0 0 ∧ xs = []) ∨ ∃ g c, v = .slice (some ⟨g, 0, none⟩) xs.length c ∧ base ≤ g ∧ xs.length ≤ c ∧ g < w.heap.size ∧ ∀ (j : Nat) x, xs[j]? = some x → w.cell? ⟨g, 0 + j, none⟩ = some (.string x) := by
 obtain ⟨A, c, rfl, hc, hR⟩ := Kd.R_reads h
 obtain ⟨inner, ho⟩ := Kd.R_own h
 rcases ho.2 with ⟨hv, hn⟩ | ⟨g, cap, cur, hv, hg, hh, _⟩
 ·exact .inl ⟨hv, List.length_eq_zero_iff.1 hn⟩
 ·refine .inr ⟨g, cap, hv, hg, ?_, blk_lt hh, fun j x hj => ?_⟩
  ·injection hv with _ _ e3; omega
  ·injection hv with e1 e2 e3
   subst e1
   have hlt := (List.getElem?_eq_some_iff.1 hj).1
   obtain ⟨ad, cc, e4, hl, hK, hcell⟩ := Kd.C_get hR ByteArray.empty (j : Int) (by omega) (by omega)
   injection e4 with e4
   subst e4
   have hK' : cc = [.string ((xs).getD (j : Int).toNat ByteArray.empty)] := hK
   subst hK'
   have h0 := hcell 0 _ rfl
   rw [add_plain] at h0
   rw [show (j : Int).toNat * Kd.string.sz + 0 = 0 + j from by show (j : Int).toNat * 1 + 0 = 0 + j; omega] at h0
   rw [h0, Int.toNat_natCast, List.getD_eq_getElem?_getD, hj]
   rfl

set_option maxHeartbeats 2000000 in
theorem get_walk (A0 : Option Addr) (c0 : Nat) (l0 : List S45) (a1 : ByteArray) (w : World) (hr0 : Kd.C k45 w A0 l0.length l0) (hc0 : l0.length ≤ c0) (hsum : hdrSum l0 + a1.size ≤ 1099511627776) :
  Calls Tryz.prog 28 #[.slice A0 l0.length c0, .string a1] w fun e w' => e = .returned (.tuple #[.string ⟨(Lib.join ((getV a1 l0).map (·.data.toList)) [44, 32]).toArray⟩, .bool (decide (0 < (getV a1 l0).length))]) ∧ Below w.heap.size w w' := by
 have hlen := hdrSum_length l0
 have HS := Lib.hid hsum
 go_enter Tryz.func28, Tryz.ntmps28
 go_wp2_with fail
 refine (alike_calls a1 w (by have := HS.out; omega)).mono ?_
 rintro e w1 ⟨B, rfl, hB1, hB2, hcB, hb⟩
 go_wp2_with fail
 go_loopw [6, 14] (fun v n wr => ∃ k : Nat, k ≤ l0.length ∧ n = .int .i64 k ∧ Aside0 (Kd.R Kd.string 9 wr w.heap.size (fun q => q ≠ B) v (getV a1 (l0.take k))) ∧ Aside0 (Below w.heap.size w wr) ∧ Aside0 (B < wr.heap.size ∧ wr.cell? ⟨B, 0, none⟩ = some (.string (lowBA a1)))) (fun _ n _ => l0.length - (intOf n).toNat)
 case atStart => exact ⟨0, Nat.zero_le _, rfl, ⟨by simpa [getV] using Kd.R_nil _ _ _ _ _⟩, ⟨hb⟩, ⟨hB2, hcB⟩⟩
 case round =>
  obtain ⟨k, hk, rfl, HO, HB, HC⟩ := hrel
  clear hb hcB
  by_cases hlt : k < l0.length
  ·obtain ⟨ad, e1, hx0, hx1⟩ := at_T45 hr0 k (by omega) (by omega)
   cases e1
   replace hx0 := (HB.out.cell (World.block_lt_of_cell? w _ hx0)).trans hx0
   replace hx1 := (HB.out.cell (World.block_lt_of_cell? w _ hx1)).trans hx1
   rw [Int.toNat_natCast] at hx0 hx1
   clear hr0
   have hsz : (rd_T45 l0 k).f0.size ≤ 140737488351232 := by have h1 := hdrSum_mem (rd_mem hlt); have h2 := HS.out; omega
   have HG := Aside0.mk (getV_snoc a1 l0 k hlt)
   have HL := Aside0.mk (getV_length a1 (l0.take k))
   generalize rd_T45 l0 k = x at *
   have HW := Aside0.mk (below_alloc (Below.refl wr.heap.size wr) (.cells #[.string x.f0, .string x.f1] 45))
   have HA := Aside0.mk (Kd.R_below HO.out HW.out)
   have HC2 := Aside0.mk (pw_cell_below HW.out HC.out.2)
   cases hq0 : ((lowBA x.f0).toList == (lowBA a1).toList) with
   | true =>
    rw [hq0] at HG
    have hq := Aside0.mk hq0
    clear hq0 HO
    go_wp2_with fail
    refine (alike1_calls x B (lowBA a1) _ hsz (Nat.lt_of_lt_of_le HC.out.1 HW.out.size) HC2.out true hq.out).mono ?_
    rintro e w2 ⟨rfl, hb2⟩
    have hc1 : w2.cell? ⟨wr.heap.size, 1, none⟩ = some (.string x.f1) := pw_cell_below hb2 (by go_simp)
    have HO := Aside0.mk (Kd.R_below HA.out hb2)
    have HC3 := Aside0.mk (pw_cell_below hb2 HC2.out)
    have HB2 := Aside0.mk (below_then (below_alloc HB.out _) (below_size (below_alloc HB.out _)) hb2)
    have HZ := Aside0.mk (show B < w2.heap.size from Nat.lt_of_lt_of_le (Nat.lt_of_lt_of_le HC.out.1 HW.out.size) hb2.size)
    clear HA HC2 HB HW hb2
    go_wp2_with (first | ((with_reducible refine gate_builtin (b := .append) (xs := #[.tmp 21, .tmp 24]) rfl ?_); at_builtin; refine Kd.R_append Kd.string (w0 := w) w.heap.size rfl (.tmp 21) (.tmp 24) 31 9 (.string ⟨#[]⟩) 16 rfl Tryz.underlying31 info9 rfl (by decide) (by omega) u6 (getV a1 (l0.take k)) x.f1 [.string x.f1] (fun q => q ≠ B) (fun _ => False) rfl rfl ?aP (fun _ hk => hk.elim) ?aF ?aO ?aB ?aS ?aL ?_; (case aP => exact rfl); (case aB => exact HB2.out); (case aF => exact fun q hq e => by have := HZ.out; omega); (case aO => exact HO.out); (case aS => exact below_size HB2.out); (case aL => have h1 := HL.out; have h2 := HS.out; have h3 := hdrSum_take l0 k; rw [List.length_take] at h1; omega); intro v3 w3 ho3 hb3 hg3 hat3; have HO3 := Aside0.mk ho3; have HB3 := Aside0.mk hb3; have HG3 := Aside0.mk hg3; clear ho3 hb3 hg3 hat3))
    go_roundw
    case rel =>
     refine ⟨k + 1, by omega, by go_num, ⟨by rw [HG.out, if_pos trivial]; exact HO3.out⟩, HB3, ⟨?_⟩⟩
     have hne : some B ≠ u6.ownBlock := fun e => HO.out.1 B e.symm rfl
     exact ⟨Nat.lt_of_lt_of_le HZ.out HG3.out.size, by rw [World.cell?, HG3.out.block B HZ.out hne]; exact HC3.out⟩
    case measure => simp [intOf]; omega
   | false =>
    rw [hq0] at HG
    have hq := Aside0.mk hq0
    clear hq0 HO
    go_wp2_with fail
    refine (alike1_calls x B (lowBA a1) _ hsz (Nat.lt_of_lt_of_le HC.out.1 HW.out.size) HC2.out false hq.out).mono ?_
    rintro e w2 ⟨rfl, hb2⟩
    have HO := Aside0.mk (Kd.R_below HA.out hb2)
    have HC3 := Aside0.mk (pw_cell_below hb2 HC2.out)
    have HB2 := Aside0.mk (below_then (below_alloc HB.out _) (below_size (below_alloc HB.out _)) hb2)
    have HZ := Aside0.mk (show B < w2.heap.size from Nat.lt_of_lt_of_le (Nat.lt_of_lt_of_le HC.out.1 HW.out.size) hb2.size)
    clear HA HC2 HB HW hb2
    go_wp2
    go_roundw
    case rel => exact ⟨k + 1, by omega, by go_num, ⟨by rw [HG.out, if_neg (by simp)]; exact HO.out⟩, HB2, ⟨HZ.out, HC3.out⟩⟩
    case measure => simp [intOf]; omega
  ·obtain rfl : k = l0.length := by omega
   have HO2 := HO.out
   rw [List.take_length] at HO2
   have HJ := Lib.hid (getV_join a1 l0)
   have hN := getV_length a1 l0
   clear HO hr0 HC hlt
   rcases strRow HO2 with ⟨rfl, hnil⟩ | ⟨g, c, rfl, hg, hc, hgs, hcell⟩
   ·clear HO2
    have hnil' := Lib.hid hnil
    clear hnil
    go_wp2_with (first | (go_at_call 23; refine (Tryz.strings_Join_none _ _ _ _).mono ?_; rintro e w' ⟨rfl, rfl⟩))
    go_ret2
    exact ⟨by rw [hnil'.out]; rfl, HB.out⟩
   ·clear HO2
    have HB2 := Aside0.mk hcell
    clear hcell
    have hJ : (Lib.join ((getV a1 l0).map (·.data.toList)) (⟨#[44, 32]⟩ : ByteArray).data.toList).length ≤ 140737488355328 := Nat.le_trans HJ.out (by have := HS.out; omega)
    go_wp2_with fail
    refine (Tryz.strings_Join g 0 c (getV a1 l0) ⟨#[44, 32]⟩ _ HB2.out hgs (by have := HS.out; omega) hc hJ).mono ?_
    rintro e w' ⟨rfl, hb⟩
    go_wp2
    go_ret2
    refine ⟨?_, below_then HB.out (below_size HB.out) hb⟩
    simp
def head_Get.f (l0 : List S45) (a1 : ByteArray) : Option (ByteArray × Bool) :=
 if hdrSum l0 + a1.size ≤ 1099511627776 then some (⟨(Lib.join ((getV a1 l0).map (·.data.toList)) [44, 32]).toArray⟩, decide (0 < (getV a1 l0).length)) else none
theorem head_Get.calls (A0 : Option Addr) (c0 : Nat) (l0 : List S45) (a1 : ByteArray) (r1 : ByteArray) (r2 : Bool) (w : World) (hG : GW w) (hr0 : Kd.C k45 w A0 l0.length l0) (hc0 : l0.length ≤ c0) (h : head_Get.f l0 a1 = some (r1, r2)) :
  Calls Tryz.prog 28 #[.slice A0 l0.length c0, .string a1] w fun e w' => e = .returned (.tuple #[.string r1, .bool r2]) ∧ Below w.heap.size w w' := by
 unfold head_Get.f at h
 by_cases c : hdrSum l0 + a1.size ≤ 1099511627776
 ·rw [if_pos c] at h
  injection h with h
  injection h with h1 h2
  subst h1 h2
  exact get_walk A0 c0 l0 a1 w hr0 hc0 c
 ·rw [if_neg c] at h; cases h
end Go.Proofs.YtfibkgmbgdaeoaaGreatDoor.Hand
