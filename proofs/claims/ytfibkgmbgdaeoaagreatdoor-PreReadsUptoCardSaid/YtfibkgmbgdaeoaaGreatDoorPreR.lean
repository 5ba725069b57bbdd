/- pre.tokens and pre.Read: what their walks give. Conditions: headers of at most 2^40 bytes together, a value of less than 2^32 bytes. -/
import Derived.Test.YtfibkgmbgdaeoaaGreatDoorFYA1
import Derived.Test.YtfibkgmbgdaeoaaGreatDoorList
import Derived.Test.YtfibkgmbgdaeoaaGreatDoorAsciiF
import Derived.Test.YtfibkgmbgdaeoaaGreatDoorAsciiN
namespace Go.Proofs.YtfibkgmbgdaeoaaGreatDoor.Hand
open Go.RowKit Go.Proofs.YtfibkgmbgdaeoaaGreatDoorW.PrintWords Go.Proofs.YtfibkgmbgdaeoaaGreatDoorW.PrintLast Go.Proofs.YtfibkgmbgdaeoaaGreatDoorW.PrintMore
set_option linter.unusedVariables false
set_option linter.unusedSimpArgs false

def tokB (x : ByteArray) : Bool := tok8 x.data.toList
theorem listBA_mem {s x : ByteArray} (h : x ∈ listBA s) : x.size ≤ s.size := by
 obtain ⟨l, rfl⟩ := ba_of s
 rw [listBA_ba] at h
 obtain ⟨y, hy, rfl⟩ := List.mem_map.1 h
 have := (list8_mem hy).2.2.2.2
 simpa using this
theorem tokens1_says : SaysS GW 52 #[] (fun x => !tokB x) (fun x => x.size ≤ 1099511627776) where
 enters := enters_of Tryz.func52 (by kernel_rfl) rfl
 later := fun W W' h hb => h.below hb
 says := fun W x hG hx => by
  show Calls Tryz.prog 52 #[.string x] W _
  obtain ⟨l, rfl⟩ := ba_of x
  obtain ⟨k, hk⟩ := (progToken l (by simpa using hx)).rounds
  have HC := Lib.hid (ascii_Token.calls k (ba l) _ W hG hk)
  have hd : tokB (ba l) = tok8 l := by simp [tokB]
  rw [hd]
  clear hk hG hd
  generalize tok8 l = t at *
  go_enter Tryz.func52, Tryz.ntmps52
  go_wp2_with fail
  refine HC.out.mono ?_
  rintro e w1 ⟨rfl, hb⟩
  go_wp2
  go_ret
  exact ⟨rfl, hb.below⟩
theorem row_reads {e g cap : Nat} {W : World} {xs : List ByteArray} (h : RowAt encS 1 e g cap W xs) : Kd.C Kd.string W (some ⟨g, 0, none⟩) xs.length xs :=
 (Kd.V_reads' (Kd.R_V (h.toR flatS (Nat.zero_le g) (ok := fun _ => True) trivial (by decide)) : Kd.V Kd.string e W 0 (fun _ => True) _ xs)).2.2
set_option maxHeartbeats 1000000 in
theorem tokens_walk (A0 : Option Addr) (c0 : Nat) (l0 : List S45) (nm s : ByteArray) (b : Bool) (w : World) (hG : GW w) (hr0 : Kd.C k45 w A0 l0.length l0) (hc0 : l0.length ≤ c0) (hg : head_Get.f l0 nm = some (s, b)) (hs : s.size < 4294967281) :
  Calls Tryz.prog 26 #[.slice A0 l0.length c0, .string nm] w fun e w' => ∃ g cap, e = .returned (.tuple #[.slice (some ⟨g, 0, none⟩) (listBA s).length (listBA s).length, .bool ((listBA s).all tokB)]) ∧ w.heap.size ≤ g ∧ RowAt encS 1 9 g cap w' (listBA s) ∧ Below w.heap.size w w' := by
 have HC := Lib.hid (head_Get.calls A0 c0 l0 nm s b w hG hr0 hc0 hg)
 have HL := Lib.hid (fun W hW => list_row s W hW hs)
 have HM := Lib.hid (fun x (hx : x ∈ listBA s) => Nat.le_trans (listBA_mem hx) (show s.size ≤ 1099511627776 by omega))
 have HG := Lib.hid hG
 have hall : (listBA s).all tokB = !((listBA s).any fun x => !tokB x) := by simp [List.all_eq_not_any_not]
 rw [hall]
 clear hG hr0 hg hall
 generalize listBA s = xs at *
 go_enter Tryz.func26, Tryz.ntmps26
 go_wp2_with fail
 refine HC.out.mono ?_
 rintro e w1 ⟨rfl, hb⟩
 have HB := Aside0.mk hb
 clear hb HC
 go_wp2_with fail
 refine (HL.out _ (HG.out.below HB.out)).mono ?_
 rintro e w2 ⟨g, cap, rfl, hg, hr, hb⟩
 have HB2 := Aside0.mk (below_then HB.out (below_size HB.out) hb)
 have HR := Aside0.mk hr
 have HGE := Aside0.mk (Nat.le_trans (below_size HB.out) hg)
 clear hb hr hg HB HL
 go_wp2_with fail
 refine (containsFuncS tokens1_says (some ⟨g, 0, none⟩) xs.length xs w2 (row_reads HR.out) HM.out (HG.out.below HB2.out)).mono ?_
 rintro e w3 ⟨rfl, hb⟩
 go_wp2
 go_ret2
 exact ⟨g, cap, rfl, HGE.out, HR.out.below hb, below_then HB2.out (below_size HB2.out) hb⟩
def tokF (l : List S45) (nm : ByteArray) : Option (List ByteArray × Bool) := (head_Get.f l nm).bind fun s => if s.1.size < 4294967281 then some (listBA s.1, (listBA s.1).all tokB) else none
def ageOf (s : ByteArray) : Int := if (num8 s.data.toList 86400).2 = true then (num8 s.data.toList 86400).1 else 5
def ageF (l : List S45) : Option Int := (head_Get.f l (⟨#[97, 99, 99, 101, 115, 115, 45, 99, 111, 110, 116, 114, 111, 108, 45, 109, 97, 120, 45, 97, 103, 101]⟩ : ByteArray)).bind fun s => if s.1.size ≤ 1099511627776 then some (ageOf s.1) else none
def pre_Read.f (st : Int) (l : List S45) (body : ByteArray) (frm : ByteArray) (cred : Int) : Option (List ByteArray × List ByteArray × Int × Bool) :=
 if st < 200 then some ([], [], 0, false) else if 299 < st then some ([], [], 0, false) else
 (cors_Check.f l frm cred).bind fun c => if c = true then (tokF l (⟨#[97, 99, 99, 101, 115, 115, 45, 99, 111, 110, 116, 114, 111, 108, 45, 97, 108, 108, 111, 119, 45, 109, 101, 116, 104, 111, 100, 115]⟩ : ByteArray)).bind fun m => (tokF l (⟨#[97, 99, 99, 101, 115, 115, 45, 99, 111, 110, 116, 114, 111, 108, 45, 97, 108, 108, 111, 119, 45, 104, 101, 97, 100, 101, 114, 115]⟩ : ByteArray)).bind fun h =>
  if m.2 = true then if h.2 = true then (ageF l).bind fun n => some (m.1, h.1.map lowBA, n, true) else some ([], [], 0, false) else some ([], [], 0, false)
 else some ([], [], 0, false)
theorem tokF_open {l : List S45} {nm : ByteArray} {r : List ByteArray × Bool} (h : tokF l nm = some r) : ∃ s b, head_Get.f l nm = some (s, b) ∧ s.size < 4294967281 ∧ r = (listBA s, (listBA s).all tokB) := by
 unfold tokF at h
 cases hg : head_Get.f l nm with
 | none => rw [hg] at h; cases h
 | some q =>
  obtain ⟨s, b⟩ := q
  rw [hg, Option.bind_some] at h
  by_cases c : s.size < 4294967281
  ·rw [if_pos c] at h; exact ⟨s, b, rfl, c, (Option.some.inj h).symm⟩
  ·rw [if_neg c] at h; cases h
theorem ageF_open {l : List S45} {r : Int} (h : ageF l = some r) : ∃ s b, head_Get.f l (⟨#[97, 99, 99, 101, 115, 115, 45, 99, 111, 110, 116, 114, 111, 108, 45, 109, 97, 120, 45, 97, 103, 101]⟩ : ByteArray) = some (s, b) ∧ s.size ≤ 1099511627776 ∧ r = ageOf s := by
 unfold ageF at h
 cases hg : head_Get.f l (⟨#[97, 99, 99, 101, 115, 115, 45, 99, 111, 110, 116, 114, 111, 108, 45, 109, 97, 120, 45, 97, 103, 101]⟩ : ByteArray) with
 | none => rw [hg] at h; cases h
 | some q =>
  obtain ⟨s, b⟩ := q
  rw [hg, Option.bind_some] at h
  by_cases c : s.size ≤ 1099511627776
  ·rw [if_pos c] at h; exact ⟨s, b, rfl, c, (Option.some.inj h).symm⟩
  ·rw [if_neg c] at h; cases h
theorem ans_put {w : World} {g : Nat} {t : TypeId} {u0 u1 u2 : Value} (v0 v1 v2 : Value) (h : w.heap[g]? = some (.cells #[u0, u1, u2] t (0, 0))) : (((w.setCell ⟨g, 0, none⟩ v0).setCell ⟨g, 1, none⟩ v1).setCell ⟨g, 2, none⟩ v2).heap[g]? = some (.cells #[v0, v1, v2] t (0, 0)) := by
 have h1 := blk_put (cs' := #[v0, u1, u2]) h 0 v0 rfl
 have h2 := blk_put (cs' := #[v0, v1, u2]) h1 1 v1 rfl
 exact blk_put (cs' := #[v0, v1, v2]) h2 2 v2 rfl
theorem ans_other {w : World} {g q : Nat} (v0 v1 v2 : Value) (hn : q ≠ g) : (((w.setCell ⟨g, 0, none⟩ v0).setCell ⟨g, 1, none⟩ v1).setCell ⟨g, 2, none⟩ v2).heap[q]? = w.heap[q]? :=
 (Below.heap_setCell _ ⟨g, 2, none⟩ v2 q hn).trans ((Below.heap_setCell _ ⟨g, 1, none⟩ v1 q hn).trans (Below.heap_setCell w ⟨g, 0, none⟩ v0 q hn))
theorem ans_bel {w W : World} {g : Nat} (v0 v1 v2 : Value) (h : Below w.heap.size w W) (hg : w.heap.size ≤ g) : Below w.heap.size w (((W.setCell ⟨g, 0, none⟩ v0).setCell ⟨g, 1, none⟩ v1).setCell ⟨g, 2, none⟩ v2) :=
 below_set (below_set (below_set h hg) hg) hg
theorem ans_cells {w : World} {g : Nat} {t : TypeId} {v0 v1 v2 : Value} (h : w.heap[g]? = some (.cells #[v0, v1, v2] t (0, 0))) : (w.cell? ⟨g, 0, none⟩ = some v0 ∧ w.cell? ⟨g, 1, none⟩ = some v1 ∧ w.cell? ⟨g, 2, none⟩ = some v2) ∧ w.frozen? ⟨g, 0, none⟩ = false ∧ w.frozen? ⟨g, 1, none⟩ = false ∧ w.frozen? ⟨g, 2, none⟩ = false :=
 ⟨⟨(blk_cell h 0).trans rfl, (blk_cell h 1).trans rfl, (blk_cell h 2).trans rfl⟩, blk_frozen h 0, blk_frozen h 1, blk_frozen h 2⟩
def lowered (xs : List ByteArray) (k : Nat) : List ByteArray := (xs.take k).map lowBA ++ xs.drop k
theorem lowered_length (xs : List ByteArray) (k : Nat) : (lowered xs k).length = xs.length := by simp [lowered]; omega
theorem lowered_at (xs : List ByteArray) (k : Nat) : (lowered xs k)[k]? = xs[k]? := by
 unfold lowered
 by_cases h : k ≤ xs.length
 ·rw [List.getElem?_append_right (by simp; omega), List.length_map, List.length_take, List.getElem?_drop]
  congr 1
  omega
 ·rw [List.getElem?_eq_none (by simp; omega), List.getElem?_eq_none (by omega)]
theorem lowered_succ (xs : List ByteArray) (k : Nat) (x : ByteArray) (h : xs[k]? = some x) : lowered xs (k + 1) = (lowered xs k).set k (lowBA x) := by
 have hk : k < xs.length := (List.getElem?_eq_some_iff.1 h).1
 have hx : xs[k] = x := (List.getElem?_eq_some_iff.1 h).2
 unfold lowered
 rw [List.take_add_one, h]
 rw [List.set_append_right _ _ (by simp; omega)]
 rw [List.drop_eq_getElem_cons hk]
 have e : k - ((xs.take k).map lowBA).length = 0 := by simp; omega
 rw [e, List.set_cons_zero]
 simp

set_option maxRecDepth 100000 in
set_option maxHeartbeats 4000000 in
theorem pre_Read.calls (st : Int) (A0 : Option Addr) (c0 : Nat) (l0 : List S45) (body : ByteArray) (a1 : ByteArray) (a2 : Int) (r1 r2 : List ByteArray) (r3 : Int) (r4 : Bool) (w : World) (hG_ : GW w) (hr0 : Kd.C k45 w A0 l0.length l0) (hc0 : l0.length ≤ c0) (h : pre_Read.f st l0 body a1 a2 = some (r1, r2, r3, r4)) :
  Calls Tryz.prog 13 #[.agg #[.int .i64 st, .slice A0 l0.length c0, .string body], .string a1, .int .i64 a2] w fun e w' => ∃ v0_ v1_ : Value, e = .returned (.tuple #[.agg #[v0_, v1_, .int .i64 r3], .bool r4]) ∧ Kd.V Kd.string 9 w' w.heap.size (fun k_ => w.heap.size ≤ k_) v0_ r1 ∧ Kd.V Kd.string 9 w' w.heap.size (fun k_ => w.heap.size ≤ k_) v1_ r2 ∧ Below w.heap.size w w' := by
 have huX := Tryz.underlying33
 have huY := Tryz.underlying30
 unfold pre_Read.f at h
 have HX := Lib.hid (blk_alloc (blk_new w (.cells #[.int .i64 st, .slice A0 l0.length c0, .string body] 30)) (.cells #[.slice none 0 0, .slice none 0 0, .int .i64 0] 33))
 have HR := Lib.hid (blk_new (w.alloc (.cells #[.int .i64 st, .slice A0 l0.length c0, .string body] 30)) (.cells #[.slice none 0 0, .slice none 0 0, .int .i64 0] 33))
 have HB := Lib.hid (below_alloc (below_alloc (Below.refl w.heap.size w) (.cells #[.int .i64 st, .slice A0 l0.length c0, .string body] 30)) (.cells #[.slice none 0 0, .slice none 0 0, .int .i64 0] 33))
 have hsz : (w.alloc (.cells #[.int .i64 st, .slice A0 l0.length c0, .string body] 30)).heap.size = w.heap.size + 1 := by show (w.heap.push _).size = _; exact Array.size_push _
 rw [hsz] at HR
 have HR0 := Lib.hid hr0
 clear hr0 hsz

 by_cases c1 : st < 200
 ·rw [if_pos c1] at h
  have e1 := decide_eq_true c1
  obtain ⟨⟨a0, a1_, a2_⟩, f0, f1, f2⟩ := ans_cells HR.out
  obtain ⟨⟨x0, x1, x2⟩, _, _, _⟩ := ans_cells HX.out
  go_enter Tryz.func13, Tryz.ntmps13
  simp only [Option.some.injEq, Prod.mk.injEq] at h
  obtain ⟨rfl, rfl, rfl, rfl⟩ := h
  go_wp2
  refine bodyPost_ret (results_ct rfl _ _ (w.heap.size + 1) 33 #[.slice none 0 0, .slice none 0 0, .int .i64 0] (0, 0) _ rfl HR.out Tryz.underlying33 rfl (by kernel_rfl)) rfl ?_
  exact ⟨_, _, rfl, Kd.V_nil _ _ _ _ _, Kd.V_nil _ _ _ _ _, HB.out⟩
 rw [if_neg c1] at h
 have e1 := decide_eq_false c1
 by_cases c2 : 299 < st
 ·rw [if_pos c2] at h
  have e2 := decide_eq_true c2
  obtain ⟨⟨a0, a1_, a2_⟩, f0, f1, f2⟩ := ans_cells HR.out
  obtain ⟨⟨x0, x1, x2⟩, _, _, _⟩ := ans_cells HX.out
  go_enter Tryz.func13, Tryz.ntmps13
  simp only [Option.some.injEq, Prod.mk.injEq] at h
  obtain ⟨rfl, rfl, rfl, rfl⟩ := h
  go_wp2
  refine bodyPost_ret (results_ct rfl _ _ (w.heap.size + 1) 33 #[.slice none 0 0, .slice none 0 0, .int .i64 0] (0, 0) _ rfl HR.out Tryz.underlying33 rfl (by kernel_rfl)) rfl ?_
  exact ⟨_, _, rfl, Kd.V_nil _ _ _ _ _, Kd.V_nil _ _ _ _ _, HB.out⟩
 rw [if_neg c2] at h
 have e2 := decide_eq_false c2
 clear c1 c2
 cases hch : cors_Check.f l0 a1 a2 with
 | none => rw [hch] at h; cases h
 | some c =>
  rw [hch, Option.bind_some] at h
  have HC := fun W hW hL => Lib.hid (cors_Check.calls A0 c0 l0 a1 a2 c W hW hL hc0 hch)
  have HH := Lib.hid h
  clear h hch
  obtain ⟨⟨a0, a1_, a2_⟩, f0, f1, f2⟩ := ans_cells HR.out
  obtain ⟨⟨x0, x1, x2⟩, _, _, _⟩ := ans_cells HX.out
  go_enter Tryz.func13, Tryz.ntmps13
  go_wp2_with fail
  refine (HC _ (hG_.below HB.out) (Kd.C_below HR0.out HB.out)).out.mono ?_
  rintro e w1 ⟨rfl, hd⟩
  clear a0 a1_ a2_ f0 f1 f2 x0 x1 x2
  replace HX := Lib.hid (blk_below HX.out hd)
  replace HR := Lib.hid (blk_below HR.out hd)
  replace HB := Lib.hid (below_then HB.out (below_size HB.out) hd)
  clear hd HC
  obtain ⟨⟨a0, a1_, a2_⟩, f0, f1, f2⟩ := ans_cells HR.out
  obtain ⟨⟨x0, x1, x2⟩, _, _, _⟩ := ans_cells HX.out
  have h := HH.out
  clear HH
  cases c with
  | false =>
   rw [if_neg (by simp)] at h
   simp only [Option.some.injEq, Prod.mk.injEq] at h
   obtain ⟨rfl, rfl, rfl, rfl⟩ := h
   go_wp2
   refine bodyPost_ret (results_ct rfl _ _ (w.heap.size + 1) 33 #[.slice none 0 0, .slice none 0 0, .int .i64 0] (0, 0) _ rfl (ans_put _ _ _ HR.out) Tryz.underlying33 rfl (by kernel_rfl)) rfl ?_
   exact ⟨_, _, rfl, Kd.V_nil _ _ _ _ _, Kd.V_nil _ _ _ _ _, ans_bel _ _ _ HB.out (Nat.le_succ _)⟩
  | true =>
   rw [if_pos rfl] at h
   cases hm : tokF l0 (⟨#[97, 99, 99, 101, 115, 115, 45, 99, 111, 110, 116, 114, 111, 108, 45, 97, 108, 108, 111, 119, 45, 109, 101, 116, 104, 111, 100, 115]⟩ : ByteArray) with
   | none => rw [hm] at h; cases h
   | some m =>
    rw [hm, Option.bind_some] at h
    cases hh : tokF l0 (⟨#[97, 99, 99, 101, 115, 115, 45, 99, 111, 110, 116, 114, 111, 108, 45, 97, 108, 108, 111, 119, 45, 104, 101, 97, 100, 101, 114, 115]⟩ : ByteArray) with
    | none => rw [hh] at h; cases h
    | some q =>
     rw [hh, Option.bind_some] at h
     obtain ⟨s1, b1, hg1, hs1, rfl⟩ := tokF_open hm
     obtain ⟨s2, b2, hg2, hs2, rfl⟩ := tokF_open hh
     have HT1 := fun W hW hL => Lib.hid (tokens_walk A0 c0 l0 _ s1 b1 W hW hL hc0 hg1 hs1)
     have HT2 := fun W hW hL => Lib.hid (tokens_walk A0 c0 l0 _ s2 b2 W hW hL hc0 hg2 hs2)
     have HZ := Lib.hid (fun x (hx : x ∈ listBA s2) => Nat.le_trans (listBA_mem hx) (show s2.size ≤ 140737488351232 by omega))
     have HLN := Lib.hid (show (listBA s2).length ≤ 4294967296 from Nat.le_trans (List.length_filter_le _ _) (by rw [List.length_map]; have := partsBA_size s2; omega))
     have HH := Lib.hid h
     clear h hm hh hg1 hg2 hs1 hs2
     go_wp2_with fail
     refine (HT1 _ (hG_.below HB.out) (Kd.C_below HR0.out HB.out)).out.mono ?_
     rintro e w2 ⟨g1, cap1, rfl, hg1, hr1, hd⟩
     have HG1 := Lib.hid hr1
     have N1 := Lib.hid (show w.heap.size + 1 < g1 from Nat.lt_of_lt_of_le (blk_lt HR.out) hg1)
     clear x0 x1 x2
     replace HX := Lib.hid (blk_below HX.out hd)
     replace HR := Lib.hid (blk_below HR.out hd)
     replace HB := Lib.hid (below_then HB.out (below_size HB.out) hd)
     clear hd hr1 hg1 HT1
     obtain ⟨⟨x0, x1, x2⟩, _, _, _⟩ := ans_cells HX.out
     go_wp2_with fail
     refine (HT2 _ (hG_.below HB.out) (Kd.C_below HR0.out HB.out)).out.mono ?_
     rintro e w3 ⟨g2, cap2, rfl, hg2, hr2, hd⟩
     have HG2 := Lib.hid hr2
     have N2 := Lib.hid (show g1 < g2 from Nat.lt_of_lt_of_le HG1.out.lt hg2)
     replace HG1 := Lib.hid (HG1.out.below hd)
     clear x0 x1 x2
     replace HX := Lib.hid (blk_below HX.out hd)
     replace HR := Lib.hid (blk_below HR.out hd)
     replace HB := Lib.hid (below_then HB.out (below_size HB.out) hd)
     clear hd hr2 hg2 HT2
     clear a0 a1_ a2_ f0 f1 f2
     obtain ⟨⟨a0, a1_, a2_⟩, f0, f1, f2⟩ := ans_cells HR.out
     obtain ⟨⟨x0, x1, x2⟩, _, _, _⟩ := ans_cells HX.out
     have h := HH.out
     clear HH
     generalize (listBA s1).all tokB = t1 at *
     generalize (listBA s2).all tokB = t2 at *
     generalize listBA s1 = xs1 at *
     generalize listBA s2 = xs2 at *
     cases t1 with
     | false =>
      rw [if_neg (by simp)] at h
      simp only [Option.some.injEq, Prod.mk.injEq] at h
      obtain ⟨rfl, rfl, rfl, rfl⟩ := h
      go_wp2
      refine bodyPost_ret (results_ct rfl _ _ (w.heap.size + 1) 33 #[.slice none 0 0, .slice none 0 0, .int .i64 0] (0, 0) _ rfl (ans_put _ _ _ HR.out) Tryz.underlying33 rfl (by kernel_rfl)) rfl ?_
      exact ⟨_, _, rfl, Kd.V_nil _ _ _ _ _, Kd.V_nil _ _ _ _ _, ans_bel _ _ _ HB.out (Nat.le_succ _)⟩
     | true =>
      rw [if_pos rfl] at h
      cases t2 with
      | false =>
       rw [if_neg (by simp)] at h
       simp only [Option.some.injEq, Prod.mk.injEq] at h
       obtain ⟨rfl, rfl, rfl, rfl⟩ := h
       go_wp2
       refine bodyPost_ret (results_ct rfl _ _ (w.heap.size + 1) 33 #[.slice none 0 0, .slice none 0 0, .int .i64 0] (0, 0) _ rfl (ans_put _ _ _ HR.out) Tryz.underlying33 rfl (by kernel_rfl)) rfl ?_
       exact ⟨_, _, rfl, Kd.V_nil _ _ _ _ _, Kd.V_nil _ _ _ _ _, ans_bel _ _ _ HB.out (Nat.le_succ _)⟩
      | true =>
       rw [if_pos rfl] at h
       cases ha : ageF l0 with
      | none => rw [ha] at h; cases h
      | some n =>
       rw [ha, Option.bind_some] at h
       simp only [Option.some.injEq, Prod.mk.injEq] at h
       obtain ⟨rfl, rfl, rfl, rfl⟩ := h
       obtain ⟨s3, b3, hg3, hs3, rfl⟩ := ageF_open ha
       clear ha
       have HA := fun W hW hL => Lib.hid (head_Get.calls A0 c0 l0 _ s3 b3 W hW hL hc0 hg3)
       obtain ⟨ls, rfl⟩ := ba_of s3
       obtain ⟨k, hk⟩ := (progNumber ls 86400 (by simpa using hs3) (by omega)).rounds
       have hage : ageOf (ba ls) = if (num8 ls 86400).2 = true then (num8 ls 86400).1 else 5 := by simp [ageOf]
       clear hg3 hs3
       generalize num8 ls 86400 = no at *
       obtain ⟨nn, ok⟩ := no
       have HNn := fun W hW => Lib.hid (ascii_Number.calls k (ba ls) 86400 nn ok W hW hk)
       have HAGE := Lib.hid hage
       clear hage hk a0 a1_ a2_ f0 f1 f2 x0 x1 x2
       have hmx : xs2.length ≤ 140737488355328 := by have h1 := HLN.out; omega
       go_wp2_with fail
       go_loopw [56] (fun n wr => ∃ k : Nat, k ≤ xs2.length ∧ n = .int .i64 k ∧ Aside0 (RowAt encS 1 9 g2 cap2 wr (lowered xs2 k)) ∧ Aside0 (RowAt encS 1 9 g1 cap1 wr xs1) ∧ Aside0 (wr.heap[w.heap.size]? = some (.cells #[.int .i64 st, .slice A0 l0.length c0, .string body] 30 (0, 0))) ∧ Aside0 (wr.heap[w.heap.size + 1]? = some (.cells #[.slice none 0 0, .slice none 0 0, .int .i64 0] 33 (0, 0))) ∧ Aside0 (Below w.heap.size w wr)) (fun n _ => xs2.length - (intOf n).toNat)
       case atStart => exact ⟨0, Nat.zero_le _, rfl, ⟨by simpa [lowered] using HG2.out⟩, ⟨HG1.out⟩, ⟨HX.out⟩, ⟨HR.out⟩, ⟨HB.out⟩⟩
       case round =>
        obtain ⟨j, hj, rfl, GR, G1, GX, GA, GB⟩ := hrel
        clear HG1 HG2 HX HR HB
        by_cases hlt : j < xs2.length
        ·have HLT := Lib.hid hlt
         have HE := Aside0.mk (List.getElem?_eq_getElem hlt)
         have hxs := HZ.out _ (List.getElem_mem hlt)
         generalize xs2[j] = x at *
         have hx0 := GR.out.cell j x (by rw [lowered_at]; exact HE.out) 0 _ rfl
         rw [Nat.mul_one, Nat.add_zero] at hx0
         go_wp2_with fail
         refine (lower_calls x wr hxs).mono ?_
         rintro e w5 ⟨rfl, hb5⟩
         have GR2 := Aside0.mk (GR.out.below hb5)
         have G12 := Aside0.mk (G1.out.below hb5)
         have GX2 := Aside0.mk (blk_below GX.out hb5)
         have GA2 := Aside0.mk (blk_below GA.out hb5)
         have GB2 := Aside0.mk (below_then GB.out (below_size GB.out) hb5)
         have hs0 := GR2.out.there j (by have := GR2.out.le; rw [lowered_length] at this; omega)
         have hf0 := GR2.out.free j
         obtain ⟨o0, ho0⟩ := Option.isSome_iff_exists.1 hs0
         clear hb5 GR G1 GX GA GB hx0 hs0
         go_wp2
         go_roundw
         case rel =>
          refine ⟨j + 1, by have := HLT.out; omega, by go_num, ⟨?_⟩, ⟨G12.out.other (Below.heap_setCell w5 ⟨g2, j, none⟩ _ g1 (by have := N2.out; show g1 ≠ g2; omega))⟩, ⟨blk_far (p := ⟨g2, j, none⟩) GX2.out (by have h1 := N1.out; have h2 := N2.out; show w.heap.size ≠ g2; omega) _⟩, ⟨blk_far (p := ⟨g2, j, none⟩) GA2.out (by have h1 := N1.out; have h2 := N2.out; show w.heap.size + 1 ≠ g2; omega) _⟩, ⟨below_set (g := g2) (j := j) GB2.out (by have h1 := N1.out; have h2 := N2.out; omega)⟩⟩
          have hput := GR2.out.put (enc := encS) (sz := 1) (fun _ => rfl) j (by rw [lowered_length]; exact HLT.out) (lowBA x)
          rw [Nat.mul_one, ← lowered_succ xs2 j x HE.out] at hput
          exact hput
         case measure => have := HLT.out; simp [intOf]; omega
        ·obtain rfl : j = xs2.length := by omega
         have hall : lowered xs2 xs2.length = xs2.map lowBA := by simp [lowered]
         have HG2 := Lib.hid GR.out
         rw [hall] at HG2
         have HG1 := Lib.hid G1.out
         have HX := Lib.hid GX.out
         have HR := Lib.hid GA.out
         have HB := Lib.hid GB.out
         clear GR G1 GX GA GB hall hlt hj HZ
         have hw := below_size HB.out
         have HN := Lib.hid (blk_new wr (.cells #[.slice (some ⟨g1, 0, none⟩) xs1.length xs1.length, .slice (some ⟨g2, 0, none⟩) xs2.length xs2.length, .int .i64 5] 33))
         have L1 := Lib.hid (HG1.out.lt)
         have L2 := Lib.hid (HG2.out.lt)
         have HX := Lib.hid (blk_alloc HX.out (.cells #[.slice (some ⟨g1, 0, none⟩) xs1.length xs1.length, .slice (some ⟨g2, 0, none⟩) xs2.length xs2.length, .int .i64 5] 33))
         have HR := Lib.hid (blk_alloc HR.out (.cells #[.slice (some ⟨g1, 0, none⟩) xs1.length xs1.length, .slice (some ⟨g2, 0, none⟩) xs2.length xs2.length, .int .i64 5] 33))
         have HG1 := Lib.hid (HG1.out.below (below_alloc (Below.refl _ _) (.cells #[.slice (some ⟨g1, 0, none⟩) xs1.length xs1.length, .slice (some ⟨g2, 0, none⟩) xs2.length xs2.length, .int .i64 5] 33)))
         have HG2 := Lib.hid (HG2.out.below (below_alloc (Below.refl _ _) (.cells #[.slice (some ⟨g1, 0, none⟩) xs1.length xs1.length, .slice (some ⟨g2, 0, none⟩) xs2.length xs2.length, .int .i64 5] 33)))
         have HB := Lib.hid (below_alloc HB.out (.cells #[.slice (some ⟨g1, 0, none⟩) xs1.length xs1.length, .slice (some ⟨g2, 0, none⟩) xs2.length xs2.length, .int .i64 5] 33))
         obtain ⟨⟨x0, x1, x2⟩, _, _, _⟩ := ans_cells HX.out
         go_wp2_with fail
         refine (HA _ (hG_.below HB.out) (Kd.C_below HR0.out HB.out)).out.mono ?_
         rintro e w6 ⟨rfl, hd⟩
         clear x0 x1 x2
         replace HN := Lib.hid (blk_below HN.out hd)
         replace HX := Lib.hid (blk_below HX.out hd)
         replace HR := Lib.hid (blk_below HR.out hd)
         replace HG1 := Lib.hid (HG1.out.below hd)
         replace HG2 := Lib.hid (HG2.out.below hd)
         replace HB := Lib.hid (below_then HB.out (below_size HB.out) hd)
         clear hd HA
         go_wp2_with fail
         refine (HNn _ (hG_.below HB.out)).out.mono ?_
         rintro e w7 ⟨rfl, hd⟩
         replace HN := Lib.hid (blk_below HN.out hd)
         replace HX := Lib.hid (blk_below HX.out hd)
         replace HR := Lib.hid (blk_below HR.out hd)
         replace HG1 := Lib.hid (HG1.out.below hd)
         replace HG2 := Lib.hid (HG2.out.below hd)
         replace HB := Lib.hid (below_then HB.out (below_size HB.out) hd)
         clear hd HNn
         have V1 : Hid (∀ W', W'.heap[g1]? = w7.heap[g1]? → Kd.V Kd.string 9 W' w.heap.size (fun k_ => w.heap.size ≤ k_) (.slice (some ⟨g1, 0, none⟩) xs1.length xs1.length) xs1) := fun W' hq => clipV (Kd.R_V (base := w.heap.size) (RowAt.toR (base := w.heap.size) flatS (HG1.out.other hq) (by have h1 := N1.out; omega) (by have h1 := N1.out; show w.heap.size ≤ g1; omega) (by decide)))
         have hl2 : (xs2.map lowBA).length = xs2.length := List.length_map _
         have V2 : Hid (∀ W', W'.heap[g2]? = w7.heap[g2]? → Kd.V Kd.string 9 W' w.heap.size (fun k_ => w.heap.size ≤ k_) (.slice (some ⟨g2, 0, none⟩) xs2.length xs2.length) (xs2.map lowBA)) := fun W' hq => by
          have hv := clipV (Kd.R_V (base := w.heap.size) (base' := w.heap.size) (RowAt.toR (base := w.heap.size) (ok := fun k_ => w.heap.size ≤ k_) flatS (HG2.out.other hq) (by have h1 := N1.out; have h2 := N2.out; omega) (by have h1 := N1.out; have h2 := N2.out; show w.heap.size ≤ g2; omega) (by decide)))
          rwa [hl2] at hv
         clear hl2
         have q1 : w.heap.size + 1 ≠ wr.heap.size := by have h1 := L1.out; have h2 := N1.out; omega
         have q2 : wr.heap.size ≠ w.heap.size + 1 := fun e => q1 e.symm
         have QA := Lib.hid (show g1 ≠ w.heap.size + 1 from by have h2 := N1.out; omega)
         have QB := Lib.hid (show g2 ≠ w.heap.size + 1 from by have h1 := N1.out; have h2 := N2.out; omega)
         have QC := Lib.hid (show g1 ≠ wr.heap.size from by have h1 := L1.out; omega)
         have QD := Lib.hid (show g2 ≠ wr.heap.size from by have h1 := L2.out; omega)
         obtain ⟨⟨n0, n1, n2⟩, k0, k1, k2⟩ := ans_cells HN.out
         cases ok with
         | true =>
          have HR2 := Lib.hid (blk_far (p := ⟨wr.heap.size, 2, none⟩) HR.out q1 (.int .i64 nn))
          obtain ⟨⟨a0, a1_, a2_⟩, f0, f1, f2⟩ := ans_cells HR.out
          go_wp2
          refine bodyPost_ret (results_ct rfl _ _ (w.heap.size + 1) 33 #[.slice (some ⟨g1, 0, none⟩) xs1.length xs1.length, .slice (some ⟨g2, 0, none⟩) xs2.length xs2.length, .int .i64 nn] (0, 0) _ rfl (ans_put _ _ _ HR2.out) Tryz.underlying33 rfl (by kernel_rfl)) rfl ?_
          refine ⟨_, _, ?_, V1 _ ?_, V2 _ ?_, ans_bel _ _ _ (below_set (g := wr.heap.size) (j := 2) HB.out hw) (Nat.le_succ _)⟩
          ·rw [HAGE.out]; rfl
          ·exact (ans_other _ _ _ QA.out).trans (Below.heap_setCell w7 ⟨wr.heap.size, 2, none⟩ _ g1 QC.out)
          ·exact (ans_other _ _ _ QB.out).trans (Below.heap_setCell w7 ⟨wr.heap.size, 2, none⟩ _ g2 QD.out)
         | false =>
          obtain ⟨⟨a0, a1_, a2_⟩, f0, f1, f2⟩ := ans_cells HR.out
          go_wp2
          refine bodyPost_ret (results_ct rfl _ _ (w.heap.size + 1) 33 #[.slice (some ⟨g1, 0, none⟩) xs1.length xs1.length, .slice (some ⟨g2, 0, none⟩) xs2.length xs2.length, .int .i64 5] (0, 0) _ rfl (ans_put _ _ _ HR.out) Tryz.underlying33 rfl (by kernel_rfl)) rfl ?_
          refine ⟨_, _, ?_, V1 _ (ans_other _ _ _ QA.out), V2 _ (ans_other _ _ _ QB.out), ans_bel _ _ _ HB.out (Nat.le_succ _)⟩
          rw [HAGE.out]; rfl
end Go.Proofs.YtfibkgmbgdaeoaaGreatDoor.Hand
