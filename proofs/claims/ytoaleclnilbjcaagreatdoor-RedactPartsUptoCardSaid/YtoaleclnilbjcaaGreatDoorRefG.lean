/- pursuivantref06.Good: what its walk gives: part by part. Condition: as in the functions that it calls. -/
import Derived.Test.YtoaleclnilbjcaaGreatDoorFA1
import Derived.Test.YtoaleclnilbjcaaGreatDoorPlain
import Derived.Deep.QuietTactic
import Derived.BigQuiet
namespace Go.Proofs.YtoaleclnilbjcaaGreatDoor.Hand
open Go.RowKit Go.Proofs.YtoaleclnilbjcaaGreatDoorW.PrintWords Go.Proofs.YtoaleclnilbjcaaGreatDoorW.PrintLast Go.Proofs.YtoaleclnilbjcaaGreatDoorW.PrintMore
set_option linter.unusedVariables false
set_option linter.unusedSimpArgs false

def refG.wh (k : Nat) (a0 a1 a2 : ByteArray) (a3 : Int) (a4 : ByteArray) (a5 : Bool) (a6 : ByteArray) (a7 : Bool) (a8 : ByteArray) : Option Bool := (pursuivantref06_whole.f k a0 a1 a2 a3 a4 a5 a6 a7 a8).bind fun t => if a1.toList = ([] : List UInt8) then some (decide ((t.size : Int) ≤ 1024)) else some (decide (wrap64 (wrap64 ((t.size : Int) - (a1.size : Int)) - 1) ≤ 1024))
def refG.cl (k : Nat) (a0 a1 a2 : ByteArray) (a3 : Int) (a4 : ByteArray) (a5 : Bool) (a6 : ByteArray) (a7 : Bool) (a8 : ByteArray) : Option Bool := (pursuivantref06_clean.f k a1 0).bind fun b => if b = true then (pursuivantref06_clean.f k a4 1).bind fun b => if b = true then (pursuivantref06_clean.f k a6 2).bind fun b => if b = true then (pursuivantref06_clean.f k a8 3).bind fun b => if b = true then
 (if (a1.size : Int) ≤ 128 then refG.wh k a0 a1 a2 a3 a4 a5 a6 a7 a8 else some false) else some false else some false else some false else some false
def refG.pa (k : Nat) (a0 a1 a2 : ByteArray) (a3 : Int) (a4 : ByteArray) (a5 : Bool) (a6 : ByteArray) (a7 : Bool) (a8 : ByteArray) : Option Bool := if a4.toList = ([] : List UInt8) then some false else if bt a4 0 = 47 then (if a5 = false ∧ a6.toList ≠ ([] : List UInt8) then some false else if a7 = false ∧ a8.toList ≠ ([] : List UInt8) then some false else refG.cl k a0 a1 a2 a3 a4 a5 a6 a7 a8) else some false
def pursuivantref06_Good.f (k : Nat) (a0 a1 a2 : ByteArray) (a3 : Int) (a4 : ByteArray) (a5 : Bool) (a6 : ByteArray) (a7 : Bool) (a8 : ByteArray) : Option Bool := (pursuivantref05_Default.f a0).bind fun d => if d = 0 then some false else if a3 < 0 then some false else if a3 > 65535 then some false else if a3 = d then some false else
 (pursuivantref05_Good.f k a2).bind fun g => if g = true then refG.pa k a0 a1 a2 a3 a4 a5 a6 a7 a8 else some false
theorem bt_first (s : ByteArray) (h : 0 < s.size) : bt s 0 = ((s[0]'h).toNat : Int) := by
 unfold bt
 rw [dif_pos (show (0 : Int).toNat < s.size from h)]
 rfl
theorem urlCells {W : World} {gb : Nat} {a0 : ByteArray} {a1 : ByteArray} {a2 : ByteArray} {a3 : Int} {a4 : ByteArray} {a5 : Bool} {a6 : ByteArray} {a7 : Bool} {a8 : ByteArray} (h : W.heap[gb]? = some (.cells #[.string a0, .string a1, .string a2, .int .i64 a3, .string a4, .bool a5, .string a6, .bool a7, .string a8] 67 (0, 0))) :
  W.cell? ⟨gb, 0, none⟩ = some (.string a0) ∧ W.cell? ⟨gb, 1, none⟩ = some (.string a1) ∧ W.cell? ⟨gb, 2, none⟩ = some (.string a2) ∧ W.cell? ⟨gb, 3, none⟩ = some (.int .i64 a3) ∧ W.cell? ⟨gb, 4, none⟩ = some (.string a4) ∧ W.cell? ⟨gb, 5, none⟩ = some (.bool a5) ∧ W.cell? ⟨gb, 6, none⟩ = some (.string a6) ∧ W.cell? ⟨gb, 7, none⟩ = some (.bool a7) ∧ W.cell? ⟨gb, 8, none⟩ = some (.string a8) :=
 ⟨(blk_cell h 0).trans rfl, (blk_cell h 1).trans rfl, (blk_cell h 2).trans rfl, (blk_cell h 3).trans rfl, (blk_cell h 4).trans rfl, (blk_cell h 5).trans rfl, (blk_cell h 6).trans rfl, (blk_cell h 7).trans rfl, (blk_cell h 8).trans rfl⟩

def US (w : World) (gb : Nat) (a0 a1 a2 : ByteArray) (a3 : Int) (a4 : ByteArray) (a5 : Bool) (a6 : ByteArray) (a7 : Bool) (a8 : ByteArray) (w' : World) : Prop := Aside0 (Below w.heap.size w w' ∧ w'.heap[gb]? = some (.cells #[.string a0, .string a1, .string a2, .int .i64 a3, .string a4, .bool a5, .string a6, .bool a7, .string a8] 67 (0, 0))) ∧ w'.cell? ⟨gb, 0, none⟩ = some (.string a0) ∧ w'.cell? ⟨gb, 1, none⟩ = some (.string a1) ∧ w'.cell? ⟨gb, 2, none⟩ = some (.string a2) ∧ w'.cell? ⟨gb, 3, none⟩ = some (.int .i64 a3) ∧ w'.cell? ⟨gb, 4, none⟩ = some (.string a4) ∧ w'.cell? ⟨gb, 5, none⟩ = some (.bool a5) ∧ w'.cell? ⟨gb, 6, none⟩ = some (.string a6) ∧ w'.cell? ⟨gb, 7, none⟩ = some (.bool a7) ∧ w'.cell? ⟨gb, 8, none⟩ = some (.string a8)
theorem US_mk {w : World} {gb : Nat} {a0 : ByteArray} {a1 : ByteArray} {a2 : ByteArray} {a3 : Int} {a4 : ByteArray} {a5 : Bool} {a6 : ByteArray} {a7 : Bool} {a8 : ByteArray} {w' : World} (hb : Below w.heap.size w w') (h : w'.heap[gb]? = some (.cells #[.string a0, .string a1, .string a2, .int .i64 a3, .string a4, .bool a5, .string a6, .bool a7, .string a8] 67 (0, 0))) : US w gb a0 a1 a2 a3 a4 a5 a6 a7 a8 w' := ⟨⟨hb, h⟩, urlCells h⟩
theorem US_below {w : World} {gb : Nat} {a0 : ByteArray} {a1 : ByteArray} {a2 : ByteArray} {a3 : Int} {a4 : ByteArray} {a5 : Bool} {a6 : ByteArray} {a7 : Bool} {a8 : ByteArray} {W W' : World} (h : US w gb a0 a1 a2 a3 a4 a5 a6 a7 a8 W) (hb : Below W.heap.size W W') : US w gb a0 a1 a2 a3 a4 a5 a6 a7 a8 W' :=
 US_mk (h.1.out.1.trans (hb.mono h.1.out.1.size)) ((hb.block gb (Array.getElem?_eq_some_iff.1 h.1.out.2).1).trans h.1.out.2)
theorem US_drew {w : World} {gb : Nat} {a0 : ByteArray} {a1 : ByteArray} {a2 : ByteArray} {a3 : Int} {a4 : ByteArray} {a5 : Bool} {a6 : ByteArray} {a7 : Bool} {a8 : ByteArray} {W : World} (h : US w gb a0 a1 a2 a3 a4 a5 a6 a7 a8 W) : US w gb a0 a1 a2 a3 a4 a5 a6 a7 a8 W.drew := US_below h (below_drew (Below.refl _ _))
theorem cleanQuiet (k : Nat) (s : ByteArray) (p : Int) (b : Bool) (W : World) (n : Nat) (hG : GW W) (h : pursuivantref06_clean.f k s p = some b) :
  Calls Tryz.prog 71 #[.string s, .int .i64 p] (W.drewN n) fun e w' => e = .returned (.bool b) ∧ ∃ m, w' = (W.drewN n).drewN m :=
 (pursuivantref06_clean.calls k s p b _ hG.drewN h).mono fun e w' hh => ⟨hh.1, hh.2.out⟩
theorem wholeKeep (k : Nat) (a0 a1 a2 : ByteArray) (a3 : Int) (a4 : ByteArray) (a5 : Bool) (a6 : ByteArray) (a7 : Bool) (a8 t : ByteArray) (W w : World) (gb : Nat) (Q : World → Prop) (hQ : ∀ W W', Q W → Below W.heap.size W W' → Q W') (hk : Q W) (hG : GW W) (h : pursuivantref06_whole.f k a0 a1 a2 a3 a4 a5 a6 a7 a8 = some t) :
  Calls Tryz.prog 72 #[.agg #[.string a0, .string a1, .string a2, .int .i64 a3, .string a4, .bool a5, .string a6, .bool a7, .string a8]] W fun e w' => e = .returned (.string t) ∧ Q w' :=
 (pursuivantref06_whole.calls k a0 a1 a2 a3 a4 a5 a6 a7 a8 t W hG h).mono fun e w' hh => ⟨hh.1, hQ _ _ hk hh.2⟩
def tf_ (a b : Nat) : Array Bool := ⟨List.replicate a true ++ List.replicate b false⟩
theorem cleanKeep (k : Nat) (s : ByteArray) (p : Int) (b : Bool) (W w : World) (gb : Nat) (Q : World → Prop) (hQ : ∀ W W', Q W → Below W.heap.size W W' → Q W') (hk : Q W) (hG : GW W) (h : pursuivantref06_clean.f k s p = some b) :
  Calls Tryz.prog 71 #[.string s, .int .i64 p] W fun e w' => e = .returned (.bool b) ∧ Q w' :=
 (pursuivantref06_clean.calls k s p b W hG h).mono fun e w' hh => ⟨hh.1, hQ _ _ hk hh.2.below⟩

def refG.T1 : Bool × List (List Nat × List Nat) := (true, [([], []), ([0], [0]), ([1], [1]), ([2, 2], [2]), ([3], [3]), ([4, 3], [3, 4]), ([5, 3, 3], [3, 5]), ([3, 6], [3, 6]), ([7, 6], [7]), ([8], [8]), ([9, 8], [8, 9]), ([10, 8, 8], [8, 10]), ([8, 11], [8, 11]), ([12, 11], [12]), ([13], [13]), ([14, 13], [13, 14]), ([15, 13, 13], [13, 15]), ([13, 16], [13, 16]), ([17, 16], [17]), ([18], [18]), ([19, 18], [18, 19]), ([20, 18], [18, 20]), ([21, 18], [18, 21]), ([18, 22], [18, 22]), ([23, 18], [23]), ([24], [24]), ([25, 24], [24, 25]), ([26, 24], [24, 26]), ([27, 24, 24], [24, 27]), ([28], [28]), ([29, 28, 28], [28, 29]), ([30, 28], [28, 30]), ([31, 28], [28, 31]), ([28, 32, 24], [24, 28, 32]), ([33, 30, 24], [24, 33]), ([34], [34]), ([35, 34], [34, 35]), ([36, 34], [34, 36]), ([37, 34, 34], [34, 37]), ([38], [38]), ([39, 38, 38], [38, 39]), ([40, 38], [38, 40]), ([38], [38]), ([42, 38], [38, 42]), ([43, 38], [38, 43]), ([41, 44, 38], [38, 41, 44]), ([45, 38], [38, 45]), ([46, 38], [38, 46]), ([38, 47, 34], [34, 38, 47]), ([34, 48, 24], [24, 34, 48]), ([24, 49], [24, 49]), ([50, 40, 0, 1, 2, 3, 4, 5, 6, 7, 8, 9, 10, 11, 12, 13, 14, 15, 16, 17, 18, 19, 20, 21, 22, 23, 24, 25, 26, 27, 28, 29, 30, 31, 32, 33, 34, 35, 36, 37, 38, 39, 40, 41, 42, 43, 44, 45, 46, 47, 48, 49, 50], [50])])
def refG.B1 : List Nat := [0, 1, 3, 7, 15, 31, 63, 127, 255, 511, 1023, 2047, 4095, 8191, 16383, 32767, 65535, 131071, 262143, 524287, 1048575, 2097151, 4194303, 8388607, 16777215, 33554431, 67108863, 134217727, 268435455, 536870911, 1073741823, 2147483647, 4294967295, 8589934591, 17179869183, 34359738367, 68719476735, 137438953471, 274877906943, 549755813887, 1099511627775, 2199023255551, 549755813887, 4947802324991, 13743895347199, 35184372088831, 70368744177663, 140737488355327, 281474976710655, 562949953421311, 1125899906842623, 2251799813685247]
theorem refG.tab1 : rtab .any (opsOf Tryz.f32 6) = refG.T1 := by kernel_rfl
theorem refG.bits1 : waitsOk refG.T1.2 refG.B1 = true := by kernel_rfl

set_option maxRecDepth 100000 in
set_option maxHeartbeats 8000000 in
theorem pursuivantref06_Good.calls (k : Nat) (a0 a1 a2 : ByteArray) (a3 : Int) (a4 : ByteArray) (a5 : Bool) (a6 : ByteArray) (a7 : Bool) (a8 : ByteArray) (r : Bool) (w : World) (hG_ : GW w) (h : pursuivantref06_Good.f k a0 a1 a2 a3 a4 a5 a6 a7 a8 = some r) :
  Calls Tryz.prog 32 #[.agg #[.string a0, .string a1, .string a2, .int .i64 a3, .string a4, .bool a5, .string a6, .bool a7, .string a8]] w fun e w' => e = .returned (.bool r) ∧ Below w.heap.size w w' := by
 have hu := Tryz.underlying67
 unfold pursuivantref06_Good.f at h
 cases hd : pursuivantref05_Default.f a0 with
 | none => rw [hd] at h; cases h
 | some d =>
  rw [hd, Option.bind_some] at h
  have HD := fun W hW => Lib.hid (pursuivantref05_Default.calls a0 d W hW hd)
  have H0 := Lib.hid h
  clear h hd
  go_enter Tryz.func32, Tryz.ntmps32
  go_upto_region 2 with (first | ((with_reducible refine gate_dst (N := 1) rfl ?_); (try (refine gate_guard (by rfl) ?_; dsimp only)); refine box_event ?hg (N := 1) ?hd (cs := #[.string a0, .string a1, .string a2, .int .i64 a3, .string a4, .bool a5, .string a6, .bool a7, .string a8]) (t := 67) ?hr ?_; (case hd => rfl); (case hg => rfl); (case hr => first | (go_simp; done) | (go_simp; rfl)); intro gb hg w4 hbox hb; have HB := Aside0.mk (below_step (Below.refl w.heap.size w) hb); have BK := Aside0.mk hbox; clear hb hbox hg; obtain ⟨z0, z1, z2, z3, z4, z5, z6, z7, z8⟩ := urlCells BK.out) | (go_at_call 69; refine (HD _ (hG_.below HB.out)).out.mono ?_; rintro e w' ⟨rfl, ⟨nd, rfl⟩⟩))
  have HB5 := Aside0.mk (pw_below_drewN HB.out nd)
  have BK5 := Aside0.mk (show (w4.drewN nd).heap[gb]? = _ from BK.out)
  clear HB BK HD z0 z1 z2 z3 z4 z5 z6 z7 z8
  generalize w4.drewN nd = w5 at *
  obtain ⟨z0, z1, z2, z3, z4, z5, z6, z7, z8⟩ := urlCells BK5.out
  have H := H0.out
  clear H0
  by_cases c : d = 0
  ·rw [if_pos c] at H
   have b_ : (d == 0) = true := beq_iff_eq.mpr c; clear c
   obtain rfl : false = r := Option.some.inj H
   go_wp2
   go_ret
   exact ⟨rfl, HB5.out⟩
  rw [if_neg c] at H; have b_16 : (d == 0) = false := beq_eq_false_iff_ne.mpr c; clear c
  by_cases c : a3 < 0
  ·rw [if_pos c] at H
   have b_ : decide (a3 < 0) = true := decide_eq_true c; clear c
   obtain rfl : false = r := Option.some.inj H
   go_wp2
   go_ret
   exact ⟨rfl, HB5.out⟩
  rw [if_neg c] at H; have b_27 : decide (a3 < 0) = false := decide_eq_false c; clear c
  by_cases c : a3 > 65535
  ·rw [if_pos c] at H
   have b_ : decide (65535 < a3) = true := decide_eq_true c; clear c
   obtain rfl : false = r := Option.some.inj H
   go_wp2
   go_ret
   exact ⟨rfl, HB5.out⟩
  rw [if_neg c] at H; have b_38 : decide (65535 < a3) = false := decide_eq_false c; clear c
  by_cases c : a3 = d
  ·rw [if_pos c] at H
   have b_ : (a3 == d) = true := beq_iff_eq.mpr c; clear c
   obtain rfl : false = r := Option.some.inj H
   go_wp2
   go_ret
   exact ⟨rfl, HB5.out⟩
  rw [if_neg c] at H; have b_49 : (a3 == d) = false := beq_eq_false_iff_ne.mpr c; clear c
  cases hg : pursuivantref05_Good.f k a2 with
  | none => rw [hg] at H; cases H
  | some g =>
   rw [hg, Option.bind_some] at H
   have HG5 := Lib.hid (pursuivantref05_Good.calls k a2 g w5 (hG_.below HB5.out) hg)
   clear hg
   cases g with
   | false =>
    rw [if_neg (by simp)] at H
    obtain rfl : false = r := Option.some.inj H
    go_wp2_with (go_at_call 70; refine HG5.out.mono ?_; rintro e w' ⟨rfl, ⟨nd2, rfl⟩⟩)
    go_ret
    exact ⟨rfl, pw_below_drewN HB5.out nd2⟩
   | true =>
    rw [if_pos rfl] at H
    go_upto_region 4 with (go_at_call 70; refine HG5.out.mono ?_; rintro e w' ⟨rfl, ⟨nd2, rfl⟩⟩)
    have HB6 := Aside0.mk (pw_below_drewN HB5.out nd2)
    have BK6 := Aside0.mk (show (w5.drewN nd2).heap[gb]? = _ from BK5.out)
    clear HB5 BK5 HG5 z0 z1 z2 z3 z4 z5 z6 z7 z8
    generalize w5.drewN nd2 = w6 at *
    obtain ⟨z0, z1, z2, z3, z4, z5, z6, z7, z8⟩ := urlCells BK6.out
    unfold refG.pa at H
    by_cases c : a4.toList = ([] : List UInt8)
    ·rw [if_pos c] at H
     have b_ : (a4.toList == ([] : List UInt8)) = true := beq_iff_eq.mpr c
     have e_ : a4.toList.isEmpty = true := by rw [c]; rfl
     clear c
     obtain rfl : false = r := Option.some.inj H
     go_wp2
     go_ret
     exact ⟨rfl, HB6.out⟩
    rw [if_neg c] at H; have ba_ : (a4.toList == ([] : List UInt8)) = false := beq_eq_false_iff_ne.mpr c
    have ea_ : a4.toList.isEmpty = false := by rw [← nil_beq]; exact ba_
    have sz_ : 0 < (a4.size : Int) := by obtain ⟨l, rfl⟩ := ba_of a4; rw [ba_size']; rw [ba_list] at c; have := List.length_pos_iff.2 c; omega
    clear c
    have hz : 0 < a4.size := by omega
    have ez_ := Lib.hid (bt_first a4 hz)
    by_cases c : bt a4 0 = 47
    case neg =>
     rw [if_neg c] at H
     rw [ez_.out] at c
     have b_ : (((a4[0]'hz).toNat : Int) != 47) = true := bne_iff_ne.mpr c
     clear c
     obtain rfl : false = r := Option.some.inj H
     go_wp2
     go_ret
     exact ⟨rfl, HB6.out⟩
    rw [if_pos c] at H
    rw [ez_.out] at c
    have bz_ : (((a4[0]'hz).toNat : Int) != 47) = false := by rw [c]; rfl
    clear c
    by_cases c : a5 = false ∧ a6.toList ≠ ([] : List UInt8)
    ·rw [if_pos c] at H
     obtain ⟨rfl, c2⟩ := c
     have x_ : (a6.toList != ([] : List UInt8)) = true := bne_iff_ne.mpr c2
     have y_ : a6.toList.isEmpty = false := by rw [← nil_beq]; exact beq_eq_false_iff_ne.mpr c2
     clear c2
     obtain rfl : false = r := Option.some.inj H
     go_wp2
     go_ret
     exact ⟨rfl, HB6.out⟩
    rw [if_neg c] at H
    have xa_ : (!a5 && !a6.toList.isEmpty) = false := by cases a5 <;> simp_all
    clear c
    by_cases c : a7 = false ∧ a8.toList ≠ ([] : List UInt8)
    ·rw [if_pos c] at H
     obtain ⟨rfl, c2⟩ := c
     have x_ : (a8.toList != ([] : List UInt8)) = true := bne_iff_ne.mpr c2
     have y_ : a8.toList.isEmpty = false := by rw [← nil_beq]; exact beq_eq_false_iff_ne.mpr c2
     clear c2
     obtain rfl : false = r := Option.some.inj H
     cases a5
     case true => go_wp2; go_ret; exact ⟨rfl, HB6.out⟩
     case false =>
      have z_ : a6.toList.isEmpty = true := by simpa using xa_
      go_wp2; go_ret; exact ⟨rfl, HB6.out⟩
    rw [if_neg c] at H
    have xb_ : (!a7 && !a8.toList.isEmpty) = false := by cases a7 <;> simp_all
    clear c
    generalize Value.agg #[.string a0, .string a1, .string a2, .int .i64 a3, .string a4, .bool a5, .string a6, .bool a7, .string a8] = ag_
    go_cut [59] (fun v59 wc => v59 = .bool false ∧ Aside0 (wc.heap[gb]? = some (.cells #[.string a0, .string a1, .string a2, .int .i64 a3, .string a4, .bool a5, .string a6, .bool a7, .string a8] 67 (0, 0))) ∧ Aside0 (Below w.heap.size w wc))
    case first =>
     go_wp2
     all_goals go_meet
     all_goals (case rel => exact ⟨by first | rfl | (clear BK6 HB6 z0 z1 z2 z3 z4 z5 z6 z7 z8 hu H hG_ ez_; simp_all), BK6, HB6⟩)
    case rest =>
     obtain ⟨rfl, BK, HB⟩ := hcut
     clear BK6 HB6 z0 z1 z2 z3 z4 z5 z6 z7 z8 xa_ xb_ ba_ ea_ sz_ hz ez_ bz_ b_16 b_27 b_38 b_49
     obtain ⟨z0, z1, z2, z3, z4, z5, z6, z7, z8⟩ := urlCells BK.out
     go_upto_region 6 with (fail)
     have hs0 := US_mk (w := w) HB.out BK.out
     unfold refG.cl at H
     cases h0 : pursuivantref06_clean.f k a1 0 with
     | none => rw [h0] at H; cases H
     | some c0 =>
      rw [h0, Option.bind_some] at H
      have Q0 := fun n => Lib.hid (cleanQuiet k a1 0 c0 wc n (hG_.below HB.out) h0)
      have C0 := fun W (hk : US w gb a0 a1 a2 a3 a4 a5 a6 a7 a8 W) => Lib.hid (cleanKeep k a1 0 c0 W w gb (US w gb a0 a1 a2 a3 a4 a5 a6 a7 a8) (fun _ _ h hb => US_below h hb) hk (hG_.below hk.1.out.1) h0)
      clear h0
      cases c0 with
      | false =>
       rw [if_neg (by simp)] at H
       obtain rfl : false = r := Option.some.inj H
       clear C0
       go_quiet ((go_at_call 71; first | (with_reducible exact Calls.quiet_of (Q0 _).out)))
       go_wp2
       go_ret
       exact ⟨rfl, pw_below_drewN HB.out _⟩
      | true =>
       rw [if_pos rfl] at H
       cases h1 : pursuivantref06_clean.f k a4 1 with
       | none => rw [h1] at H; cases H
       | some c1 =>
        rw [h1, Option.bind_some] at H
        have Q1 := fun n => Lib.hid (cleanQuiet k a4 1 c1 wc n (hG_.below HB.out) h1)
        have C1 := fun W (hk : US w gb a0 a1 a2 a3 a4 a5 a6 a7 a8 W) => Lib.hid (cleanKeep k a4 1 c1 W w gb (US w gb a0 a1 a2 a3 a4 a5 a6 a7 a8) (fun _ _ h hb => US_below h hb) hk (hG_.below hk.1.out.1) h1)
        clear h1
        cases c1 with
        | false =>
         rw [if_neg (by simp)] at H
         obtain rfl : false = r := Option.some.inj H
         clear C1
         go_quiet ((go_at_call 71; first | (with_reducible exact Calls.quiet_of (Q0 _).out) | (with_reducible exact Calls.quiet_of (Q1 _).out)))
         go_wp2
         go_ret
         exact ⟨rfl, pw_below_drewN HB.out _⟩
        | true =>
         rw [if_pos rfl] at H
         cases h2 : pursuivantref06_clean.f k a6 2 with
         | none => rw [h2] at H; cases H
         | some c2 =>
          rw [h2, Option.bind_some] at H
          have Q2 := fun n => Lib.hid (cleanQuiet k a6 2 c2 wc n (hG_.below HB.out) h2)
          have C2 := fun W (hk : US w gb a0 a1 a2 a3 a4 a5 a6 a7 a8 W) => Lib.hid (cleanKeep k a6 2 c2 W w gb (US w gb a0 a1 a2 a3 a4 a5 a6 a7 a8) (fun _ _ h hb => US_below h hb) hk (hG_.below hk.1.out.1) h2)
          clear h2
          cases c2 with
          | false =>
           rw [if_neg (by simp)] at H
           obtain rfl : false = r := Option.some.inj H
           clear C2
           go_quiet ((go_at_call 71; first | (with_reducible exact Calls.quiet_of (Q0 _).out) | (with_reducible exact Calls.quiet_of (Q1 _).out) | (with_reducible exact Calls.quiet_of (Q2 _).out)))
           go_wp2
           go_ret
           exact ⟨rfl, pw_below_drewN HB.out _⟩
          | true =>
           rw [if_pos rfl] at H
           cases h3 : pursuivantref06_clean.f k a8 3 with
           | none => rw [h3] at H; cases H
           | some c3 =>
            rw [h3, Option.bind_some] at H
            have Q3 := fun n => Lib.hid (cleanQuiet k a8 3 c3 wc n (hG_.below HB.out) h3)
            have C3 := fun W (hk : US w gb a0 a1 a2 a3 a4 a5 a6 a7 a8 W) => Lib.hid (cleanKeep k a8 3 c3 W w gb (US w gb a0 a1 a2 a3 a4 a5 a6 a7 a8) (fun _ _ h hb => US_below h hb) hk (hG_.below hk.1.out.1) h3)
            clear h3
            cases c3 with
            | false =>
             rw [if_neg (by simp)] at H
             obtain rfl : false = r := Option.some.inj H
             clear C3
             go_quiet ((go_at_call 71; first | (with_reducible exact Calls.quiet_of (Q0 _).out) | (with_reducible exact Calls.quiet_of (Q1 _).out) | (with_reducible exact Calls.quiet_of (Q2 _).out) | (with_reducible exact Calls.quiet_of (Q3 _).out)))
             go_wp2
             go_ret
             exact ⟨rfl, pw_below_drewN HB.out _⟩
            | true =>
             rw [if_pos rfl] at H
             by_cases c : (a1.size : Int) ≤ 128
             case neg =>
              rw [if_neg c] at H
              obtain rfl : false = r := Option.some.inj H
              have cb : decide ((a1.size : Int) ≤ 128) = false := decide_eq_false c; clear c C0 C1 C2 C3
              go_quiet ((go_at_call 71; first | (with_reducible exact Calls.quiet_of (Q0 _).out) | (with_reducible exact Calls.quiet_of (Q1 _).out) | (with_reducible exact Calls.quiet_of (Q2 _).out) | (with_reducible exact Calls.quiet_of (Q3 _).out)))
              go_wp2
              go_ret
              exact ⟨rfl, pw_below_drewN HB.out _⟩
             rw [if_pos c] at H; have cb : decide ((a1.size : Int) ≤ 128) = true := decide_eq_true c; clear c Q0 Q1 Q2 Q3
             unfold refG.wh at H
             cases hw : pursuivantref06_whole.f k a0 a1 a2 a3 a4 a5 a6 a7 a8 with
             | none => rw [hw] at H; cases H
             | some t =>
              rw [hw, Option.bind_some] at H
              have CW := fun W (hk : US w gb a0 a1 a2 a3 a4 a5 a6 a7 a8 W) => Lib.hid (wholeKeep k a0 a1 a2 a3 a4 a5 a6 a7 a8 t W w gb (US w gb a0 a1 a2 a3 a4 a5 a6 a7 a8) (fun _ _ h hb => US_below h hb) hk (hG_.below hk.1.out.1) hw)
              clear hw
              refine start_ (n := 52) (S := US w gb a0 a1 a2 a3 a4 a5 a6 a7 a8) (ds := []) (tf_ 0 52) (by kernel_rfl) rfl rfl (US_drew hs0) (fun hHeld => ?_)
              refine with_tabW refG.tab1 refG.bits1 (fun HT_ HW_ => ?_)
              generalize wc.drew = wd at hHeld ⊢
              clear hs0 BK HB z0 z1 z2 z3 z4 z5 z6 z7 z8
              refine pure_ (i := 0) (N := some 60) (v := ?_) (a' := ?_) (tf_ 1 51) rfl rfl (any_of HT_.out (by kernel_rfl)) (fun _ _ _ h => h) (Or.inl ⟨by rfl, ?_⟩) ?_ ?_
              rotate_left
              ·intro w'
               go_simp
               first | done | with_reducible rfl
              rotate_left
              ·simp only [Act.put, List.setIfInBounds_toArray, List.set_cons_zero, List.set_cons_succ, i64_w, i32_w]
               rfl
              refine take_ (i := 1) (N := some 61) (v := ?_) (a' := ?_) (tf_ 2 50) rfl rfl (take_ofW HT_.out HW_.out (by kernel_rfl)) (fun _ _ _ h => h) (Or.inl ⟨by rfl, ?_⟩) hHeld ?_ ?_
              rotate_left
              ·rintro w' ⟨_, s0, s1, s2, s3, s4, s5, s6, s7, s8⟩
               go_simp
               first | done | with_reducible rfl
              rotate_left
              ·simp only [Act.put, List.setIfInBounds_toArray, List.set_cons_zero, List.set_cons_succ, i64_w, i32_w]
               rfl
              refine one_ (i := 2) (N := some 62) (tf_ 3 49) rfl rfl (one_of HT_.out (by kernel_rfl)) (by decide) (fun K hK => ?_)
              refine goes_ Tryz.func71 (by kernel_rfl) rfl #[.string a1, .int .i64 0] (by rfl) rfl rfl (by (try simp only [List.map_toArray, List.map_cons, List.map_nil]); first | done | rfl) ?_
              refine (C0 _ hHeld).out.mono ?_
              clear hHeld
              rintro e wr1 ⟨rfl, hs⟩
              refine ⟨_, rfl, ?_⟩
              refine hK.out _ _ hs (fun hHeld => ?_)
              clear hK K hs
              refine norm_ (a' := ?_) ?_ ?_
              rotate_left
              ·show Act.put _ (some 62) _ = _
               simp only [Act.put, List.setIfInBounds_toArray, List.set_cons_zero, List.set_cons_succ, i64_w, i32_w]
               rfl
              refine pure_ (i := 3) (N := some 63) (v := ?_) (a' := ?_) (tf_ 4 48) rfl rfl (any_of HT_.out (by kernel_rfl)) (fun _ _ _ h => h) (Or.inl ⟨by rfl, ?_⟩) ?_ ?_
              rotate_left
              ·intro w'
               go_simp
               first | done | with_reducible rfl
              rotate_left
              ·simp only [Act.put, List.setIfInBounds_toArray, List.set_cons_zero, List.set_cons_succ, i64_w, i32_w]
               rfl
              refine pure_ (i := 4) (N := some 64) (v := ?_) (a' := ?_) (tf_ 5 47) rfl rfl (any_of HT_.out (by kernel_rfl)) (fun _ _ _ h => h) (Or.inl ⟨by rfl, ?_⟩) ?_ ?_
              rotate_left
              ·intro w'
               go_simp
               first | done | with_reducible rfl
              rotate_left
              ·simp only [Act.put, List.setIfInBounds_toArray, List.set_cons_zero, List.set_cons_succ, i64_w, i32_w]
               rfl
              refine take_ (i := 5) (N := some 65) (v := ?_) (a' := ?_) (tf_ 6 46) rfl rfl (take_ofW HT_.out HW_.out (by kernel_rfl)) (fun _ _ _ h => h) (Or.inl ⟨by rfl, ?_⟩) hHeld ?_ ?_
              rotate_left
              ·rintro w' ⟨_, s0, s1, s2, s3, s4, s5, s6, s7, s8⟩
               go_simp
               first | done | with_reducible rfl
              rotate_left
              ·simp only [Act.put, List.setIfInBounds_toArray, List.set_cons_zero, List.set_cons_succ, i64_w, i32_w]
               rfl
              refine one_ (i := 6) (N := some 66) (tf_ 7 45) rfl rfl (one_of HT_.out (by kernel_rfl)) (by decide) (fun K hK => ?_)
              refine goes_ Tryz.func71 (by kernel_rfl) rfl #[.string a4, .int .i64 1] (by rfl) rfl rfl (by (try simp only [List.map_toArray, List.map_cons, List.map_nil]); first | done | rfl) ?_
              refine (C1 _ hHeld).out.mono ?_
              clear hHeld
              rintro e wr2 ⟨rfl, hs⟩
              refine ⟨_, rfl, ?_⟩
              refine hK.out _ _ hs (fun hHeld => ?_)
              clear hK K hs
              refine norm_ (a' := ?_) ?_ ?_
              rotate_left
              ·show Act.put _ (some 66) _ = _
               simp only [Act.put, List.setIfInBounds_toArray, List.set_cons_zero, List.set_cons_succ, i64_w, i32_w]
               rfl
              refine pure_ (i := 7) (N := some 67) (v := ?_) (a' := ?_) (tf_ 8 44) rfl rfl (any_of HT_.out (by kernel_rfl)) (fun _ _ _ h => h) (Or.inl ⟨by rfl, ?_⟩) ?_ ?_
              rotate_left
              ·intro w'
               go_simp
               first | done | with_reducible rfl
              rotate_left
              ·simp only [Act.put, List.setIfInBounds_toArray, List.set_cons_zero, List.set_cons_succ, i64_w, i32_w]
               rfl
              refine pure_ (i := 8) (N := some 68) (v := ?_) (a' := ?_) (tf_ 9 43) rfl rfl (any_of HT_.out (by kernel_rfl)) (fun _ _ _ h => h) (Or.inl ⟨by rfl, ?_⟩) ?_ ?_
              rotate_left
              ·intro w'
               go_simp
               first | done | with_reducible rfl
              rotate_left
              ·simp only [Act.put, List.setIfInBounds_toArray, List.set_cons_zero, List.set_cons_succ, i64_w, i32_w]
               rfl
              refine pure_ (i := 9) (N := some 69) (v := ?_) (a' := ?_) (tf_ 10 42) rfl rfl (any_of HT_.out (by kernel_rfl)) (fun _ _ _ h => h) (Or.inl ⟨by rfl, ?_⟩) ?_ ?_
              rotate_left
              ·intro w'
               go_simp
               first | done | with_reducible rfl
              rotate_left
              ·simp only [Act.put, List.setIfInBounds_toArray, List.set_cons_zero, List.set_cons_succ, i64_w, i32_w]
               rfl
              refine take_ (i := 10) (N := some 70) (v := ?_) (a' := ?_) (tf_ 11 41) rfl rfl (take_ofW HT_.out HW_.out (by kernel_rfl)) (fun _ _ _ h => h) (Or.inl ⟨by rfl, ?_⟩) hHeld ?_ ?_
              rotate_left
              ·rintro w' ⟨_, s0, s1, s2, s3, s4, s5, s6, s7, s8⟩
               go_simp
               first | done | with_reducible rfl
              rotate_left
              ·simp only [Act.put, List.setIfInBounds_toArray, List.set_cons_zero, List.set_cons_succ, i64_w, i32_w]
               rfl
              refine one_ (i := 11) (N := some 71) (tf_ 12 40) rfl rfl (one_of HT_.out (by kernel_rfl)) (by decide) (fun K hK => ?_)
              refine goes_ Tryz.func71 (by kernel_rfl) rfl #[.string a6, .int .i64 2] (by rfl) rfl rfl (by (try simp only [List.map_toArray, List.map_cons, List.map_nil]); first | done | rfl) ?_
              refine (C2 _ hHeld).out.mono ?_
              clear hHeld
              rintro e wr3 ⟨rfl, hs⟩
              refine ⟨_, rfl, ?_⟩
              refine hK.out _ _ hs (fun hHeld => ?_)
              clear hK K hs
              refine norm_ (a' := ?_) ?_ ?_
              rotate_left
              ·show Act.put _ (some 71) _ = _
               simp only [Act.put, List.setIfInBounds_toArray, List.set_cons_zero, List.set_cons_succ, i64_w, i32_w]
               rfl
              refine pure_ (i := 12) (N := some 72) (v := ?_) (a' := ?_) (tf_ 13 39) rfl rfl (any_of HT_.out (by kernel_rfl)) (fun _ _ _ h => h) (Or.inl ⟨by rfl, ?_⟩) ?_ ?_
              rotate_left
              ·intro w'
               go_simp
               first | done | with_reducible rfl
              rotate_left
              ·simp only [Act.put, List.setIfInBounds_toArray, List.set_cons_zero, List.set_cons_succ, i64_w, i32_w]
               rfl
              refine pure_ (i := 13) (N := some 73) (v := ?_) (a' := ?_) (tf_ 14 38) rfl rfl (any_of HT_.out (by kernel_rfl)) (fun _ _ _ h => h) (Or.inl ⟨by rfl, ?_⟩) ?_ ?_
              rotate_left
              ·intro w'
               go_simp
               first | done | with_reducible rfl
              rotate_left
              ·simp only [Act.put, List.setIfInBounds_toArray, List.set_cons_zero, List.set_cons_succ, i64_w, i32_w]
               rfl
              refine pure_ (i := 14) (N := some 74) (v := ?_) (a' := ?_) (tf_ 15 37) rfl rfl (any_of HT_.out (by kernel_rfl)) (fun _ _ _ h => h) (Or.inl ⟨by rfl, ?_⟩) ?_ ?_
              rotate_left
              ·intro w'
               go_simp
               first | done | with_reducible rfl
              rotate_left
              ·simp only [Act.put, List.setIfInBounds_toArray, List.set_cons_zero, List.set_cons_succ, i64_w, i32_w]
               rfl
              refine take_ (i := 15) (N := some 75) (v := ?_) (a' := ?_) (tf_ 16 36) rfl rfl (take_ofW HT_.out HW_.out (by kernel_rfl)) (fun _ _ _ h => h) (Or.inl ⟨by rfl, ?_⟩) hHeld ?_ ?_
              rotate_left
              ·rintro w' ⟨_, s0, s1, s2, s3, s4, s5, s6, s7, s8⟩
               go_simp
               first | done | with_reducible rfl
              rotate_left
              ·simp only [Act.put, List.setIfInBounds_toArray, List.set_cons_zero, List.set_cons_succ, i64_w, i32_w]
               rfl
              refine one_ (i := 16) (N := some 76) (tf_ 17 35) rfl rfl (one_of HT_.out (by kernel_rfl)) (by decide) (fun K hK => ?_)
              refine goes_ Tryz.func71 (by kernel_rfl) rfl #[.string a8, .int .i64 3] (by rfl) rfl rfl (by (try simp only [List.map_toArray, List.map_cons, List.map_nil]); first | done | rfl) ?_
              refine (C3 _ hHeld).out.mono ?_
              clear hHeld
              rintro e wr4 ⟨rfl, hs⟩
              refine ⟨_, rfl, ?_⟩
              refine hK.out _ _ hs (fun hHeld => ?_)
              clear hK K hs
              refine norm_ (a' := ?_) ?_ ?_
              rotate_left
              ·show Act.put _ (some 76) _ = _
               simp only [Act.put, List.setIfInBounds_toArray, List.set_cons_zero, List.set_cons_succ, i64_w, i32_w]
               rfl
              refine pure_ (i := 17) (N := some 77) (v := ?_) (a' := ?_) (tf_ 18 34) rfl rfl (any_of HT_.out (by kernel_rfl)) (fun _ _ _ h => h) (Or.inl ⟨by rfl, ?_⟩) ?_ ?_
              rotate_left
              ·intro w'
               go_simp
               first | done | with_reducible rfl
              rotate_left
              ·simp only [Act.put, List.setIfInBounds_toArray, List.set_cons_zero, List.set_cons_succ, i64_w, i32_w]
               rfl
              refine pure_ (i := 18) (N := some 78) (v := ?_) (a' := ?_) (tf_ 19 33) rfl rfl (any_of HT_.out (by kernel_rfl)) (fun _ _ _ h => h) (Or.inl ⟨by rfl, ?_⟩) ?_ ?_
              rotate_left
              ·intro w'
               go_simp
               first | done | with_reducible rfl
              rotate_left
              ·simp only [Act.put, List.setIfInBounds_toArray, List.set_cons_zero, List.set_cons_succ, i64_w, i32_w]
               rfl
              refine pure_ (i := 19) (N := some 79) (v := ?_) (a' := ?_) (tf_ 20 32) rfl rfl (any_of HT_.out (by kernel_rfl)) (fun _ _ _ h => h) (Or.inl ⟨by rfl, ?_⟩) ?_ ?_
              rotate_left
              ·intro w'
               go_simp
               first | done | with_reducible rfl
              rotate_left
              ·simp only [Act.put, List.setIfInBounds_toArray, List.set_cons_zero, List.set_cons_succ, i64_w, i32_w]
               rfl
              refine take_ (i := 20) (N := some 80) (v := ?_) (a' := ?_) (tf_ 21 31) rfl rfl (take_ofW HT_.out HW_.out (by kernel_rfl)) (fun _ _ _ h => h) (Or.inl ⟨by rfl, ?_⟩) hHeld ?_ ?_
              rotate_left
              ·rintro w' ⟨_, s0, s1, s2, s3, s4, s5, s6, s7, s8⟩
               go_simp
               first | done | with_reducible rfl
              rotate_left
              ·simp only [Act.put, List.setIfInBounds_toArray, List.set_cons_zero, List.set_cons_succ, i64_w, i32_w]
               rfl
              refine pure_ (i := 21) (N := some 81) (v := ?_) (a' := ?_) (tf_ 22 30) rfl rfl (any_of HT_.out (by kernel_rfl)) (fun _ _ _ h => h) (Or.inl ⟨by rfl, ?_⟩) ?_ ?_
              rotate_left
              ·intro w'
               go_simp
               first | done | with_reducible rfl
              rotate_left
              ·simp only [Act.put, List.setIfInBounds_toArray, List.set_cons_zero, List.set_cons_succ, i64_w, i32_w]
               rfl
              refine pure_ (i := 22) (N := some 82) (v := ?_) (a' := ?_) (tf_ 23 29) rfl rfl (any_of HT_.out (by kernel_rfl)) (fun _ _ _ h => h) (Or.inl ⟨by rfl, ?_⟩) ?_ ?_
              rotate_left
              ·intro w'
               go_simp
               first | done | with_reducible rfl
              rotate_left
              ·simp only [Act.put, List.setIfInBounds_toArray, List.set_cons_zero, List.set_cons_succ, i64_w, i32_w]
               rfl
              refine pure_ (i := 23) (N := some 83) (v := ?_) (a' := ?_) (tf_ 24 28) rfl rfl (any_of HT_.out (by kernel_rfl)) (fun _ _ _ h => h) (Or.inl ⟨by rfl, ?_⟩) ?_ ?_
              rotate_left
              ·intro w'
               go_simp
               first | done | with_reducible rfl
              rotate_left
              ·simp only [Act.put, List.setIfInBounds_toArray, List.set_cons_zero, List.set_cons_succ, i64_w, i32_w]
               rfl
              refine pure_ (i := 24) (N := some 84) (v := ?_) (a' := ?_) (tf_ 25 27) rfl rfl (any_of HT_.out (by kernel_rfl)) (fun _ _ _ h => h) (Or.inl ⟨by rfl, ?_⟩) ?_ ?_
              rotate_left
              ·intro w'
               go_simp
               first | done | with_reducible rfl
              rotate_left
              ·simp only [Act.put, List.setIfInBounds_toArray, List.set_cons_zero, List.set_cons_succ, i64_w, i32_w]
               rfl
              refine pure_ (i := 25) (N := some 85) (v := ?_) (a' := ?_) (tf_ 26 26) rfl rfl (any_of HT_.out (by kernel_rfl)) (fun _ _ _ h => h) (Or.inl ⟨by rfl, ?_⟩) ?_ ?_
              rotate_left
              ·intro w'
               go_simp
               first | done | with_reducible rfl
              rotate_left
              ·simp only [Act.put, List.setIfInBounds_toArray, List.set_cons_zero, List.set_cons_succ, i64_w, i32_w]
               rfl
              refine take_ (i := 26) (N := some 86) (v := ?_) (a' := ?_) (tf_ 27 25) rfl rfl (take_ofW HT_.out HW_.out (by kernel_rfl)) (fun _ _ _ h => h) (Or.inl ⟨by rfl, ?_⟩) hHeld ?_ ?_
              rotate_left
              ·rintro w' ⟨_, s0, s1, s2, s3, s4, s5, s6, s7, s8⟩
               go_simp
               first | done | with_reducible rfl
              rotate_left
              ·simp only [Act.put, List.setIfInBounds_toArray, List.set_cons_zero, List.set_cons_succ, i64_w, i32_w]
               rfl
              by_cases c : a1.toList = ([] : List UInt8)
              case pos =>
               rw [if_pos c] at H; have e1 : (a1.toList == ([] : List UInt8)) = true := beq_iff_eq.mpr c
               have e2 : a1.toList.isEmpty = true := by rw [c]; rfl
               have e3 : (a1.toList != ([] : List UInt8)) = false := by rw [c]; rfl
               clear c
               refine pure_ (i := 27) (N := some 87) (v := ?_) (a' := ?_) (tf_ 28 24) rfl rfl (any_of HT_.out (by kernel_rfl)) (fun _ _ _ h => h) (Or.inl ⟨by rfl, ?_⟩) ?_ ?_
               rotate_left
               ·intro w'
                go_simp
                first | done | with_reducible rfl
               rotate_left
               ·simp only [Act.put, List.setIfInBounds_toArray, List.set_cons_zero, List.set_cons_succ, i64_w, i32_w]
                rfl
               refine pure_ (i := 28) (N := some 88) (v := ?_) (a' := ?_) (tf_ 29 23) rfl rfl (any_of HT_.out (by kernel_rfl)) (fun _ _ _ h => h) (Or.inl ⟨by rfl, ?_⟩) ?_ ?_
               rotate_left
               ·intro w'
                go_simp
                first | done | with_reducible rfl
               rotate_left
               ·simp only [Act.put, List.setIfInBounds_toArray, List.set_cons_zero, List.set_cons_succ, i64_w, i32_w]
                rfl
               refine take_ (i := 29) (N := some 89) (v := ?_) (a' := ?_) (tf_ 30 22) rfl rfl (take_ofW HT_.out HW_.out (by kernel_rfl)) (fun _ _ _ h => h) (Or.inl ⟨by rfl, ?_⟩) hHeld ?_ ?_
               rotate_left
               ·rintro w' ⟨_, s0, s1, s2, s3, s4, s5, s6, s7, s8⟩
                go_simp
                first | done | with_reducible rfl
               rotate_left
               ·simp only [Act.put, List.setIfInBounds_toArray, List.set_cons_zero, List.set_cons_succ, i64_w, i32_w]
                rfl
               refine one_ (i := 30) (N := some 90) (tf_ 31 21) rfl rfl (one_of HT_.out (by kernel_rfl)) (by decide) (fun K hK => ?_)
               refine goes_ Tryz.func72 (by kernel_rfl) rfl #[.agg #[.string a0, .string a1, .string a2, .int .i64 a3, .string a4, .bool a5, .string a6, .bool a7, .string a8]] (by rfl) rfl rfl (by (try simp only [List.map_toArray, List.map_cons, List.map_nil]); first | done | rfl) ?_
               refine (CW _ hHeld).out.mono ?_
               clear hHeld
               rintro e wr5 ⟨rfl, hs⟩
               refine ⟨_, rfl, ?_⟩
               refine hK.out _ _ hs (fun hHeld => ?_)
               clear hK K hs
               refine norm_ (a' := ?_) ?_ ?_
               rotate_left
               ·show Act.put _ (some 90) _ = _
                simp only [Act.put, List.setIfInBounds_toArray, List.set_cons_zero, List.set_cons_succ, i64_w, i32_w]
                rfl
               refine pure_ (i := 31) (N := some 91) (v := ?_) (a' := ?_) (tf_ 32 20) rfl rfl (any_of HT_.out (by kernel_rfl)) (fun _ _ _ h => h) (Or.inl ⟨by rfl, ?_⟩) ?_ ?_
               rotate_left
               ·intro w'
                go_simp
                first | done | with_reducible rfl
               rotate_left
               ·simp only [Act.put, List.setIfInBounds_toArray, List.set_cons_zero, List.set_cons_succ, i64_w, i32_w]
                rfl
               by_cases ct : (t.size : Int) ≤ 1024
               case pos =>
                rw [decide_eq_true ct] at H
                obtain rfl : true = r := Option.some.inj H
                have t1 : decide ((t.size : Int) ≤ 1024) = true := decide_eq_true ct; clear ct
                refine pure_ (i := 32) (N := some 92) (v := ?_) (a' := ?_) (tf_ 33 19) rfl rfl (any_of HT_.out (by kernel_rfl)) (fun _ _ _ h => h) (Or.inl ⟨by rfl, ?_⟩) ?_ ?_
                rotate_left
                ·intro w'
                 go_simp
                 first | done | with_reducible rfl
                rotate_left
                ·simp only [Act.put, List.setIfInBounds_toArray, List.set_cons_zero, List.set_cons_succ, i64_w, i32_w]
                 rfl
                refine pure_ (i := 33) (N := some 93) (v := ?_) (a' := ?_) (tf_ 34 18) rfl rfl (any_of HT_.out (by kernel_rfl)) (fun _ _ _ h => h) (Or.inl ⟨by rfl, ?_⟩) ?_ ?_
                rotate_left
                ·intro w'
                 go_simp
                 first | done | with_reducible rfl
                rotate_left
                ·simp only [Act.put, List.setIfInBounds_toArray, List.set_cons_zero, List.set_cons_succ, i64_w, i32_w]
                 rfl
                refine pure_ (i := 34) (N := some 94) (v := ?_) (a' := ?_) (tf_ 35 17) rfl rfl (any_of HT_.out (by kernel_rfl)) (fun _ _ _ h => h) (Or.inl ⟨by rfl, ?_⟩) ?_ ?_
                rotate_left
                ·intro w'
                 go_simp
                 first | done | with_reducible rfl
                rotate_left
                ·simp only [Act.put, List.setIfInBounds_toArray, List.set_cons_zero, List.set_cons_succ, i64_w, i32_w]
                 rfl
                refine pure_ (i := 35) (N := some 95) (v := undef) (a' := ?_) (tf_ 36 16) rfl rfl (any_of HT_.out (by kernel_rfl)) (fun _ _ _ h => h) (Or.inr ⟨by rfl, rfl⟩) ?_ ?_
                rotate_left
                ·simp only [Act.put, List.setIfInBounds_toArray, List.set_cons_zero, List.set_cons_succ, i64_w, i32_w]
                 rfl
                refine pure_ (i := 36) (N := some 96) (v := undef) (a' := ?_) (tf_ 37 15) rfl rfl (any_of HT_.out (by kernel_rfl)) (fun _ _ _ h => h) (Or.inr ⟨by rfl, rfl⟩) ?_ ?_
                rotate_left
                ·simp only [Act.put, List.setIfInBounds_toArray, List.set_cons_zero, List.set_cons_succ, i64_w, i32_w]
                 rfl
                refine pure_ (i := 37) (N := some 97) (v := undef) (a' := ?_) (tf_ 38 14) rfl rfl (any_of HT_.out (by kernel_rfl)) (fun _ _ _ h => h) (Or.inr ⟨by rfl, rfl⟩) ?_ ?_
                rotate_left
                ·simp only [Act.put, List.setIfInBounds_toArray, List.set_cons_zero, List.set_cons_succ, i64_w, i32_w]
                 rfl
                refine pure_ (i := 38) (N := some 98) (v := undef) (a' := ?_) (tf_ 39 13) rfl rfl (any_of HT_.out (by kernel_rfl)) (fun _ _ _ h => h) (Or.inr ⟨by rfl, rfl⟩) ?_ ?_
                rotate_left
                ·simp only [Act.put, List.setIfInBounds_toArray, List.set_cons_zero, List.set_cons_succ, i64_w, i32_w]
                 rfl
                refine pure_ (i := 39) (N := some 99) (v := undef) (a' := ?_) (tf_ 40 12) rfl rfl (any_of HT_.out (by kernel_rfl)) (fun _ _ _ h => h) (Or.inr ⟨by rfl, rfl⟩) ?_ ?_
                rotate_left
                ·simp only [Act.put, List.setIfInBounds_toArray, List.set_cons_zero, List.set_cons_succ, i64_w, i32_w]
                 rfl
                refine pure_ (i := 40) (N := some 100) (v := undef) (a' := ?_) (tf_ 41 11) rfl rfl (any_of HT_.out (by kernel_rfl)) (fun _ _ _ h => h) (Or.inr ⟨by rfl, rfl⟩) ?_ ?_
                rotate_left
                ·simp only [Act.put, List.setIfInBounds_toArray, List.set_cons_zero, List.set_cons_succ, i64_w, i32_w]
                 rfl
                refine pure_ (i := 41) (N := some 101) (v := undef) (a' := ?_) (tf_ 42 10) rfl rfl (any_of HT_.out (by kernel_rfl)) (fun _ _ _ h => h) (Or.inr ⟨by rfl, rfl⟩) ?_ ?_
                rotate_left
                ·simp only [Act.put, List.setIfInBounds_toArray, List.set_cons_zero, List.set_cons_succ, i64_w, i32_w]
                 rfl
                refine pure_ (i := 42) (N := some 102) (v := undef) (a' := ?_) (tf_ 43 9) rfl rfl (any_of HT_.out (by kernel_rfl)) (fun _ _ _ h => h) (Or.inr ⟨by rfl, rfl⟩) ?_ ?_
                rotate_left
                ·simp only [Act.put, List.setIfInBounds_toArray, List.set_cons_zero, List.set_cons_succ, i64_w, i32_w]
                 rfl
                refine pure_ (i := 43) (N := some 103) (v := undef) (a' := ?_) (tf_ 44 8) rfl rfl (any_of HT_.out (by kernel_rfl)) (fun _ _ _ h => h) (Or.inr ⟨by rfl, rfl⟩) ?_ ?_
                rotate_left
                ·simp only [Act.put, List.setIfInBounds_toArray, List.set_cons_zero, List.set_cons_succ, i64_w, i32_w]
                 rfl
                refine pure_ (i := 44) (N := some 104) (v := undef) (a' := ?_) (tf_ 45 7) rfl rfl (any_of HT_.out (by kernel_rfl)) (fun _ _ _ h => h) (Or.inr ⟨by rfl, rfl⟩) ?_ ?_
                rotate_left
                ·simp only [Act.put, List.setIfInBounds_toArray, List.set_cons_zero, List.set_cons_succ, i64_w, i32_w]
                 rfl
                refine pure_ (i := 45) (N := some 105) (v := undef) (a' := ?_) (tf_ 46 6) rfl rfl (any_of HT_.out (by kernel_rfl)) (fun _ _ _ h => h) (Or.inr ⟨by rfl, rfl⟩) ?_ ?_
                rotate_left
                ·simp only [Act.put, List.setIfInBounds_toArray, List.set_cons_zero, List.set_cons_succ, i64_w, i32_w]
                 rfl
                refine pure_ (i := 46) (N := some 106) (v := undef) (a' := ?_) (tf_ 47 5) rfl rfl (any_of HT_.out (by kernel_rfl)) (fun _ _ _ h => h) (Or.inr ⟨by rfl, rfl⟩) ?_ ?_
                rotate_left
                ·simp only [Act.put, List.setIfInBounds_toArray, List.set_cons_zero, List.set_cons_succ, i64_w, i32_w]
                 rfl
                refine pure_ (i := 47) (N := some 107) (v := undef) (a' := ?_) (tf_ 48 4) rfl rfl (any_of HT_.out (by kernel_rfl)) (fun _ _ _ h => h) (Or.inr ⟨by rfl, rfl⟩) ?_ ?_
                rotate_left
                ·simp only [Act.put, List.setIfInBounds_toArray, List.set_cons_zero, List.set_cons_succ, i64_w, i32_w]
                 rfl
                refine pure_ (i := 48) (N := some 108) (v := undef) (a' := ?_) (tf_ 49 3) rfl rfl (any_of HT_.out (by kernel_rfl)) (fun _ _ _ h => h) (Or.inr ⟨by rfl, rfl⟩) ?_ ?_
                rotate_left
                ·simp only [Act.put, List.setIfInBounds_toArray, List.set_cons_zero, List.set_cons_succ, i64_w, i32_w]
                 rfl
                refine pure_ (i := 49) (N := some 109) (v := ?_) (a' := ?_) (tf_ 50 2) rfl rfl (any_of HT_.out (by kernel_rfl)) (fun _ _ _ h => h) (Or.inl ⟨by rfl, ?_⟩) ?_ ?_
                rotate_left
                ·intro w'
                 go_simp
                 first | done | with_reducible rfl
                rotate_left
                ·simp only [Act.put, List.setIfInBounds_toArray, List.set_cons_zero, List.set_cons_succ, i64_w, i32_w]
                 rfl
                refine pure_ (i := 50) (N := some 110) (v := ?_) (a' := ?_) (tf_ 51 1) rfl rfl (any_of HT_.out (by kernel_rfl)) (fun _ _ _ h => h) (Or.inl ⟨by rfl, ?_⟩) ?_ ?_
                rotate_left
                ·intro w'
                 go_simp
                 first | done | with_reducible rfl
                rotate_left
                ·simp only [Act.put, List.setIfInBounds_toArray, List.set_cons_zero, List.set_cons_succ, i64_w, i32_w]
                 rfl
                refine pure_ (i := 51) (N := some 2) (v := ?_) (a' := ?_) (tf_ 52 0) rfl rfl (any_of HT_.out (by kernel_rfl)) (fun _ _ _ h => h) (Or.inl ⟨by rfl, ?_⟩) ?_ ?_
                rotate_left
                ·intro w'
                 go_simp
                 first | done | with_reducible rfl
                rotate_left
                ·simp only [Act.put, List.setIfInBounds_toArray, List.set_cons_zero, List.set_cons_succ, i64_w, i32_w]
                 rfl
                refine done_ (done_of HT_.out (by kernel_rfl)) ?_
                try go_wp2
                go_ret
                exact ⟨rfl, hHeld.1.out.1⟩
               case neg =>
                rw [decide_eq_false ct] at H
                obtain rfl : false = r := Option.some.inj H
                have t1 : decide ((t.size : Int) ≤ 1024) = false := decide_eq_false ct; clear ct
                refine pure_ (i := 32) (N := some 92) (v := ?_) (a' := ?_) (tf_ 33 19) rfl rfl (any_of HT_.out (by kernel_rfl)) (fun _ _ _ h => h) (Or.inl ⟨by rfl, ?_⟩) ?_ ?_
                rotate_left
                ·intro w'
                 go_simp
                 first | done | with_reducible rfl
                rotate_left
                ·simp only [Act.put, List.setIfInBounds_toArray, List.set_cons_zero, List.set_cons_succ, i64_w, i32_w]
                 rfl
                refine pure_ (i := 33) (N := some 93) (v := ?_) (a' := ?_) (tf_ 34 18) rfl rfl (any_of HT_.out (by kernel_rfl)) (fun _ _ _ h => h) (Or.inl ⟨by rfl, ?_⟩) ?_ ?_
                rotate_left
                ·intro w'
                 go_simp
                 first | done | with_reducible rfl
                rotate_left
                ·simp only [Act.put, List.setIfInBounds_toArray, List.set_cons_zero, List.set_cons_succ, i64_w, i32_w]
                 rfl
                refine pure_ (i := 34) (N := some 94) (v := ?_) (a' := ?_) (tf_ 35 17) rfl rfl (any_of HT_.out (by kernel_rfl)) (fun _ _ _ h => h) (Or.inl ⟨by rfl, ?_⟩) ?_ ?_
                rotate_left
                ·intro w'
                 go_simp
                 first | done | with_reducible rfl
                rotate_left
                ·simp only [Act.put, List.setIfInBounds_toArray, List.set_cons_zero, List.set_cons_succ, i64_w, i32_w]
                 rfl
                refine pure_ (i := 35) (N := some 95) (v := ?_) (a' := ?_) (tf_ 36 16) rfl rfl (any_of HT_.out (by kernel_rfl)) (fun _ _ _ h => h) (Or.inl ⟨by rfl, ?_⟩) ?_ ?_
                rotate_left
                ·intro w'
                 go_simp
                 first | done | with_reducible rfl
                rotate_left
                ·simp only [Act.put, List.setIfInBounds_toArray, List.set_cons_zero, List.set_cons_succ, i64_w, i32_w]
                 rfl
                refine take_ (i := 36) (N := some 96) (v := ?_) (a' := ?_) (tf_ 37 15) rfl rfl (take_ofW HT_.out HW_.out (by kernel_rfl)) (fun _ _ _ h => h) (Or.inl ⟨by rfl, ?_⟩) hHeld ?_ ?_
                rotate_left
                ·rintro w' ⟨_, s0, s1, s2, s3, s4, s5, s6, s7, s8⟩
                 go_simp
                 first | done | with_reducible rfl
                rotate_left
                ·simp only [Act.put, List.setIfInBounds_toArray, List.set_cons_zero, List.set_cons_succ, i64_w, i32_w]
                 rfl
                refine pure_ (i := 37) (N := some 97) (v := ?_) (a' := ?_) (tf_ 38 14) rfl rfl (any_of HT_.out (by kernel_rfl)) (fun _ _ _ h => h) (Or.inl ⟨by rfl, ?_⟩) ?_ ?_
                rotate_left
                ·intro w'
                 go_simp
                 first | done | with_reducible rfl
                rotate_left
                ·simp only [Act.put, List.setIfInBounds_toArray, List.set_cons_zero, List.set_cons_succ, i64_w, i32_w]
                 rfl
                refine pure_ (i := 38) (N := some 98) (v := ?_) (a' := ?_) (tf_ 39 13) rfl rfl (any_of HT_.out (by kernel_rfl)) (fun _ _ _ h => h) (Or.inl ⟨by rfl, ?_⟩) ?_ ?_
                rotate_left
                ·intro w'
                 go_simp
                 first | done | with_reducible rfl
                rotate_left
                ·simp only [Act.put, List.setIfInBounds_toArray, List.set_cons_zero, List.set_cons_succ, i64_w, i32_w]
                 rfl
                refine pure_ (i := 39) (N := some 99) (v := undef) (a' := ?_) (tf_ 40 12) rfl rfl (any_of HT_.out (by kernel_rfl)) (fun _ _ _ h => h) (Or.inr ⟨by rfl, rfl⟩) ?_ ?_
                rotate_left
                ·simp only [Act.put, List.setIfInBounds_toArray, List.set_cons_zero, List.set_cons_succ, i64_w, i32_w]
                 rfl
                refine pure_ (i := 40) (N := some 100) (v := undef) (a' := ?_) (tf_ 41 11) rfl rfl (any_of HT_.out (by kernel_rfl)) (fun _ _ _ h => h) (Or.inr ⟨by rfl, rfl⟩) ?_ ?_
                rotate_left
                ·simp only [Act.put, List.setIfInBounds_toArray, List.set_cons_zero, List.set_cons_succ, i64_w, i32_w]
                 rfl
                refine pure_ (i := 41) (N := some 101) (v := undef) (a' := ?_) (tf_ 42 10) rfl rfl (any_of HT_.out (by kernel_rfl)) (fun _ _ _ h => h) (Or.inr ⟨by rfl, rfl⟩) ?_ ?_
                rotate_left
                ·simp only [Act.put, List.setIfInBounds_toArray, List.set_cons_zero, List.set_cons_succ, i64_w, i32_w]
                 rfl
                refine pure_ (i := 42) (N := some 102) (v := undef) (a' := ?_) (tf_ 43 9) rfl rfl (any_of HT_.out (by kernel_rfl)) (fun _ _ _ h => h) (Or.inr ⟨by rfl, rfl⟩) ?_ ?_
                rotate_left
                ·simp only [Act.put, List.setIfInBounds_toArray, List.set_cons_zero, List.set_cons_succ, i64_w, i32_w]
                 rfl
                refine pure_ (i := 43) (N := some 103) (v := undef) (a' := ?_) (tf_ 44 8) rfl rfl (any_of HT_.out (by kernel_rfl)) (fun _ _ _ h => h) (Or.inr ⟨by rfl, rfl⟩) ?_ ?_
                rotate_left
                ·simp only [Act.put, List.setIfInBounds_toArray, List.set_cons_zero, List.set_cons_succ, i64_w, i32_w]
                 rfl
                refine pure_ (i := 44) (N := some 104) (v := undef) (a' := ?_) (tf_ 45 7) rfl rfl (any_of HT_.out (by kernel_rfl)) (fun _ _ _ h => h) (Or.inr ⟨by rfl, rfl⟩) ?_ ?_
                rotate_left
                ·simp only [Act.put, List.setIfInBounds_toArray, List.set_cons_zero, List.set_cons_succ, i64_w, i32_w]
                 rfl
                refine pure_ (i := 45) (N := some 105) (v := undef) (a' := ?_) (tf_ 46 6) rfl rfl (any_of HT_.out (by kernel_rfl)) (fun _ _ _ h => h) (Or.inr ⟨by rfl, rfl⟩) ?_ ?_
                rotate_left
                ·simp only [Act.put, List.setIfInBounds_toArray, List.set_cons_zero, List.set_cons_succ, i64_w, i32_w]
                 rfl
                refine pure_ (i := 46) (N := some 106) (v := undef) (a' := ?_) (tf_ 47 5) rfl rfl (any_of HT_.out (by kernel_rfl)) (fun _ _ _ h => h) (Or.inr ⟨by rfl, rfl⟩) ?_ ?_
                rotate_left
                ·simp only [Act.put, List.setIfInBounds_toArray, List.set_cons_zero, List.set_cons_succ, i64_w, i32_w]
                 rfl
                refine pure_ (i := 47) (N := some 107) (v := undef) (a' := ?_) (tf_ 48 4) rfl rfl (any_of HT_.out (by kernel_rfl)) (fun _ _ _ h => h) (Or.inr ⟨by rfl, rfl⟩) ?_ ?_
                rotate_left
                ·simp only [Act.put, List.setIfInBounds_toArray, List.set_cons_zero, List.set_cons_succ, i64_w, i32_w]
                 rfl
                refine pure_ (i := 48) (N := some 108) (v := ?_) (a' := ?_) (tf_ 49 3) rfl rfl (any_of HT_.out (by kernel_rfl)) (fun _ _ _ h => h) (Or.inl ⟨by rfl, ?_⟩) ?_ ?_
                rotate_left
                ·intro w'
                 go_simp
                 first | done | with_reducible rfl
                rotate_left
                ·simp only [Act.put, List.setIfInBounds_toArray, List.set_cons_zero, List.set_cons_succ, i64_w, i32_w]
                 rfl
                refine pure_ (i := 49) (N := some 109) (v := ?_) (a' := ?_) (tf_ 50 2) rfl rfl (any_of HT_.out (by kernel_rfl)) (fun _ _ _ h => h) (Or.inl ⟨by rfl, ?_⟩) ?_ ?_
                rotate_left
                ·intro w'
                 go_simp
                 first | done | with_reducible rfl
                rotate_left
                ·simp only [Act.put, List.setIfInBounds_toArray, List.set_cons_zero, List.set_cons_succ, i64_w, i32_w]
                 rfl
                refine pure_ (i := 50) (N := some 110) (v := ?_) (a' := ?_) (tf_ 51 1) rfl rfl (any_of HT_.out (by kernel_rfl)) (fun _ _ _ h => h) (Or.inl ⟨by rfl, ?_⟩) ?_ ?_
                rotate_left
                ·intro w'
                 go_simp
                 first | done | with_reducible rfl
                rotate_left
                ·simp only [Act.put, List.setIfInBounds_toArray, List.set_cons_zero, List.set_cons_succ, i64_w, i32_w]
                 rfl
                refine pure_ (i := 51) (N := some 2) (v := ?_) (a' := ?_) (tf_ 52 0) rfl rfl (any_of HT_.out (by kernel_rfl)) (fun _ _ _ h => h) (Or.inl ⟨by rfl, ?_⟩) ?_ ?_
                rotate_left
                ·intro w'
                 go_simp
                 first | done | with_reducible rfl
                rotate_left
                ·simp only [Act.put, List.setIfInBounds_toArray, List.set_cons_zero, List.set_cons_succ, i64_w, i32_w]
                 rfl
                refine done_ (done_of HT_.out (by kernel_rfl)) ?_
                try go_wp2
                go_ret
                exact ⟨rfl, hHeld.1.out.1⟩
              case neg =>
               rw [if_neg c] at H
               obtain rfl := Option.some.inj H
               have e1 : (a1.toList == ([] : List UInt8)) = false := beq_eq_false_iff_ne.mpr c
               have e2 : a1.toList.isEmpty = false := by rw [← nil_beq]; exact e1
               have e3 : (a1.toList != ([] : List UInt8)) = true := bne_iff_ne.mpr c
               clear c
               refine pure_ (i := 27) (N := some 87) (v := ?_) (a' := ?_) (tf_ 28 24) rfl rfl (any_of HT_.out (by kernel_rfl)) (fun _ _ _ h => h) (Or.inl ⟨by rfl, ?_⟩) ?_ ?_
               rotate_left
               ·intro w'
                go_simp
                first | done | with_reducible rfl
               rotate_left
               ·simp only [Act.put, List.setIfInBounds_toArray, List.set_cons_zero, List.set_cons_succ, i64_w, i32_w]
                rfl
               refine pure_ (i := 28) (N := some 88) (v := ?_) (a' := ?_) (tf_ 29 23) rfl rfl (any_of HT_.out (by kernel_rfl)) (fun _ _ _ h => h) (Or.inl ⟨by rfl, ?_⟩) ?_ ?_
               rotate_left
               ·intro w'
                go_simp
                first | done | with_reducible rfl
               rotate_left
               ·simp only [Act.put, List.setIfInBounds_toArray, List.set_cons_zero, List.set_cons_succ, i64_w, i32_w]
                rfl
               refine pure_ (i := 29) (N := some 89) (v := undef) (a' := ?_) (tf_ 30 22) rfl rfl (any_of HT_.out (by kernel_rfl)) (fun _ _ _ h => h) (Or.inr ⟨by rfl, rfl⟩) ?_ ?_
               rotate_left
               ·simp only [Act.put, List.setIfInBounds_toArray, List.set_cons_zero, List.set_cons_succ, i64_w, i32_w]
                rfl
               refine pure_ (i := 30) (N := some 90) (v := undef) (a' := ?_) (tf_ 31 21) rfl rfl (any_of HT_.out (by kernel_rfl)) (fun _ _ _ h => h) (Or.inr ⟨by rfl, rfl⟩) ?_ ?_
               rotate_left
               ·simp only [Act.put, List.setIfInBounds_toArray, List.set_cons_zero, List.set_cons_succ, i64_w, i32_w]
                rfl
               refine pure_ (i := 31) (N := some 91) (v := undef) (a' := ?_) (tf_ 32 20) rfl rfl (any_of HT_.out (by kernel_rfl)) (fun _ _ _ h => h) (Or.inr ⟨by rfl, rfl⟩) ?_ ?_
               rotate_left
               ·simp only [Act.put, List.setIfInBounds_toArray, List.set_cons_zero, List.set_cons_succ, i64_w, i32_w]
                rfl
               refine pure_ (i := 32) (N := some 92) (v := undef) (a' := ?_) (tf_ 33 19) rfl rfl (any_of HT_.out (by kernel_rfl)) (fun _ _ _ h => h) (Or.inr ⟨by rfl, rfl⟩) ?_ ?_
               rotate_left
               ·simp only [Act.put, List.setIfInBounds_toArray, List.set_cons_zero, List.set_cons_succ, i64_w, i32_w]
                rfl
               refine pure_ (i := 33) (N := some 93) (v := ?_) (a' := ?_) (tf_ 34 18) rfl rfl (any_of HT_.out (by kernel_rfl)) (fun _ _ _ h => h) (Or.inl ⟨by rfl, ?_⟩) ?_ ?_
               rotate_left
               ·intro w'
                go_simp
                first | done | with_reducible rfl
               rotate_left
               ·simp only [Act.put, List.setIfInBounds_toArray, List.set_cons_zero, List.set_cons_succ, i64_w, i32_w]
                rfl
               refine pure_ (i := 34) (N := some 94) (v := ?_) (a' := ?_) (tf_ 35 17) rfl rfl (any_of HT_.out (by kernel_rfl)) (fun _ _ _ h => h) (Or.inl ⟨by rfl, ?_⟩) ?_ ?_
               rotate_left
               ·intro w'
                go_simp
                first | done | with_reducible rfl
               rotate_left
               ·simp only [Act.put, List.setIfInBounds_toArray, List.set_cons_zero, List.set_cons_succ, i64_w, i32_w]
                rfl
               refine pure_ (i := 35) (N := some 95) (v := ?_) (a' := ?_) (tf_ 36 16) rfl rfl (any_of HT_.out (by kernel_rfl)) (fun _ _ _ h => h) (Or.inl ⟨by rfl, ?_⟩) ?_ ?_
               rotate_left
               ·intro w'
                go_simp
                first | done | with_reducible rfl
               rotate_left
               ·simp only [Act.put, List.setIfInBounds_toArray, List.set_cons_zero, List.set_cons_succ, i64_w, i32_w]
                rfl
               refine take_ (i := 36) (N := some 96) (v := ?_) (a' := ?_) (tf_ 37 15) rfl rfl (take_ofW HT_.out HW_.out (by kernel_rfl)) (fun _ _ _ h => h) (Or.inl ⟨by rfl, ?_⟩) hHeld ?_ ?_
               rotate_left
               ·rintro w' ⟨_, s0, s1, s2, s3, s4, s5, s6, s7, s8⟩
                go_simp
                first | done | with_reducible rfl
               rotate_left
               ·simp only [Act.put, List.setIfInBounds_toArray, List.set_cons_zero, List.set_cons_succ, i64_w, i32_w]
                rfl
               refine pure_ (i := 37) (N := some 97) (v := ?_) (a' := ?_) (tf_ 38 14) rfl rfl (any_of HT_.out (by kernel_rfl)) (fun _ _ _ h => h) (Or.inl ⟨by rfl, ?_⟩) ?_ ?_
               rotate_left
               ·intro w'
                go_simp
                first | done | with_reducible rfl
               rotate_left
               ·simp only [Act.put, List.setIfInBounds_toArray, List.set_cons_zero, List.set_cons_succ, i64_w, i32_w]
                rfl
               refine pure_ (i := 38) (N := some 98) (v := ?_) (a' := ?_) (tf_ 39 13) rfl rfl (any_of HT_.out (by kernel_rfl)) (fun _ _ _ h => h) (Or.inl ⟨by rfl, ?_⟩) ?_ ?_
               rotate_left
               ·intro w'
                go_simp
                first | done | with_reducible rfl
               rotate_left
               ·simp only [Act.put, List.setIfInBounds_toArray, List.set_cons_zero, List.set_cons_succ, i64_w, i32_w]
                rfl
               refine take_ (i := 39) (N := some 99) (v := ?_) (a' := ?_) (tf_ 40 12) rfl rfl (take_ofW HT_.out HW_.out (by kernel_rfl)) (fun _ _ _ h => h) (Or.inl ⟨by rfl, ?_⟩) hHeld ?_ ?_
               rotate_left
               ·rintro w' ⟨_, s0, s1, s2, s3, s4, s5, s6, s7, s8⟩
                go_simp
                first | done | with_reducible rfl
               rotate_left
               ·simp only [Act.put, List.setIfInBounds_toArray, List.set_cons_zero, List.set_cons_succ, i64_w, i32_w]
                rfl
               refine pure_ (i := 42) (N := some 102) (v := ?_) (a' := ?_) #[true, true, true, true, true, true, true, true, true, true, true, true, true, true, true, true, true, true, true, true, true, true, true, true, true, true, true, true, true, true, true, true, true, true, true, true, true, true, true, true, false, false, true, false, false, false, false, false, false, false, false, false] rfl rfl (any_of HT_.out (by kernel_rfl)) (fun _ _ _ h => h) (Or.inl ⟨by rfl, ?_⟩) ?_ ?_
               rotate_left
               ·intro w'
                go_simp
                first | done | with_reducible rfl
               rotate_left
               ·simp only [Act.put, List.setIfInBounds_toArray, List.set_cons_zero, List.set_cons_succ, i64_w, i32_w]
                rfl
               refine take_ (i := 43) (N := some 103) (v := ?_) (a' := ?_) #[true, true, true, true, true, true, true, true, true, true, true, true, true, true, true, true, true, true, true, true, true, true, true, true, true, true, true, true, true, true, true, true, true, true, true, true, true, true, true, true, false, false, true, true, false, false, false, false, false, false, false, false] rfl rfl (take_ofW HT_.out HW_.out (by kernel_rfl)) (fun _ _ _ h => h) (Or.inl ⟨by rfl, ?_⟩) hHeld ?_ ?_
               rotate_left
               ·rintro w' ⟨_, s0, s1, s2, s3, s4, s5, s6, s7, s8⟩
                go_simp
                first | done | with_reducible rfl
               rotate_left
               ·simp only [Act.put, List.setIfInBounds_toArray, List.set_cons_zero, List.set_cons_succ, i64_w, i32_w]
                rfl
               refine pure_ (i := 44) (N := some 104) (v := ?_) (a' := ?_) #[true, true, true, true, true, true, true, true, true, true, true, true, true, true, true, true, true, true, true, true, true, true, true, true, true, true, true, true, true, true, true, true, true, true, true, true, true, true, true, true, false, false, true, true, true, false, false, false, false, false, false, false] rfl rfl (any_of HT_.out (by kernel_rfl)) (fun _ _ _ h => h) (Or.inl ⟨by rfl, ?_⟩) ?_ ?_
               rotate_left
               ·intro w'
                go_simp
                first | done | with_reducible rfl
               rotate_left
               ·simp only [Act.put, List.setIfInBounds_toArray, List.set_cons_zero, List.set_cons_succ, i64_w, i32_w]
                rfl
               refine one_ (i := 40) (N := some 100) #[true, true, true, true, true, true, true, true, true, true, true, true, true, true, true, true, true, true, true, true, true, true, true, true, true, true, true, true, true, true, true, true, true, true, true, true, true, true, true, true, true, false, true, true, true, false, false, false, false, false, false, false] rfl rfl (one_of HT_.out (by kernel_rfl)) (by decide) (fun K hK => ?_)
               refine goes_ Tryz.func72 (by kernel_rfl) rfl #[.agg #[.string a0, .string a1, .string a2, .int .i64 a3, .string a4, .bool a5, .string a6, .bool a7, .string a8]] (by rfl) rfl rfl (by (try simp only [List.map_toArray, List.map_cons, List.map_nil]); first | done | rfl) ?_
               refine (CW _ hHeld).out.mono ?_
               clear hHeld
               rintro e wr6 ⟨rfl, hs⟩
               refine ⟨_, rfl, ?_⟩
               refine hK.out _ _ hs (fun hHeld => ?_)
               clear hK K hs
               refine norm_ (a' := ?_) ?_ ?_
               rotate_left
               ·show Act.put _ (some 100) _ = _
                simp only [Act.put, List.setIfInBounds_toArray, List.set_cons_zero, List.set_cons_succ, i64_w, i32_w]
                rfl
               refine pure_ (i := 41) (N := some 101) (v := ?_) (a' := ?_) (tf_ 45 7) rfl rfl (any_of HT_.out (by kernel_rfl)) (fun _ _ _ h => h) (Or.inl ⟨by rfl, ?_⟩) ?_ ?_
               rotate_left
               ·intro w'
                go_simp
                first | done | with_reducible rfl
               rotate_left
               ·simp only [Act.put, List.setIfInBounds_toArray, List.set_cons_zero, List.set_cons_succ, i64_w, i32_w]
                rfl
               refine pure_ (i := 45) (N := some 105) (v := ?_) (a' := ?_) (tf_ 46 6) rfl rfl (any_of HT_.out (by kernel_rfl)) (fun _ _ _ h => h) (Or.inl ⟨by rfl, ?_⟩) ?_ ?_
               rotate_left
               ·intro w'
                go_simp
                first | done | with_reducible rfl
               rotate_left
               ·simp only [Act.put, List.setIfInBounds_toArray, List.set_cons_zero, List.set_cons_succ, i64_w, i32_w]
                rfl
               refine pure_ (i := 46) (N := some 106) (v := ?_) (a' := ?_) (tf_ 47 5) rfl rfl (any_of HT_.out (by kernel_rfl)) (fun _ _ _ h => h) (Or.inl ⟨by rfl, ?_⟩) ?_ ?_
               rotate_left
               ·intro w'
                go_simp
                first | done | with_reducible rfl
               rotate_left
               ·simp only [Act.put, List.setIfInBounds_toArray, List.set_cons_zero, List.set_cons_succ, i64_w, i32_w]
                rfl
               refine pure_ (i := 47) (N := some 107) (v := ?_) (a' := ?_) (tf_ 48 4) rfl rfl (any_of HT_.out (by kernel_rfl)) (fun _ _ _ h => h) (Or.inl ⟨by rfl, ?_⟩) ?_ ?_
               rotate_left
               ·intro w'
                go_simp
                first | done | with_reducible rfl
               rotate_left
               ·simp only [Act.put, List.setIfInBounds_toArray, List.set_cons_zero, List.set_cons_succ, i64_w, i32_w]
                rfl
               refine pure_ (i := 48) (N := some 108) (v := ?_) (a' := ?_) (tf_ 49 3) rfl rfl (any_of HT_.out (by kernel_rfl)) (fun _ _ _ h => h) (Or.inl ⟨by rfl, ?_⟩) ?_ ?_
               rotate_left
               ·intro w'
                go_simp
                first | done | with_reducible rfl
               rotate_left
               ·simp only [Act.put, List.setIfInBounds_toArray, List.set_cons_zero, List.set_cons_succ, i64_w, i32_w]
                rfl
               refine pure_ (i := 49) (N := some 109) (v := ?_) (a' := ?_) (tf_ 50 2) rfl rfl (any_of HT_.out (by kernel_rfl)) (fun _ _ _ h => h) (Or.inl ⟨by rfl, ?_⟩) ?_ ?_
               rotate_left
               ·intro w'
                go_simp
                first | done | with_reducible rfl
               rotate_left
               ·simp only [Act.put, List.setIfInBounds_toArray, List.set_cons_zero, List.set_cons_succ, i64_w, i32_w]
                rfl
               refine pure_ (i := 50) (N := some 110) (v := ?_) (a' := ?_) (tf_ 51 1) rfl rfl (any_of HT_.out (by kernel_rfl)) (fun _ _ _ h => h) (Or.inl ⟨by rfl, ?_⟩) ?_ ?_
               rotate_left
               ·intro w'
                go_simp
                first | done | with_reducible rfl
               rotate_left
               ·simp only [Act.put, List.setIfInBounds_toArray, List.set_cons_zero, List.set_cons_succ, i64_w, i32_w]
                rfl
               refine pure_ (i := 51) (N := some 2) (v := ?_) (a' := ?_) (tf_ 52 0) rfl rfl (any_of HT_.out (by kernel_rfl)) (fun _ _ _ h => h) (Or.inl ⟨by rfl, ?_⟩) ?_ ?_
               rotate_left
               ·intro w'
                go_simp
                first | done | with_reducible rfl
               rotate_left
               ·simp only [Act.put, List.setIfInBounds_toArray, List.set_cons_zero, List.set_cons_succ, i64_w, i32_w]
                rfl
               refine done_ (done_of HT_.out (by kernel_rfl)) ?_
               try go_wp2
               go_ret
               exact ⟨rfl, hHeld.1.out.1⟩
end Go.Proofs.YtoaleclnilbjcaaGreatDoor.Hand
