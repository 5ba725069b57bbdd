/- source.Parse: what its walk gives. Condition: as in the functions that it calls. -/
import Derived.Test.YtfibkgmbgdaeoaaDoorSrcM
import Derived.Test.YtfibkgmbgdaeoaaDoorFS3
namespace Go.Proofs.YtfibkgmbgdaeoaaDoor.Hand
open Go.RowKit Go.Proofs.YtfibkgmbgdaeoaaDoorW.PrintWords Go.Proofs.YtfibkgmbgdaeoaaDoorW.PrintLast Go.Proofs.YtfibkgmbgdaeoaaDoorW.PrintMore
set_option linter.unusedVariables false
set_option linter.unusedSimpArgs false

abbrev Src9 := Int × ByteArray × Bool × ByteArray × Int × ByteArray × ByteArray × Bool
def srcNo : Src9 := (0, ⟨#[]⟩, false, ⟨#[]⟩, 0, ⟨#[]⟩, ⟨#[]⟩, false)
def srcNonce (k : Nat) (s : ByteArray) : Option Src9 :=
 if 7 ≤ s.size then (strings_CutSuffix.f (s.extract 7 s.size) ⟨#[39]⟩).bind fun c => if c.2 = true then (source_Good.f k 5 ⟨#[]⟩ false ⟨#[]⟩ 0 ⟨#[]⟩ c.1).bind fun g => if g = true then some (5, ⟨#[]⟩, false, ⟨#[]⟩, 0, ⟨#[]⟩, c.1, true) else some srcNo else some srcNo else none
def source_Parse.f (k : Nat) (s : ByteArray) : Option Src9 :=
 (ascii_Lower.f s).bind fun low => if low.toList = [39, 115, 101, 108, 102, 39] then some (1, ⟨#[]⟩, false, ⟨#[]⟩, 0, ⟨#[]⟩, ⟨#[]⟩, true)
 else if s.toList = [42] then some (2, ⟨#[]⟩, false, ⟨#[]⟩, 0, ⟨#[]⟩, ⟨#[]⟩, true)
 else if low.toList = [104, 116, 116, 112, 58] ∨ low.toList = [104, 116, 116, 112, 115, 58] then (strings_TrimSuffix.f low ⟨#[58]⟩).bind fun t => some (3, t, false, ⟨#[]⟩, 0, ⟨#[]⟩, ⟨#[]⟩, true)
 else (strings_HasPrefix.f low ⟨#[39, 110, 111, 110, 99, 101, 45]⟩).bind fun b => if b = true then srcNonce k s else source_hosted.f k s
theorem src_put {w : World} {g : Nat} {t : TypeId} {u0 u1 u2 u3 u4 u5 u6 : Value} (v0 v1 v2 v3 v4 v5 v6 : Value) (h : w.heap[g]? = some (.cells #[u0, u1, u2, u3, u4, u5, u6] t (0, 0))) : ((((((((w).setCell ⟨g, 0, none⟩ v0).setCell ⟨g, 1, none⟩ v1).setCell ⟨g, 2, none⟩ v2).setCell ⟨g, 3, none⟩ v3).setCell ⟨g, 4, none⟩ v4).setCell ⟨g, 5, none⟩ v5).setCell ⟨g, 6, none⟩ v6).heap[g]? = some (.cells #[v0, v1, v2, v3, v4, v5, v6] t (0, 0)) := by
 have h1 := blk_put (cs' := #[v0, u1, u2, u3, u4, u5, u6]) h 0 v0 rfl
 have h2 := blk_put (cs' := #[v0, v1, u2, u3, u4, u5, u6]) h1 1 v1 rfl
 have h3 := blk_put (cs' := #[v0, v1, v2, u3, u4, u5, u6]) h2 2 v2 rfl
 have h4 := blk_put (cs' := #[v0, v1, v2, v3, u4, u5, u6]) h3 3 v3 rfl
 have h5 := blk_put (cs' := #[v0, v1, v2, v3, v4, u5, u6]) h4 4 v4 rfl
 have h6 := blk_put (cs' := #[v0, v1, v2, v3, v4, v5, u6]) h5 5 v5 rfl
 have h7 := blk_put (cs' := #[v0, v1, v2, v3, v4, v5, v6]) h6 6 v6 rfl
 exact h7
theorem src_bel {w W : World} {g : Nat} (v0 v1 v2 v3 v4 v5 v6 : Value) (h : Below w.heap.size w W) (hg : w.heap.size ≤ g) : Below w.heap.size w ((((((((W).setCell ⟨g, 0, none⟩ v0).setCell ⟨g, 1, none⟩ v1).setCell ⟨g, 2, none⟩ v2).setCell ⟨g, 3, none⟩ v3).setCell ⟨g, 4, none⟩ v4).setCell ⟨g, 5, none⟩ v5).setCell ⟨g, 6, none⟩ v6) := by
 have h1 := below_set (g := g) (j := 0) (v := v0) h hg
 have h2 := below_set (g := g) (j := 1) (v := v1) h1 hg
 have h3 := below_set (g := g) (j := 2) (v := v2) h2 hg
 have h4 := below_set (g := g) (j := 3) (v := v3) h3 hg
 have h5 := below_set (g := g) (j := 4) (v := v4) h4 hg
 have h6 := below_set (g := g) (j := 5) (v := v5) h5 hg
 have h7 := below_set (g := g) (j := 6) (v := v6) h6 hg
 exact h7
theorem src_free {w : World} {g : Nat} {t : TypeId} {cs : Array Value} (h : w.heap[g]? = some (.cells cs t (0, 0))) : w.frozen? ⟨g, 0, none⟩ = false ∧ w.frozen? ⟨g, 1, none⟩ = false ∧ w.frozen? ⟨g, 2, none⟩ = false ∧ w.frozen? ⟨g, 3, none⟩ = false ∧ w.frozen? ⟨g, 4, none⟩ = false ∧ w.frozen? ⟨g, 5, none⟩ = false ∧ w.frozen? ⟨g, 6, none⟩ = false := ⟨blk_frozen h 0, blk_frozen h 1, blk_frozen h 2, blk_frozen h 3, blk_frozen h 4, blk_frozen h 5, blk_frozen h 6⟩
set_option maxRecDepth 100000 in
set_option maxHeartbeats 8000000 in
theorem source_Parse.calls (k : Nat) (s : ByteArray) (r1 : Int) (r2 : ByteArray) (r3 : Bool) (r4 : ByteArray) (r5 : Int) (r6 r7 : ByteArray) (r8 : Bool) (w : World) (hG_ : GW w) (h : source_Parse.f k s = some (r1, r2, r3, r4, r5, r6, r7, r8)) :
  Calls Tryd.prog 10 #[.string s] w fun e w' => e = .returned (.tuple #[.agg #[.int .i64 r1, .string r2, .bool r3, .string r4, .int .i64 r5, .string r6, .string r7], .bool r8]) ∧ Below w.heap.size w w' := by
 have huX := Tryd.underlying23
 unfold source_Parse.f at h
 cases hl : ascii_Lower.f s with
 | none => rw [hl] at h; cases h
 | some low =>
  rw [hl, Option.bind_some] at h
  have HL := fun W hW => Lib.hid (ascii_Lower.calls s low W hW hl)
  have HK := Lib.hid (blk_new w (.cells #[.int .i64 0, .string ⟨#[]⟩, .bool false, .string ⟨#[]⟩, .int .i64 0, .string ⟨#[]⟩, .string ⟨#[]⟩] 23))
  have HB := Lib.hid (below_alloc (Below.refl w.heap.size w) (.cells #[.int .i64 0, .string ⟨#[]⟩, .bool false, .string ⟨#[]⟩, .int .i64 0, .string ⟨#[]⟩, .string ⟨#[]⟩] 23))
  have HH := Lib.hid h
  clear h hl
  go_enter Tryd.func10, Tryd.ntmps10
  go_wp2_with fail
  refine (HL _ (hG_.below HB.out)).out.mono ?_
  rintro e w1 ⟨rfl, hd⟩
  replace HK := Lib.hid (blk_below HK.out hd)
  replace HB := Lib.hid (below_then HB.out (below_size HB.out) hd)
  clear hd HL
  have h := HH.out
  clear HH

  by_cases c1 : low.toList = [39, 115, 101, 108, 102, 39]
  ·rw [if_pos c1] at h
   have c10 : (low.toList == ([39, 115, 101, 108, 102, 39] : List UInt8)) = true := beq_iff_eq.mpr c1
   clear c1
   simp only [Option.some.injEq, Prod.mk.injEq] at h
   obtain ⟨rfl, rfl, rfl, rfl, rfl, rfl, rfl, rfl⟩ := h
   obtain ⟨⟨a0, a1, a2, a3, a4, a5, a6⟩, f0, f1, f2, f3, f4, f5, f6⟩ := And.intro (src_cells HK.out) (src_free HK.out)
   go_wp2
   refine bodyPost_ret (results_ct rfl _ _ w.heap.size 23 #[.int .i64 1, .string ⟨#[]⟩, .bool false, .string ⟨#[]⟩, .int .i64 0, .string ⟨#[]⟩, .string ⟨#[]⟩] (0, 0) _ rfl (src_put _ _ _ _ _ _ _ HK.out) Tryd.underlying23 rfl (by kernel_rfl)) rfl ?_
   exact ⟨rfl, src_bel _ _ _ _ _ _ _ HB.out (Nat.le_refl _)⟩
  rw [if_neg c1] at h
  have c10 : (low.toList == ([39, 115, 101, 108, 102, 39] : List UInt8)) = false := beq_eq_false_iff_ne.mpr c1
  clear c1
  by_cases c2 : s.toList = [42]
  ·rw [if_pos c2] at h
   have c20 : (s.toList == ([42] : List UInt8)) = true := beq_iff_eq.mpr c2
   clear c2
   simp only [Option.some.injEq, Prod.mk.injEq] at h
   obtain ⟨rfl, rfl, rfl, rfl, rfl, rfl, rfl, rfl⟩ := h
   obtain ⟨⟨a0, a1, a2, a3, a4, a5, a6⟩, f0, f1, f2, f3, f4, f5, f6⟩ := And.intro (src_cells HK.out) (src_free HK.out)
   go_wp2
   refine bodyPost_ret (results_ct rfl _ _ w.heap.size 23 #[.int .i64 2, .string ⟨#[]⟩, .bool false, .string ⟨#[]⟩, .int .i64 0, .string ⟨#[]⟩, .string ⟨#[]⟩] (0, 0) _ rfl (src_put _ _ _ _ _ _ _ HK.out) Tryd.underlying23 rfl (by kernel_rfl)) rfl ?_
   exact ⟨rfl, src_bel _ _ _ _ _ _ _ HB.out (Nat.le_refl _)⟩
  rw [if_neg c2] at h
  have c20 : (s.toList == ([42] : List UInt8)) = false := beq_eq_false_iff_ne.mpr c2
  clear c2
  by_cases c3 : low.toList = [104, 116, 116, 112, 58] ∨ low.toList = [104, 116, 116, 112, 115, 58]
  ·rw [if_pos c3] at h
   cases ht : strings_TrimSuffix.f low ⟨#[58]⟩ with
   | none => rw [ht] at h; cases h
   | some t =>
    rw [ht, Option.bind_some] at h
    have HT := fun W hW => Lib.hid (strings_TrimSuffix.calls low ⟨#[58]⟩ t W hW ht)
    clear ht
    simp only [Option.some.injEq, Prod.mk.injEq] at h
    obtain ⟨rfl, rfl, rfl, rfl, rfl, rfl, rfl, rfl⟩ := h
    have c4 : (low.toList == ([104, 116, 116, 112, 58] : List UInt8)) = true ∨ (low.toList == ([104, 116, 116, 112, 58] : List UInt8)) = false ∧ (low.toList == ([104, 116, 116, 112, 115, 58] : List UInt8)) = true := by
     by_cases q : low.toList = [104, 116, 116, 112, 58]
     ·exact .inl (beq_iff_eq.mpr q)
     ·exact .inr ⟨beq_eq_false_iff_ne.mpr q, beq_iff_eq.mpr (c3.resolve_left q)⟩
    clear c3
    rcases c4 with c5 | ⟨c4, c5⟩
    all_goals
     go_wp2_with fail
     refine (HT _ (hG_.below HB.out)).out.mono ?_
     rintro e w2 ⟨rfl, hd⟩
     replace HK := Lib.hid (blk_below HK.out hd.below)
     replace HB := Lib.hid (below_then HB.out (below_size HB.out) hd.below)
     clear hd HT
     obtain ⟨⟨a0, a1, a2, a3, a4, a5, a6⟩, f0, f1, f2, f3, f4, f5, f6⟩ := And.intro (src_cells HK.out) (src_free HK.out)
     go_wp2
     refine bodyPost_ret (results_ct rfl _ _ w.heap.size 23 #[.int .i64 3, .string t, .bool false, .string ⟨#[]⟩, .int .i64 0, .string ⟨#[]⟩, .string ⟨#[]⟩] (0, 0) _ rfl (src_put _ _ _ _ _ _ _ HK.out) Tryd.underlying23 rfl (by kernel_rfl)) rfl ?_
     exact ⟨rfl, src_bel _ _ _ _ _ _ _ HB.out (Nat.le_refl _)⟩
  rw [if_neg c3] at h
  have c30 : (low.toList == ([104, 116, 116, 112, 58] : List UInt8)) = false := beq_eq_false_iff_ne.mpr fun e => c3 (.inl e)
  have c40 : (low.toList == ([104, 116, 116, 112, 115, 58] : List UInt8)) = false := beq_eq_false_iff_ne.mpr fun e => c3 (.inr e)
  clear c3
  cases hp : strings_HasPrefix.f low ⟨#[39, 110, 111, 110, 99, 101, 45]⟩ with
  | none => rw [hp] at h; cases h
  | some b =>
   rw [hp, Option.bind_some] at h
   have HP := fun W hW => Lib.hid (strings_HasPrefix.calls low ⟨#[39, 110, 111, 110, 99, 101, 45]⟩ b W hW hp)
   have HH := Lib.hid h
   clear h hp
   go_wp2_with fail
   refine (HP _ (hG_.below HB.out)).out.mono ?_
   rintro e w2 ⟨rfl, hd0⟩
   have hd := hd0.below
   replace HK := Lib.hid (blk_below HK.out hd)
   replace HB := Lib.hid (below_then HB.out (below_size HB.out) hd)
   clear hd hd0 HP
   have h := HH.out
   clear HH
   cases b with
   | false =>
    rw [if_neg (by simp)] at h
    have HC := fun W hW => Lib.hid (source_hosted.calls k s r1 r2 r3 r4 r5 r6 r7 r8 W hW h)
    clear h
    go_wp2_with fail
    refine (HC _ (hG_.below HB.out)).out.mono ?_
    rintro e w2 ⟨rfl, hd0⟩
    have hd := hd0
    replace HK := Lib.hid (blk_below HK.out hd)
    replace HB := Lib.hid (below_then HB.out (below_size HB.out) hd)
    clear hd hd0 HC
    obtain ⟨⟨a0, a1, a2, a3, a4, a5, a6⟩, f0, f1, f2, f3, f4, f5, f6⟩ := And.intro (src_cells HK.out) (src_free HK.out)
    go_wp2
    refine bodyPost_ret (results_ct rfl _ _ w.heap.size 23 #[.int .i64 r1, .string r2, .bool r3, .string r4, .int .i64 r5, .string r6, .string r7] (0, 0) _ rfl (src_put _ _ _ _ _ _ _ HK.out) Tryd.underlying23 rfl (by kernel_rfl)) rfl ?_
    exact ⟨rfl, src_bel _ _ _ _ _ _ _ HB.out (Nat.le_refl _)⟩
   | true =>
    rw [if_pos rfl] at h
    unfold srcNonce at h
    by_cases c7 : 7 ≤ s.size
    ·rw [if_pos c7] at h
     cases hc : strings_CutSuffix.f (s.extract 7 s.size) ⟨#[39]⟩ with
     | none => rw [hc] at h; cases h
     | some c =>
      obtain ⟨no, ok⟩ := c
      rw [hc, Option.bind_some] at h
      simp only at h
      have HC := fun W hW => Lib.hid (strings_CutSuffix.calls (s.extract 7 s.size) ⟨#[39]⟩ no ok W hW hc)
      have HH := Lib.hid h
      clear h hc
      have e7 : decide (7 ≤ (s.size : Int)) = true := decide_eq_true (by omega)
      have e8 : decide (7 ≤ s.size) = true := decide_eq_true c7
      have HX := Lib.hid (blk_new w2 (.cells #[.int .i64 5, .string ⟨#[]⟩, .bool false, .string ⟨#[]⟩, .int .i64 0, .string ⟨#[]⟩, .string ⟨#[]⟩] 23))
      have n1 : w2.heap.size ≠ w.heap.size := by have := blk_lt HK.out; omega
      have n2 : w.heap.size ≠ w2.heap.size := fun e => n1 e.symm
      have hge := Lib.hid (below_size HB.out)
      replace HK := Lib.hid (blk_alloc HK.out (.cells #[.int .i64 5, .string ⟨#[]⟩, .bool false, .string ⟨#[]⟩, .int .i64 0, .string ⟨#[]⟩, .string ⟨#[]⟩] 23))
      replace HB := Lib.hid (below_alloc HB.out (.cells #[.int .i64 5, .string ⟨#[]⟩, .bool false, .string ⟨#[]⟩, .int .i64 0, .string ⟨#[]⟩, .string ⟨#[]⟩] 23))
      go_wp2_with fail
      refine (HC _ (hG_.below HB.out)).out.mono ?_
      rintro e w3 ⟨rfl, hd⟩
      replace HX := Lib.hid (blk_below HX.out hd.below)
      replace HK := Lib.hid (blk_below HK.out hd.below)
      replace HB := Lib.hid (below_then HB.out (below_size HB.out) hd.below)
      clear hd HC
      have h := HH.out
      clear HH
      have HX2 := Lib.hid (blk_put (cs' := #[.int .i64 5, .string ⟨#[]⟩, .bool false, .string ⟨#[]⟩, .int .i64 0, .string ⟨#[]⟩, .string no]) HX.out 6 (.string no) rfl)
      have HK2 := Lib.hid (blk_far (p := ⟨w2.heap.size, 6, none⟩) HK.out n2 (.string no))
      have HB2 := Lib.hid (below_set (g := w2.heap.size) (j := 6) (v := .string no) HB.out hge.out)
      obtain ⟨⟨b0, b1, b2, b3, b4, b5, b6⟩, g0, g1, g2, g3, g4, g5, g6⟩ := And.intro (src_cells HX.out) (src_free HX.out)
      cases ok with
      | false =>
       rw [if_neg (by simp)] at h
       unfold srcNo at h
       simp only [Option.some.injEq, Prod.mk.injEq] at h
       obtain ⟨rfl, rfl, rfl, rfl, rfl, rfl, rfl, rfl⟩ := h
       obtain ⟨⟨a0, a1, a2, a3, a4, a5, a6⟩, f0, f1, f2, f3, f4, f5, f6⟩ := And.intro (src_cells HK.out) (src_free HK.out)
       go_wp2
       refine bodyPost_ret (results_ct rfl _ _ w.heap.size 23 #[.int .i64 0, .string ⟨#[]⟩, .bool false, .string ⟨#[]⟩, .int .i64 0, .string ⟨#[]⟩, .string ⟨#[]⟩] (0, 0) _ rfl (src_put _ _ _ _ _ _ _ HK2.out) Tryd.underlying23 rfl (by kernel_rfl)) rfl ?_
       exact ⟨rfl, src_bel _ _ _ _ _ _ _ HB2.out (Nat.le_refl _)⟩
      | true =>
       rw [if_pos rfl] at h
       cases hg : source_Good.f k 5 ⟨#[]⟩ false ⟨#[]⟩ 0 ⟨#[]⟩ no with
       | none => rw [hg] at h; cases h
       | some gd =>
        rw [hg, Option.bind_some] at h
        have HC := fun W hW => Lib.hid (source_Good.calls k 5 ⟨#[]⟩ false ⟨#[]⟩ 0 ⟨#[]⟩ no gd W hW hg)
        have HH := Lib.hid h
        clear h hg
        go_wp2_with fail
        refine (HC _ (hG_.below HB2.out)).out.mono ?_
        rintro e w4 ⟨rfl, hd⟩
        clear b0 b1 b2 b3 b4 b5 b6 g0 g1 g2 g3 g4 g5 g6 HX HK HB
        have HX := Lib.hid (blk_below HX2.out hd)
        have HK := Lib.hid (blk_below HK2.out hd)
        have HB := Lib.hid (below_then HB2.out (below_size HB2.out) hd)
        clear hd HC HX2 HK2 HB2
        have h := HH.out
        clear HH
        obtain ⟨b0, b1, b2, b3, b4, b5, b6⟩ := src_cells HX.out
        obtain ⟨⟨a0, a1, a2, a3, a4, a5, a6⟩, f0, f1, f2, f3, f4, f5, f6⟩ := And.intro (src_cells HK.out) (src_free HK.out)
        cases gd with
        | true =>
         rw [if_pos rfl] at h
         simp only [Option.some.injEq, Prod.mk.injEq] at h
         obtain ⟨rfl, rfl, rfl, rfl, rfl, rfl, rfl, rfl⟩ := h
         go_wp2
         refine bodyPost_ret (results_ct rfl _ _ w.heap.size 23 #[.int .i64 5, .string ⟨#[]⟩, .bool false, .string ⟨#[]⟩, .int .i64 0, .string ⟨#[]⟩, .string no] (0, 0) _ rfl (src_put _ _ _ _ _ _ _ HK.out) Tryd.underlying23 rfl (by kernel_rfl)) rfl ?_
         exact ⟨rfl, src_bel _ _ _ _ _ _ _ HB.out (Nat.le_refl _)⟩
        | false =>
         rw [if_neg (by simp)] at h
         unfold srcNo at h
         simp only [Option.some.injEq, Prod.mk.injEq] at h
         obtain ⟨rfl, rfl, rfl, rfl, rfl, rfl, rfl, rfl⟩ := h
         go_wp2
         refine bodyPost_ret (results_ct rfl _ _ w.heap.size 23 #[.int .i64 0, .string ⟨#[]⟩, .bool false, .string ⟨#[]⟩, .int .i64 0, .string ⟨#[]⟩, .string ⟨#[]⟩] (0, 0) _ rfl (src_put _ _ _ _ _ _ _ HK.out) Tryd.underlying23 rfl (by kernel_rfl)) rfl ?_
         exact ⟨rfl, src_bel _ _ _ _ _ _ _ HB.out (Nat.le_refl _)⟩
    ·rw [if_neg c7] at h; cases h
end Go.Proofs.YtfibkgmbgdaeoaaDoor.Hand
