/- The round trip of URLs: a URL that may be comes back of its text; what a text gives may be, and its text is no longer by more than one byte. No condition. -/
import Derived.Test.YtindkgcbglonhaaDoorUrlS
namespace Go.Proofs.YtindkgcbglonhaaDoor.Hand
open Go.RowKit Go.Proofs.YtindkgcbglonhaaDoorW.PrintWords Go.Proofs.YtindkgcbglonhaaDoorW.PrintLast Go.Proofs.YtindkgcbglonhaaDoorW.PrintMore
set_option linter.unusedVariables false
set_option linter.unusedSimpArgs false

theorem def8_sc {sc : List UInt8} (h : def8 sc ≠ 0) : sc = [104, 116, 116, 112] ∨ sc = [104, 116, 116, 112, 115] := by
 unfold def8 at h
 split at h
 ·exact .inl ‹_›
 ·split at h
  ·exact .inr ‹_›
  ·exact absurd rfl h
structure U8.Good (u : U8) : Prop where
 sc : def8 u.sc ≠ 0
 po : 0 ≤ u.po ∧ u.po ≤ 65535 ∧ u.po ≠ def8 u.sc
 ho : host8 u.ho = true
 us : u.us.all (ok8 bad0) = true
 pa : u.pa.head? = some 47
 pa1 : u.pa.all (ok8 bad1) = true
 qu : u.qu.all (ok8 bad2) = true
 fr : u.fr.all (ok8 bad3) = true
 hq : u.hq = true ∨ u.qu = []
 hf : u.hf = true ∨ u.fr = []
 usl : u.us.length ≤ 128
 all : u.bare.text.length ≤ 1024
theorem U8.good_iff (u : U8) : u.good = true ↔ u.Good := by
 unfold U8.good
 simp only [Bool.and_eq_true, decide_eq_true_eq]
 constructor
 ·rintro ⟨⟨a1, a2, a3, a4⟩, b, c, d, e, f, g, h, i, j, k⟩
  exact ⟨a1, ⟨a2, a3, a4⟩, b, c, d, e, f, g, h, i, j, k⟩
 ·rintro ⟨a1, ⟨a2, a3, a4⟩, b, c, d, e, f, g, h, i, j, k⟩
  exact ⟨⟨a1, a2, a3, a4⟩, b, c, d, e, f, g, h, i, j, k⟩
def U8.textX (u : U8) (X : List UInt8) : List UInt8 := u.sc ++ [58, 47, 47] ++ (if u.us = [] then [] else u.us ++ [64]) ++ u.ho ++ portT u.po ++ X ++ (if u.hq = true then 63 :: u.qu else []) ++ (if u.hf = true then 35 :: u.fr else [])
theorem isPrefixOf_len {a b : List UInt8} (h : a.isPrefixOf b = true) : a.length ≤ b.length := (List.isPrefixOf_iff_prefix.1 h).length_le
theorem cut_len (d : UInt8) (e : List UInt8) : ∀ l, (Lib.cut l (d :: e)).2.2 = true → l.length = (Lib.cut l (d :: e)).1.length + (e.length + 1) + (Lib.cut l (d :: e)).2.1.length := by
 intro l
 induction l with
 | nil => intro h; rw [cut_nil] at h; cases h
 | cons b l ih =>
  rw [cut_cons]
  by_cases hp : (d :: e).isPrefixOf (b :: l) = true
  ·rw [if_pos hp]
   intro _
   have := isPrefixOf_len hp
   simp only [List.length_drop, List.length_cons, List.length_nil] at *
   omega
  ·rw [if_neg hp]
   intro h
   have := ih h
   simp only [List.length_cons]
   omega
theorem cut_no (d : UInt8) (e : List UInt8) : ∀ l, (Lib.cut l (d :: e)).2.2 = false → (Lib.cut l (d :: e)).1 = l ∧ (Lib.cut l (d :: e)).2.1 = [] := by
 intro l
 unfold Lib.cut
 split
 ·intro h; cases h
 ·intro _; exact ⟨rfl, rfl⟩
theorem port8_len (l : List UInt8) (h : (port8 l).2 = true) : portT (port8 l).1 = 58 :: l ∧ (port8 l).1 ≠ 0 := by
 unfold port8 at h ⊢
 split
 ·rename_i hc
  obtain ⟨a, b, c, d, e⟩ := hc
  obtain ⟨h1, h2⟩ := decDigits_of _ l rfl a b c
  have h0 : ((val8 l : Nat) : Int) ≠ 0 := by omega
  exact ⟨(portT_nat _ h0).trans (by rw [h1]), h0⟩
 ·rename_i hc
  rw [if_neg hc] at h; cases h
theorem hp8_textlen (sc a : List UInt8) (h : (hp8 sc a).1 = true) : (hp8 sc a).2.1.length + (portT (hp8 sc a).2.2).length ≤ a.length := by
 have c1 := cut_len 58 [] a
 have c2 := cut_no 58 [] a
 unfold hp8 at h ⊢
 by_cases c : (Lib.cut a [58]).2.2 = true
 ·rw [if_pos c] at h ⊢
  have hp := port8_len _ h
  have := c1 c
  simp only [List.length_map, List.length_nil] at *
  split
  ·simp [portT]; omega
  ·rw [hp.1]; simp only [List.length_cons]; omega
 ·rw [if_neg c] at h ⊢
  have := c2 (by simpa using c)
  simp only [List.length_map, this.1]
  simp [portT]
theorem lastAt_len2 {a us b : List UInt8} (h : lastAt a = some (us, b)) : us.length + 1 + b.length = a.length := by
 rcases split_last 64 a with hm | ⟨x, y, rfl, hy⟩
 ·rw [lastAt_miss a hm] at h; cases h
 ·rw [lastAt_hit x y hy] at h
  simp only [Option.some.injEq, Prod.mk.injEq] at h
  obtain ⟨rfl, rfl⟩ := h
  simp; omega
def qLen (b : Bool) (d : UInt8) (l : List UInt8) : Nat := (if b = true then d :: l else []).length
def usLen (us : List UInt8) : Nat := if us = [] then 0 else us.length + 1
theorem U8.textLen (u : U8) : u.text.length = u.sc.length + 3 + usLen u.us + u.ho.length + (portT u.po).length + u.pa.length + qLen u.hq 63 u.qu + qLen u.hf 35 u.fr := by
 unfold U8.text usLen qLen
 simp only [List.length_append, List.length_cons, List.length_nil]
 split <;> simp only [List.length_append, List.length_cons, List.length_nil]
theorem auth8_textlen (sc a : List UInt8) (h : (auth8 sc a).1 = true) : usLen (auth8 sc a).2.1 + (auth8 sc a).2.2.1.length + (portT (auth8 sc a).2.2.2).length ≤ a.length := by
 unfold auth8 at h ⊢
 cases hl : lastAt a with
 | none =>
  rw [hl] at h
  simp only at h ⊢
  have := hp8_textlen sc a h
  simp [usLen]; omega
 | some p =>
  obtain ⟨us, b⟩ := p
  rw [hl] at h
  have h2 := lastAt_len2 hl
  simp only at h ⊢
  by_cases c : us = []
  ·rw [if_pos c] at h; cases h
  ·rw [if_neg c] at h ⊢
   have := hp8_textlen sc b h
   simp only [usLen, c, if_false]
   omega
theorem path8_textlen (l : List UInt8) : (path8 l).1.length + (path8 l).2.length ≤ l.length + 1 := by
 rcases split_first 47 l with hm | ⟨x, y, rfl, hy⟩
 ·rw [path8_miss l hm]; simp
 ·rw [path8_hit x y hy]; simp
theorem cut1_textlen (d : UInt8) (l : List UInt8) : (Lib.cut l [d]).1.length + qLen (Lib.cut l [d]).2.2 d (Lib.cut l [d]).2.1 = l.length := by
 unfold qLen
 have c1 := cut_len d [] l
 have c2 := cut_no d [] l
 by_cases c : (Lib.cut l [d]).2.2 = true
 ·rw [if_pos c, c1 c]; simp; omega
 ·rw [if_neg c, (c2 (by simpa using c)).1]; simp
theorem parse8_cases (s : List UInt8) : parse8 s = (U8.none, if s.length > 1161 then 2 else 3) ∨ ((parse8 s).2 = 0 ∧ (parse8 s).1.good = true ∧ (parse8 s).1.text.length ≤ s.length + 1) := by
 have c1 := cut_len 58 [47, 47] s
 unfold parse8
 by_cases h1 : s.length > 1161
 ·rw [if_pos h1, if_pos h1]; exact .inl rfl
 ·rw [if_neg h1, if_neg h1]
  by_cases h2 : (Lib.cut s [58, 47, 47]).2.2 = true
  ·have c1 := c1 h2
   rw [if_pos h2]
   generalize Lib.cut s [58, 47, 47] = x1 at *
   have c2 := cut1_textlen 35 x1.2.1
   generalize Lib.cut x1.2.1 [35] = x2 at *
   have c3 := cut1_textlen 63 x2.1
   generalize Lib.cut x2.1 [63] = x3 at *
   have c4 := path8_textlen x3.1
   generalize path8 x3.1 = x4 at *
   split
   ·exact .inl rfl
   ·split
    ·rename_i h3 h4
     have c5 := auth8_textlen (x1.1.map low8) x4.1 h4.1
     refine .inr ⟨rfl, h4.2, ?_⟩
     rw [U8.textLen]
     simp only [mk8, List.length_map, List.length_cons, List.length_nil] at c1 ⊢
     omega
    ·exact .inl rfl
  ·rw [if_neg h2]; exact .inl rfl
end Go.Proofs.YtindkgcbglonhaaDoor.Hand
