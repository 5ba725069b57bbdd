/- The URL of a text, over lists of bytes: what url.Parse computes; a URL that may be comes back of its text. Conditions: at most 2^30 bytes. -/
import Derived.Test.YteemgpciheheoaaGreatDoorRRRUrlG
import Derived.Lib.LastIndexByte
import Derived.Test.YteemgpciheheoaaGreatDoorRRRFT1
namespace Go.Proofs.YteemgpciheheoaaGreatDoorRRR.Hand
open Go.RowKit Go.Proofs.YteemgpciheheoaaGreatDoorRRRW.PrintWords Go.Proofs.YteemgpciheheoaaGreatDoorRRRW.PrintLast Go.Proofs.YteemgpciheheoaaGreatDoorRRRW.PrintMore
set_option linter.unusedVariables false
set_option linter.unusedSimpArgs false

def U8.none : U8 := ⟨[], [], [], 0, [], false, [], false, []⟩
theorem cut_lens (l e : List UInt8) : (Lib.cut l e).1.length ≤ l.length ∧ (Lib.cut l e).2.1.length ≤ l.length := by
 unfold Lib.cut
 split
 ·simp only [List.length_take, List.length_drop]; omega
 ·simp
theorem indexByte_first (a b : List UInt8) (c : UInt8) (h : c ∉ a) : Lib.indexByte (a ++ c :: b) c = (a.length : Int) := by
 induction a with
 | nil => simp [Lib.indexByte]
 | cons x a ih =>
  have hx : (x == c) = false := by simpa using fun e : x = c => h (by simp [e])
  have h2 := ih (fun hc => h (by simp [hc]))
  rw [List.cons_append, Lib.indexByte, h2, hx]
  have : ((a.length : Int) == -1) = false := by simp
  rw [this]; simp
theorem indexByte_never (l : List UInt8) (c : UInt8) (h : c ∉ l) : Lib.indexByte l c = -1 := by
 induction l with
 | nil => rfl
 | cons x a ih =>
  have hx : (x == c) = false := by simpa using fun e : x = c => h (by simp [e])
  rw [Lib.indexByte, ih (fun hc => h (by simp [hc])), hx]; rfl
end Go.Proofs.YteemgpciheheoaaGreatDoorRRR.Hand

/- The round trip of URLs: a URL that may be comes back of its text; what a text gives may be, and its text is no longer by more than one byte. No condition. -/
namespace Go.Proofs.YteemgpciheheoaaGreatDoorRRR.Hand
open Go.RowKit Go.Proofs.YteemgpciheheoaaGreatDoorRRRW.PrintWords Go.Proofs.YteemgpciheheoaaGreatDoorRRRW.PrintLast Go.Proofs.YteemgpciheheoaaGreatDoorRRRW.PrintMore
set_option linter.unusedVariables false
set_option linter.unusedSimpArgs false

theorem mem_splitD (d c : UInt8) : ∀ l : List UInt8, c ∈ l → c = d ∨ ∃ x ∈ splitD d l, c ∈ x := by
 intro l
 induction l with
 | nil => intro h; cases h
 | cons b l ih =>
  intro h
  unfold splitD
  by_cases hb : b = d
  ·rw [if_pos hb]
   rcases List.mem_cons.1 h with rfl | h
   ·exact .inl hb
   ·rcases ih h with h | ⟨x, hx, hc⟩
    ·exact .inl h
    ·exact .inr ⟨x, List.mem_cons_of_mem _ hx, hc⟩
  ·rw [if_neg hb]
   cases hs : splitD d l with
   | nil => exact absurd hs (splitD_ne d l)
   | cons y r =>
    rw [hs] at ih
    simp only
    rcases List.mem_cons.1 h with rfl | h
    ·exact .inr ⟨c :: y, by simp, by simp⟩
    ·rcases ih h with h | ⟨x, hx, hc⟩
     ·exact .inl h
     ·rcases List.mem_cons.1 hx with rfl | hx
      ·exact .inr ⟨b :: x, by simp, by simp [hc]⟩
      ·exact .inr ⟨x, by simp [hx], hc⟩
theorem host8_mem {l : List UInt8} (h : host8 l = true) {c : UInt8} (hc : c ∈ l) : letter8 c = true ∨ c = 46 := by
 rcases mem_splitD 46 c l hc with h1 | ⟨x, hx, hcx⟩
 ·exact .inr h1
 ·unfold host8 at h
  rw [Bool.and_eq_true] at h
  have := List.all_eq_true.1 h.2 x hx
  unfold label8 at this
  rw [Bool.and_eq_true] at this
  exact .inl (List.all_eq_true.1 this.2 c hcx)
theorem host8_not {l : List UInt8} (h : host8 l = true) (d : UInt8) (hd : letter8 d = false ∧ d ≠ 46) : d ∉ l := by
 intro hc
 rcases host8_mem h hc with h1 | h1
 ·rw [hd.1] at h1; cases h1
 ·exact hd.2 h1
theorem letter8_low (c : UInt8) (h : letter8 c = true ∨ c = 46) : low8 c = c := by
 have := u8_all (P := fun c => decide ((letter8 c = true ∨ c = 46) → low8 c = c)) (by decide +kernel) c
 exact of_decide_eq_true this h
theorem host8_low {l : List UInt8} (h : host8 l = true) : l.map low8 = l := by
 have : ∀ c ∈ l, low8 c = c := fun c hc => letter8_low c (host8_mem h hc)
 exact (List.map_congr_left this).trans (List.map_id l)
theorem dig_not (n : Nat) (d : UInt8) (hd : dig8 d = false) : d ∉ Lib.decDigits n := by
 intro hc
 have := List.all_eq_true.1 (decDigits_spec n).1 d hc
 rw [hd] at this; cases this
theorem def8_sc {sc : List UInt8} (h : def8 sc ≠ 0) : sc = [104, 116, 116, 112] ∨ sc = [104, 116, 116, 112, 115] := by
 unfold def8 at h
 split at h
 ·exact .inl ‹_›
 ·split at h
  ·exact .inr ‹_›
  ·exact absurd rfl h
theorem low8_sc {sc : List UInt8} (h : def8 sc ≠ 0) : sc.map low8 = sc := by
 rcases def8_sc h with rfl | rfl <;> decide
structure U8.Good (u : U8) : Prop where
 sc : def8 u.sc ≠ 0
 po : 0 ≤ u.po ∧ u.po ≤ 65535 ∧ u.po ≠ def8 u.sc
 ho : host8 u.ho = true
 us : u.us.all (ok8 bad0) = true
 pa : u.pa.head? = some 47
 pa1 : u.pa.all (ok8 bad1) = true
 qu : u.qu.all (ok8 bad2) = true
 fr : u.fr.all (ok8 bad3) = true
 hq : u.hq = true ∨ u.qu = []
 hf : u.hf = true ∨ u.fr = []
 usl : u.us.length ≤ 128
 all : u.bare.text.length ≤ 1024
theorem U8.good_iff (u : U8) : u.good = true ↔ u.Good := by
 unfold U8.good
 simp only [Bool.and_eq_true, decide_eq_true_eq]
 constructor
 ·rintro ⟨⟨a1, a2, a3, a4⟩, b, c, d, e, f, g, h, i, j, k⟩
  exact ⟨a1, ⟨a2, a3, a4⟩, b, c, d, e, f, g, h, i, j, k⟩
 ·rintro ⟨a1, ⟨a2, a3, a4⟩, b, c, d, e, f, g, h, i, j, k⟩
  exact ⟨⟨a1, a2, a3, a4⟩, b, c, d, e, f, g, h, i, j, k⟩
theorem port8_dec (n : Nat) (h1 : 1 ≤ n) (h2 : n ≤ 65535) : port8 (Lib.decDigits n) = ((n : Int), true) := by
 obtain ⟨a, b, c, d⟩ := decDigits_spec n
 unfold port8
 rw [if_pos ⟨a, c, d h1, decDigits_len5 n h2, by rw [b]; exact h2⟩, b]
def U8.textX (u : U8) (X : List UInt8) : List UInt8 := u.sc ++ [58, 47, 47] ++ (if u.us = [] then [] else u.us ++ [64]) ++ u.ho ++ portT u.po ++ X ++ (if u.hq = true then 63 :: u.qu else []) ++ (if u.hf = true then 35 :: u.fr else [])
theorem isPrefixOf_len {a b : List UInt8} (h : a.isPrefixOf b = true) : a.length ≤ b.length := (List.isPrefixOf_iff_prefix.1 h).length_le
def qLen (b : Bool) (d : UInt8) (l : List UInt8) : Nat := (if b = true then d :: l else []).length
def usLen (us : List UInt8) : Nat := if us = [] then 0 else us.length + 1
theorem U8.textLen (u : U8) : u.text.length = u.sc.length + 3 + usLen u.us + u.ho.length + (portT u.po).length + u.pa.length + qLen u.hq 63 u.qu + qLen u.hf 35 u.fr := by
 unfold U8.text usLen qLen
 simp only [List.length_append, List.length_cons, List.length_nil]
 split <;> simp only [List.length_append, List.length_cons, List.length_nil]
end Go.Proofs.YteemgpciheheoaaGreatDoorRRR.Hand

/- The URL of a text as the reference computes it: the same as url.Parse. Conditions: at most 2^26 bytes. -/
namespace Go.Proofs.YteemgpciheheoaaGreatDoorRRR.Hand
open Go.RowKit Go.Proofs.YteemgpciheheoaaGreatDoorRRRW.PrintWords Go.Proofs.YteemgpciheheoaaGreatDoorRRRW.PrintLast Go.Proofs.YteemgpciheheoaaGreatDoorRRRW.PrintMore
set_option linter.unusedVariables false
set_option linter.unusedSimpArgs false

def til (st l : List UInt8) : List UInt8 := l.takeWhile (fun c => !st.contains c)
def aft (st l : List UInt8) : List UInt8 := l.dropWhile (fun c => !st.contains c)
theorem til_app (st a b : List UInt8) (ha : ∀ x ∈ a, st.contains x = false) (hb : b = [] ∨ ∃ c r, b = c :: r ∧ st.contains c = true) : til st (a ++ b) = a ∧ aft st (a ++ b) = b := by
 have h1 : ∀ x ∈ a, (!st.contains x) = true := fun x hx => by rw [ha x hx]; rfl
 unfold til aft
 rw [List.takeWhile_append_of_pos h1, List.dropWhile_append_of_pos h1]
 rcases hb with rfl | ⟨c, r, rfl, hc⟩
 ·simp
 ·rw [List.takeWhile_cons, List.dropWhile_cons, hc]; simp
theorem not_st {st l : List UInt8} (h : ∀ d ∈ st, d ∉ l) : ∀ x ∈ l, st.contains x = false := by
 intro x hx
 rw [Bool.eq_false_iff]
 intro hc
 exact h x (by simpa using hc) hx
theorem def8_chars {a : List UInt8} (h : def8 (a.map low8) ≠ 0) : 58 ∉ a := by
 intro hc
 have : low8 58 ∈ a.map low8 := List.mem_map.2 ⟨58, hc, rfl⟩
 rcases def8_sc h with e | e <;> rw [e] at this <;> exact absurd this (by decide)
theorem cutS_hit (r : List UInt8) : ∀ a : List UInt8, 58 ∉ a → Lib.cut (a ++ 58 :: 47 :: 47 :: r) [58, 47, 47] = (a, r, true) := by
 intro a
 induction a with
 | nil => intro _; rw [List.nil_append, cut_cons, if_pos (by simp [List.isPrefixOf])]; rfl
 | cons x a ih =>
  intro h
  have hx : (58 : UInt8) ≠ x := fun e => h (by simp [e])
  rw [List.cons_append, cut_cons, if_neg (by simp [List.isPrefixOf, hx]), ih (fun e => h (by simp [e]))]
theorem cut_true (d : UInt8) (e : List UInt8) : ∀ l, (Lib.cut l (d :: e)).2.2 = true → l = (Lib.cut l (d :: e)).1 ++ (d :: e) ++ (Lib.cut l (d :: e)).2.1 := by
 intro l
 induction l with
 | nil => intro h; rw [cut_nil] at h; cases h
 | cons b l ih =>
  rw [cut_cons]
  by_cases hp : (d :: e).isPrefixOf (b :: l) = true
  ·rw [if_pos hp]
   intro _
   obtain ⟨t, ht⟩ := List.isPrefixOf_iff_prefix.1 hp
   simp only
   rw [← ht, List.drop_left' (by simp)]; rfl
  ·rw [if_neg hp]
   intro h
   have := ih h
   simp only [List.cons_append]
   rw [List.cons.injEq]
   exact ⟨rfl, by simpa using this⟩
end Go.Proofs.YteemgpciheheoaaGreatDoorRRR.Hand
