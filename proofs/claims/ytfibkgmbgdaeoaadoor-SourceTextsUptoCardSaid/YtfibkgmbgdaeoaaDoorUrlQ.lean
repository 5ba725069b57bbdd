/- The URL of a text, over lists of bytes: what url.Parse computes; a URL that may be comes back of its text. Conditions: at most 2^30 bytes. -/
import Derived.Test.YtfibkgmbgdaeoaaDoorUrlG
import Derived.Lib.LastIndexByte
namespace Go.Proofs.YtfibkgmbgdaeoaaDoor.Hand
open Go.RowKit Go.Proofs.YtfibkgmbgdaeoaaDoorW.PrintWords Go.Proofs.YtfibkgmbgdaeoaaDoorW.PrintLast Go.Proofs.YtfibkgmbgdaeoaaDoorW.PrintMore
set_option linter.unusedVariables false
set_option linter.unusedSimpArgs false

def U8.none : U8 := ⟨[], [], [], 0, [], false, [], false, []⟩
theorem cut_lens (l e : List UInt8) : (Lib.cut l e).1.length ≤ l.length ∧ (Lib.cut l e).2.1.length ≤ l.length := by
 unfold Lib.cut
 split
 ·simp only [List.length_take, List.length_drop]; omega
 ·simp
theorem indexByte_first (a b : List UInt8) (c : UInt8) (h : c ∉ a) : Lib.indexByte (a ++ c :: b) c = (a.length : Int) := by
 induction a with
 | nil => simp [Lib.indexByte]
 | cons x a ih =>
  have hx : (x == c) = false := by simpa using fun e : x = c => h (by simp [e])
  have h2 := ih (fun hc => h (by simp [hc]))
  rw [List.cons_append, Lib.indexByte, h2, hx]
  have : ((a.length : Int) == -1) = false := by simp
  rw [this]; simp
theorem indexByte_never (l : List UInt8) (c : UInt8) (h : c ∉ l) : Lib.indexByte l c = -1 := by
 induction l with
 | nil => rfl
 | cons x a ih =>
  have hx : (x == c) = false := by simpa using fun e : x = c => h (by simp [e])
  rw [Lib.indexByte, ih (fun hc => h (by simp [hc])), hx]; rfl
end Go.Proofs.YtfibkgmbgdaeoaaDoor.Hand

/- The round trip of URLs: a URL that may be comes back of its text; what a text gives may be, and its text is no longer by more than one byte. No condition. -/
namespace Go.Proofs.YtfibkgmbgdaeoaaDoor.Hand
open Go.RowKit Go.Proofs.YtfibkgmbgdaeoaaDoorW.PrintWords Go.Proofs.YtfibkgmbgdaeoaaDoorW.PrintLast Go.Proofs.YtfibkgmbgdaeoaaDoorW.PrintMore
set_option linter.unusedVariables false
set_option linter.unusedSimpArgs false

theorem def8_sc {sc : List UInt8} (h : def8 sc ≠ 0) : sc = [104, 116, 116, 112] ∨ sc = [104, 116, 116, 112, 115] := by
 unfold def8 at h
 split at h
 ·exact .inl ‹_›
 ·split at h
  ·exact .inr ‹_›
  ·exact absurd rfl h
structure U8.Good (u : U8) : Prop where
 sc : def8 u.sc ≠ 0
 po : 0 ≤ u.po ∧ u.po ≤ 65535 ∧ u.po ≠ def8 u.sc
 ho : host8 u.ho = true
 us : u.us.all (ok8 bad0) = true
 pa : u.pa.head? = some 47
 pa1 : u.pa.all (ok8 bad1) = true
 qu : u.qu.all (ok8 bad2) = true
 fr : u.fr.all (ok8 bad3) = true
 hq : u.hq = true ∨ u.qu = []
 hf : u.hf = true ∨ u.fr = []
 usl : u.us.length ≤ 128
 all : u.bare.text.length ≤ 1024
theorem U8.good_iff (u : U8) : u.good = true ↔ u.Good := by
 unfold U8.good
 simp only [Bool.and_eq_true, decide_eq_true_eq]
 constructor
 ·rintro ⟨⟨a1, a2, a3, a4⟩, b, c, d, e, f, g, h, i, j, k⟩
  exact ⟨a1, ⟨a2, a3, a4⟩, b, c, d, e, f, g, h, i, j, k⟩
 ·rintro ⟨a1, ⟨a2, a3, a4⟩, b, c, d, e, f, g, h, i, j, k⟩
  exact ⟨⟨a1, a2, a3, a4⟩, b, c, d, e, f, g, h, i, j, k⟩
def U8.textX (u : U8) (X : List UInt8) : List UInt8 := u.sc ++ [58, 47, 47] ++ (if u.us = [] then [] else u.us ++ [64]) ++ u.ho ++ portT u.po ++ X ++ (if u.hq = true then 63 :: u.qu else []) ++ (if u.hf = true then 35 :: u.fr else [])
theorem isPrefixOf_len {a b : List UInt8} (h : a.isPrefixOf b = true) : a.length ≤ b.length := (List.isPrefixOf_iff_prefix.1 h).length_le
def qLen (b : Bool) (d : UInt8) (l : List UInt8) : Nat := (if b = true then d :: l else []).length
def usLen (us : List UInt8) : Nat := if us = [] then 0 else us.length + 1
theorem U8.textLen (u : U8) : u.text.length = u.sc.length + 3 + usLen u.us + u.ho.length + (portT u.po).length + u.pa.length + qLen u.hq 63 u.qu + qLen u.hf 35 u.fr := by
 unfold U8.text usLen qLen
 simp only [List.length_append, List.length_cons, List.length_nil]
 split <;> simp only [List.length_append, List.length_cons, List.length_nil]
end Go.Proofs.YtfibkgmbgdaeoaaDoor.Hand

/- The URL of a text as the reference computes it: the same as url.Parse. Conditions: at most 2^26 bytes. -/
namespace Go.Proofs.YtfibkgmbgdaeoaaDoor.Hand
open Go.RowKit Go.Proofs.YtfibkgmbgdaeoaaDoorW.PrintWords Go.Proofs.YtfibkgmbgdaeoaaDoorW.PrintLast Go.Proofs.YtfibkgmbgdaeoaaDoorW.PrintMore
set_option linter.unusedVariables false
set_option linter.unusedSimpArgs false

def til (st l : List UInt8) : List UInt8 := l.takeWhile (fun c => !st.contains c)
def aft (st l : List UInt8) : List UInt8 := l.dropWhile (fun c => !st.contains c)
theorem til_app (st a b : List UInt8) (ha : ∀ x ∈ a, st.contains x = false) (hb : b = [] ∨ ∃ c r, b = c :: r ∧ st.contains c = true) : til st (a ++ b) = a ∧ aft st (a ++ b) = b := by
 have h1 : ∀ x ∈ a, (!st.contains x) = true := fun x hx => by rw [ha x hx]; rfl
 unfold til aft
 rw [List.takeWhile_append_of_pos h1, List.dropWhile_append_of_pos h1]
 rcases hb with rfl | ⟨c, r, rfl, hc⟩
 ·simp
 ·rw [List.takeWhile_cons, List.dropWhile_cons, hc]; simp
theorem not_st {st l : List UInt8} (h : ∀ d ∈ st, d ∉ l) : ∀ x ∈ l, st.contains x = false := by
 intro x hx
 rw [Bool.eq_false_iff]
 intro hc
 exact h x (by simpa using hc) hx
end Go.Proofs.YtfibkgmbgdaeoaaDoor.Hand
