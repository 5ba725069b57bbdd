/- What package safe and its reference compute, over lists of bytes. Conditions: at most 2^30 bytes. -/
import Derived.Test.YtfibkgmbgdaeoaaGreatDoorAsciiF
import Derived.Test.YtfibkgmbgdaeoaaGreatDoorCut
import Derived.Test.YtfibkgmbgdaeoaaGreatDoorSafeR
namespace Go.Proofs.YtfibkgmbgdaeoaaGreatDoor.Hand
open Go.RowKit Go.Proofs.YtfibkgmbgdaeoaaGreatDoorW.PrintWords Go.Proofs.YtfibkgmbgdaeoaaGreatDoorW.PrintLast Go.Proofs.YtfibkgmbgdaeoaaGreatDoorW.PrintMore
set_option linter.unusedVariables false
set_option linter.unusedSimpArgs false

theorem rdBA_mid (p q : List (List UInt8)) (x : List UInt8) : rdOf ByteArray.empty ((p ++ x :: q).map ba) (p.length : Int) = ba x := by simp [rdOf, List.getD_eq_getElem?_getD]
theorem refAmong_go (s : List UInt8) : ∀ (q p : List (List UInt8)), p.length + q.length ≤ 1099511627776 →
  Ev (fun k => pursuivantref10_among.l0 k (ba s) ((p ++ q).map ba) (p.length : Int)) (decide (s ∈ q)) := by
 intro q
 induction q with
 | nil =>
  intro p h
  refine Ev.step (fun k => by rw [pursuivantref10_among.l0]) ?_
  refine Ev.if_neg (by simp) ?_
  simpa using Ev.now _
 | cons x q ih =>
  intro p h
  simp only [List.length_cons] at h
  refine Ev.step (fun k => by rw [pursuivantref10_among.l0]) ?_
  refine Ev.if_pos (by simp; omega) (Ev.if_pos (by omega) ?_)
  rw [rdBA_mid, ba_list, ba_list]
  refine Ev.ite (fun e => ?_) (fun e => ?_)
  ·subst e; simpa using Ev.now _
  ·have hn := ih (p ++ [x]) (by simp; omega)
   rw [List.append_assoc, List.singleton_append, List.length_append, List.length_singleton] at hn
   rw [wrap_nat _ (by omega)]
   have : (decide (s ∈ x :: q)) = decide (s ∈ q) := by
    have : s ≠ x := fun h => e h.symm
    simp [this]
   rw [this]; exact hn
theorem refAmong (s : List UInt8) (xs : List (List UInt8)) (h : xs.length ≤ 1099511627776) : Ev (fun k => pursuivantref10_among.f k (ba s) (xs.map ba)) (decide (s ∈ xs)) := refAmong_go s xs [] (by simpa using h)

abbrev mGET : List UInt8 := [71, 69, 84]
abbrev mHEAD : List UInt8 := [72, 69, 65, 68]
abbrev mPOST : List UInt8 := [80, 79, 83, 84]
abbrev hAL : List UInt8 := [97, 99, 99, 101, 112, 116, 45, 108, 97, 110, 103, 117, 97, 103, 101]
abbrev hCL : List UInt8 := [99, 111, 110, 116, 101, 110, 116, 45, 108, 97, 110, 103, 117, 97, 103, 101]
abbrev hCT : List UInt8 := [99, 111, 110, 116, 101, 110, 116, 45, 116, 121, 112, 101]
abbrev hAC : List UInt8 := [97, 99, 99, 101, 112, 116]
abbrev tFORM : List UInt8 := [97, 112, 112, 108, 105, 99, 97, 116, 105, 111, 110, 47, 120, 45, 119, 119, 119, 45, 102, 111, 114, 109, 45, 117, 114, 108, 101, 110, 99, 111, 100, 101, 100]
abbrev tMULTI : List UInt8 := [109, 117, 108, 116, 105, 112, 97, 114, 116, 47, 102, 111, 114, 109, 45, 100, 97, 116, 97]
abbrev tPLAIN : List UInt8 := [116, 101, 120, 116, 47, 112, 108, 97, 105, 110]
def simple8 (l : List UInt8) : Bool := decide (l ∈ [mPOST, mHEAD, mGET])
theorem progSimple (l : List UInt8) : safe_Simple.f (ba l) = some (simple8 l) := by
 unfold safe_Simple.f simple8
 rw [ba_list]
 repeat' split
 all_goals first | (simp_all; done) | (simp_all; rw [Bool.eq_iff_iff]; simp)
theorem refSimple (l : List UInt8) : Ev (fun k => pursuivantref10_Simple.f k (ba l)) (simple8 l) := by
 unfold pursuivantref10_Simple.f
 exact Ev.bind (refAmong l [mPOST, mHEAD, mGET] (by decide)) (Ev.now _)

def lang8 (c : UInt8) : Bool := decide ((48 ≤ c.toNat ∧ c.toNat ≤ 57) ∨ (65 ≤ c.toNat ∧ c.toNat ≤ 90) ∨ (97 ≤ c.toNat ∧ c.toNat ≤ 122)) || [32, 42, 44, 45, 46, 59, 61].contains c
def clean8 (c : UInt8) : Bool := (decide (32 ≤ c.toNat) || decide (c = 9)) && !([34, 40, 41, 58, 60, 62, 63, 64, 91, 92, 93, 123, 125, 127].contains c)
def ixL (c : UInt8) : Int := Lib.indexByte [32, 42, 44, 45, 46, 59, 61] c
def ixC (c : UInt8) : Int := Lib.indexByte [34, 40, 41, 58, 60, 62, 63, 64, 91, 92, 93, 123, 125, 127] c
def langP (c : UInt8) : Bool := if (c.toNat : Int) < 48 then (if Go.bits .or .u8 (c.toNat : Int) 32 < 97 then decide (¬ixL c < 0) else if Go.bits .or .u8 (c.toNat : Int) 32 > 122 then decide (¬ixL c < 0) else true)
 else if (c.toNat : Int) > 57 then (if Go.bits .or .u8 (c.toNat : Int) 32 < 97 then decide (¬ixL c < 0) else if Go.bits .or .u8 (c.toNat : Int) 32 > 122 then decide (¬ixL c < 0) else true) else true
theorem langP_eq (c : UInt8) : langP c = lang8 c := of_decide_eq_true (u8_all (P := fun c => decide (langP c = lang8 c)) (by decide +kernel) c)
def cleanP (c : UInt8) : Bool := if (c.toNat : Int) < 32 then (if (c.toNat : Int) = 9 then decide (¬ixC c ≥ 0) else false) else decide (¬ixC c ≥ 0)
theorem cleanP_eq (c : UInt8) : cleanP c = clean8 c := of_decide_eq_true (u8_all (P := fun c => decide (cleanP c = clean8 c)) (by decide +kernel) c)
theorem ixB (a : ByteArray) (c : UInt8) : strings_IndexByte.f a (c.toNat : Int) = some (Lib.indexByte a.data.toList c) := by
 unfold strings_IndexByte.f
 rw [Int.toNat_natCast]
 congr 2
 simp [Nat.toUInt8]
theorem progLang_go : ∀ (q p : List UInt8), p.length + q.length ≤ 1099511627776 →
  Ev (fun k => safe_language.l0 k (ba (p ++ q)) ((p ++ q).length : Int) (p.length : Int)) (q.all lang8) := by
 intro q
 induction q with
 | nil =>
  intro p h
  refine Ev.step (fun k => by rw [safe_language.l0]) ?_
  refine Ev.if_neg (by (first | omega | (simp only [ba_size', List.length_append, List.length_cons, List.length_nil]; omega) | (simp; omega) | (simp; done))) ?_
  simpa using Ev.now _
 | cons c q ih =>
  intro p h
  simp only [List.length_cons] at h
  refine Ev.step (fun k => by rw [safe_language.l0]) ?_
  refine Ev.if_pos (by (first | omega | (simp only [ba_size', List.length_append, List.length_cons, List.length_nil]; omega) | (simp; omega) | (simp; done))) (Ev.if_pos (by omega) (Ev.if_pos (by (first | omega | (simp only [ba_size', List.length_append, List.length_cons, List.length_nil]; omega) | (simp; omega) | (simp; done))) ?_))
  simp only [bt_mid, wrap_nat _ (show p.length < 9223372036854775807 by omega)]
  have hn := ih (p ++ [c]) (by (first | omega | (simp only [ba_size', List.length_append, List.length_cons, List.length_nil]; omega) | (simp; omega) | (simp; done)))
  rw [List.append_assoc, List.singleton_append, show (p ++ [c]).length = p.length + 1 from by simp] at hn
  have yes : lang8 c = true → Ev (fun k => safe_language.l0 k (ba (p ++ c :: q)) ((p ++ c :: q).length : Int) ((p.length + 1 : Nat) : Int)) ((c :: q).all lang8) := fun e => by
   rw [List.all_cons, e, Bool.true_and]; exact hn
  have no : lang8 c = false → Ev (fun _ => some false) ((c :: q).all lang8) := fun e => by
   rw [List.all_cons, e, Bool.false_and]; exact Ev.now _
  have hP := langP_eq c
  have ix : strings_IndexByte.f (⟨#[32, 42, 44, 45, 46, 59, 61]⟩ : ByteArray) (c.toNat : Int) = some (ixL c) := ixB _ c
  unfold langP at hP
  simp only [ix, Option.bind_some]
  refine Ev.ite (fun h1 => ?_) (fun h1 => ?_)
  ·rw [if_pos h1] at hP
   refine Ev.ite (fun h2 => ?_) (fun h2 => ?_)
   ·rw [if_pos h2] at hP
    exact Ev.ite (fun h3 => no (by rw [← hP]; simpa using h3)) (fun h3 => yes (by rw [← hP]; simpa using h3))
   ·rw [if_neg h2] at hP
    refine Ev.ite (fun h2 => ?_) (fun h2 => ?_)
    ·rw [if_pos h2] at hP
     exact Ev.ite (fun h3 => no (by rw [← hP]; simpa using h3)) (fun h3 => yes (by rw [← hP]; simpa using h3))
    ·rw [if_neg h2] at hP
     exact yes hP.symm
  ·rw [if_neg h1] at hP
   refine Ev.ite (fun h1 => ?_) (fun h1 => ?_)
   ·rw [if_pos h1] at hP
    refine Ev.ite (fun h2 => ?_) (fun h2 => ?_)
    ·rw [if_pos h2] at hP
     exact Ev.ite (fun h3 => no (by rw [← hP]; simpa using h3)) (fun h3 => yes (by rw [← hP]; simpa using h3))
    ·rw [if_neg h2] at hP
     refine Ev.ite (fun h2 => ?_) (fun h2 => ?_)
     ·rw [if_pos h2] at hP
      exact Ev.ite (fun h3 => no (by rw [← hP]; simpa using h3)) (fun h3 => yes (by rw [← hP]; simpa using h3))
     ·rw [if_neg h2] at hP
      exact yes hP.symm
   ·rw [if_neg h1] at hP
    exact yes hP.symm
theorem progLang (l : List UInt8) (h : l.length ≤ 1099511627776) : Ev (fun k => safe_language.f k (ba l)) (l.all lang8) := by
 have := progLang_go l [] (by simpa using h)
 unfold safe_language.f
 rw [ba_size']
 exact this
theorem progClean_go : ∀ (q p : List UInt8), p.length + q.length ≤ 1099511627776 →
  Ev (fun k => safe_clean.l0 k (ba (p ++ q)) ((p ++ q).length : Int) (p.length : Int)) (q.all clean8) := by
 intro q
 induction q with
 | nil =>
  intro p h
  refine Ev.step (fun k => by rw [safe_clean.l0]) ?_
  refine Ev.if_neg (by (first | omega | (simp only [ba_size', List.length_append, List.length_cons, List.length_nil]; omega) | (simp; omega) | (simp; done))) ?_
  simpa using Ev.now _
 | cons c q ih =>
  intro p h
  simp only [List.length_cons] at h
  refine Ev.step (fun k => by rw [safe_clean.l0]) ?_
  refine Ev.if_pos (by (first | omega | (simp only [ba_size', List.length_append, List.length_cons, List.length_nil]; omega) | (simp; omega) | (simp; done))) (Ev.if_pos (by omega) (Ev.if_pos (by (first | omega | (simp only [ba_size', List.length_append, List.length_cons, List.length_nil]; omega) | (simp; omega) | (simp; done))) ?_))
  simp only [bt_mid, wrap_nat _ (show p.length < 9223372036854775807 by omega)]
  have hn := ih (p ++ [c]) (by (first | omega | (simp only [ba_size', List.length_append, List.length_cons, List.length_nil]; omega) | (simp; omega) | (simp; done)))
  rw [List.append_assoc, List.singleton_append, show (p ++ [c]).length = p.length + 1 from by simp] at hn
  have yes : clean8 c = true → Ev (fun k => safe_clean.l0 k (ba (p ++ c :: q)) ((p ++ c :: q).length : Int) ((p.length + 1 : Nat) : Int)) ((c :: q).all clean8) := fun e => by
   rw [List.all_cons, e, Bool.true_and]; exact hn
  have no : clean8 c = false → Ev (fun _ => some false) ((c :: q).all clean8) := fun e => by
   rw [List.all_cons, e, Bool.false_and]; exact Ev.now _
  have hP := cleanP_eq c
  have ix : strings_IndexByte.f (⟨#[34, 40, 41, 58, 60, 62, 63, 64, 91, 92, 93, 123, 125, 127]⟩ : ByteArray) (c.toNat : Int) = some (ixC c) := ixB _ c
  unfold cleanP at hP
  simp only [ix, Option.bind_some]
  refine Ev.ite (fun h1 => ?_) (fun h1 => ?_)
  ·rw [if_pos h1] at hP
   refine Ev.ite (fun h2 => ?_) (fun h2 => ?_)
   ·rw [if_pos h2] at hP
    exact Ev.ite (fun h3 => no (by rw [← hP]; simpa using h3)) (fun h3 => yes (by rw [← hP]; simpa using h3))
   ·rw [if_neg h2] at hP
    exact no hP.symm
  ·rw [if_neg h1] at hP
   exact Ev.ite (fun h3 => no (by rw [← hP]; simpa using h3)) (fun h3 => yes (by rw [← hP]; simpa using h3))
theorem progClean (l : List UInt8) (h : l.length ≤ 1099511627776) : Ev (fun k => safe_clean.f k (ba l)) (l.all clean8) := by
 have := progClean_go l [] (by simpa using h)
 unfold safe_clean.f
 rw [ba_size']
 exact this
def sort8 (l : List UInt8) : Bool := decide ((trim8 (l.takeWhile (· != 59))).map low8 ∈ [tPLAIN, tMULTI, tFORM])
theorem takeWhile_length (p : UInt8 → Bool) (l : List UInt8) : (l.takeWhile p).length ≤ l.length := (List.takeWhile_sublist _).length_le
theorem progSort (l : List UInt8) (h : l.length ≤ 1099511627) : safe_sort.f (ba l) = some (sort8 l) := by
 have ht := takeWhile_length (· != 59) l
 have h2 := trim8_length (l.takeWhile (· != 59))
 unfold safe_sort.f sort8
 rw [show (⟨#[59]⟩ : ByteArray) = ba [59] from rfl, progCut l [59] h, Option.bind_some, cut1]
 simp only
 rw [progTrim _ (by omega), Option.bind_some, progLower _ (by omega), Option.bind_some, ba_list]
 repeat' split
 all_goals simp_all
def header8 (n v : List UInt8) : Bool := decide (v.length ≤ 128) && (if n.map low8 = hAL ∨ n.map low8 = hCL then v.all lang8 else if n.map low8 = hCT then sort8 v && v.all clean8 else if n.map low8 = hAC then v.all clean8 else false)
theorem progHeader (n v : List UInt8) (hn : n.length ≤ 1099511627) (hv : v.length ≤ 1099511627) : Ev (fun k => safe_Header.f k (ba n) (ba v)) (header8 n v) := by
 unfold safe_Header.f header8
 rw [ba_size', progLower n (by omega)]
 refine Ev.ite (fun h => ?_) (fun h => ?_)
 ·rw [decide_eq_false (by omega), Bool.false_and]; exact Ev.now _
 ·rw [decide_eq_true (by omega), Bool.true_and]
  simp only [Option.bind_some, ba_list]
  refine Ev.ite (fun h1 => ?_) (fun h1 => ?_)
  ·rw [if_pos (.inl h1)]
   refine Ev.step (fun k => by rw [safe_Header.j0]) ?_
   exact Ev.if_pos (by simpa using h1) (Ev.bind (progLang v (by omega)) (Ev.now _))
  ·refine Ev.step (fun k => by rw [safe_Header.j0]) ?_
   refine Ev.ite (fun h2 => ?_) (fun h2 => ?_)
   ·rw [if_pos (.inr (by simpa using h2))]
    exact Ev.bind (progLang v (by omega)) (Ev.now _)
   ·rw [if_neg (fun h => h.elim h1 (fun h => h2 (by simpa using h)))]
    rw [ba_list]
    refine Ev.ite (fun h3 => ?_) (fun h3 => ?_)
    ·rw [if_pos h3]
     refine Ev.some_bind (fun _ => progSort v hv) (Ev.ite (fun h4 => ?_) (fun h4 => ?_))
     ·rw [h4, Bool.true_and]; exact Ev.bind (progClean v (by omega)) (Ev.now _)
     ·rw [show sort8 v = false from by simpa using h4, Bool.false_and]; exact Ev.now _
    ·rw [if_neg h3]
     refine Ev.ite (fun h4 => ?_) (fun h4 => ?_)
     ·rw [if_pos h4]; exact Ev.bind (progClean v (by omega)) (Ev.now _)
     ·rw [if_neg h4]; exact Ev.now _
end Go.Proofs.YtfibkgmbgdaeoaaGreatDoor.Hand
