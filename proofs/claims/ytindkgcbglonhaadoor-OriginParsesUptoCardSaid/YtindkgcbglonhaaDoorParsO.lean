/- The round trip of URLs: a URL that may be comes back of its text; what a text gives may be, and its text is no longer by more than one byte. No condition. -/
import Derived.Test.YtindkgcbglonhaaDoorUrlS
import Derived.Test.YtindkgcbglonhaaDoorFT1
import Derived.Test.YtindkgcbglonhaaDoorOpen
import Derived.Test.YtindkgcbglonhaaDoorK
import Derived.KernelRfl
import Derived.Test.YtindkgcbglonhaaDoorFV3
import Derived.Test.YtindkgcbglonhaaDoorFY2
namespace Go.Proofs.YtindkgcbglonhaaDoor.Hand
open Go.RowKit Go.Proofs.YtindkgcbglonhaaDoorW.PrintWords Go.Proofs.YtindkgcbglonhaaDoorW.PrintLast Go.Proofs.YtindkgcbglonhaaDoorW.PrintMore
set_option linter.unusedVariables false
set_option linter.unusedSimpArgs false

theorem def8_sc {sc : List UInt8} (h : def8 sc ≠ 0) : sc = [104, 116, 116, 112] ∨ sc = [104, 116, 116, 112, 115] := by
 unfold def8 at h
 split at h
 ·exact .inl ‹_›
 ·split at h
  ·exact .inr ‹_›
  ·exact absurd rfl h
structure U8.Good (u : U8) : Prop where
 sc : def8 u.sc ≠ 0
 po : 0 ≤ u.po ∧ u.po ≤ 65535 ∧ u.po ≠ def8 u.sc
 ho : host8 u.ho = true
 us : u.us.all (ok8 bad0) = true
 pa : u.pa.head? = some 47
 pa1 : u.pa.all (ok8 bad1) = true
 qu : u.qu.all (ok8 bad2) = true
 fr : u.fr.all (ok8 bad3) = true
 hq : u.hq = true ∨ u.qu = []
 hf : u.hf = true ∨ u.fr = []
 usl : u.us.length ≤ 128
 all : u.bare.text.length ≤ 1024
theorem U8.good_iff (u : U8) : u.good = true ↔ u.Good := by
 unfold U8.good
 simp only [Bool.and_eq_true, decide_eq_true_eq]
 constructor
 ·rintro ⟨⟨a1, a2, a3, a4⟩, b, c, d, e, f, g, h, i, j, k⟩
  exact ⟨a1, ⟨a2, a3, a4⟩, b, c, d, e, f, g, h, i, j, k⟩
 ·rintro ⟨a1, ⟨a2, a3, a4⟩, b, c, d, e, f, g, h, i, j, k⟩
  exact ⟨⟨a1, a2, a3, a4⟩, b, c, d, e, f, g, h, i, j, k⟩
def U8.textX (u : U8) (X : List UInt8) : List UInt8 := u.sc ++ [58, 47, 47] ++ (if u.us = [] then [] else u.us ++ [64]) ++ u.ho ++ portT u.po ++ X ++ (if u.hq = true then 63 :: u.qu else []) ++ (if u.hf = true then 35 :: u.fr else [])
theorem isPrefixOf_len {a b : List UInt8} (h : a.isPrefixOf b = true) : a.length ≤ b.length := (List.isPrefixOf_iff_prefix.1 h).length_le
theorem cut_len (d : UInt8) (e : List UInt8) : ∀ l, (Lib.cut l (d :: e)).2.2 = true → l.length = (Lib.cut l (d :: e)).1.length + (e.length + 1) + (Lib.cut l (d :: e)).2.1.length := by
 intro l
 induction l with
 | nil => intro h; rw [cut_nil] at h; cases h
 | cons b l ih =>
  rw [cut_cons]
  by_cases hp : (d :: e).isPrefixOf (b :: l) = true
  ·rw [if_pos hp]
   intro _
   have := isPrefixOf_len hp
   simp only [List.length_drop, List.length_cons, List.length_nil] at *
   omega
  ·rw [if_neg hp]
   intro h
   have := ih h
   simp only [List.length_cons]
   omega
theorem cut_no (d : UInt8) (e : List UInt8) : ∀ l, (Lib.cut l (d :: e)).2.2 = false → (Lib.cut l (d :: e)).1 = l ∧ (Lib.cut l (d :: e)).2.1 = [] := by
 intro l
 unfold Lib.cut
 split
 ·intro h; cases h
 ·intro _; exact ⟨rfl, rfl⟩
theorem port8_len (l : List UInt8) (h : (port8 l).2 = true) : portT (port8 l).1 = 58 :: l ∧ (port8 l).1 ≠ 0 := by
 unfold port8 at h ⊢
 split
 ·rename_i hc
  obtain ⟨a, b, c, d, e⟩ := hc
  obtain ⟨h1, h2⟩ := decDigits_of _ l rfl a b c
  have h0 : ((val8 l : Nat) : Int) ≠ 0 := by omega
  exact ⟨(portT_nat _ h0).trans (by rw [h1]), h0⟩
 ·rename_i hc
  rw [if_neg hc] at h; cases h
theorem hp8_textlen (sc a : List UInt8) (h : (hp8 sc a).1 = true) : (hp8 sc a).2.1.length + (portT (hp8 sc a).2.2).length ≤ a.length := by
 have c1 := cut_len 58 [] a
 have c2 := cut_no 58 [] a
 unfold hp8 at h ⊢
 by_cases c : (Lib.cut a [58]).2.2 = true
 ·rw [if_pos c] at h ⊢
  have hp := port8_len _ h
  have := c1 c
  simp only [List.length_map, List.length_nil] at *
  split
  ·simp [portT]; omega
  ·rw [hp.1]; simp only [List.length_cons]; omega
 ·rw [if_neg c] at h ⊢
  have := c2 (by simpa using c)
  simp only [List.length_map, this.1]
  simp [portT]
theorem lastAt_len2 {a us b : List UInt8} (h : lastAt a = some (us, b)) : us.length + 1 + b.length = a.length := by
 rcases split_last 64 a with hm | ⟨x, y, rfl, hy⟩
 ·rw [lastAt_miss a hm] at h; cases h
 ·rw [lastAt_hit x y hy] at h
  simp only [Option.some.injEq, Prod.mk.injEq] at h
  obtain ⟨rfl, rfl⟩ := h
  simp; omega
def qLen (b : Bool) (d : UInt8) (l : List UInt8) : Nat := (if b = true then d :: l else []).length
def usLen (us : List UInt8) : Nat := if us = [] then 0 else us.length + 1
theorem U8.textLen (u : U8) : u.text.length = u.sc.length + 3 + usLen u.us + u.ho.length + (portT u.po).length + u.pa.length + qLen u.hq 63 u.qu + qLen u.hf 35 u.fr := by
 unfold U8.text usLen qLen
 simp only [List.length_append, List.length_cons, List.length_nil]
 split <;> simp only [List.length_append, List.length_cons, List.length_nil]
theorem auth8_textlen (sc a : List UInt8) (h : (auth8 sc a).1 = true) : usLen (auth8 sc a).2.1 + (auth8 sc a).2.2.1.length + (portT (auth8 sc a).2.2.2).length ≤ a.length := by
 unfold auth8 at h ⊢
 cases hl : lastAt a with
 | none =>
  rw [hl] at h
  simp only at h ⊢
  have := hp8_textlen sc a h
  simp [usLen]; omega
 | some p =>
  obtain ⟨us, b⟩ := p
  rw [hl] at h
  have h2 := lastAt_len2 hl
  simp only at h ⊢
  by_cases c : us = []
  ·rw [if_pos c] at h; cases h
  ·rw [if_neg c] at h ⊢
   have := hp8_textlen sc b h
   simp only [usLen, c, if_false]
   omega
theorem path8_textlen (l : List UInt8) : (path8 l).1.length + (path8 l).2.length ≤ l.length + 1 := by
 rcases split_first 47 l with hm | ⟨x, y, rfl, hy⟩
 ·rw [path8_miss l hm]; simp
 ·rw [path8_hit x y hy]; simp
theorem cut1_textlen (d : UInt8) (l : List UInt8) : (Lib.cut l [d]).1.length + qLen (Lib.cut l [d]).2.2 d (Lib.cut l [d]).2.1 = l.length := by
 unfold qLen
 have c1 := cut_len d [] l
 have c2 := cut_no d [] l
 by_cases c : (Lib.cut l [d]).2.2 = true
 ·rw [if_pos c, c1 c]; simp; omega
 ·rw [if_neg c, (c2 (by simpa using c)).1]; simp
theorem parse8_cases (s : List UInt8) : parse8 s = (U8.none, if s.length > 1161 then 2 else 3) ∨ ((parse8 s).2 = 0 ∧ (parse8 s).1.good = true ∧ (parse8 s).1.text.length ≤ s.length + 1) := by
 have c1 := cut_len 58 [47, 47] s
 unfold parse8
 by_cases h1 : s.length > 1161
 ·rw [if_pos h1, if_pos h1]; exact .inl rfl
 ·rw [if_neg h1, if_neg h1]
  by_cases h2 : (Lib.cut s [58, 47, 47]).2.2 = true
  ·have c1 := c1 h2
   rw [if_pos h2]
   generalize Lib.cut s [58, 47, 47] = x1 at *
   have c2 := cut1_textlen 35 x1.2.1
   generalize Lib.cut x1.2.1 [35] = x2 at *
   have c3 := cut1_textlen 63 x2.1
   generalize Lib.cut x2.1 [63] = x3 at *
   have c4 := path8_textlen x3.1
   generalize path8 x3.1 = x4 at *
   split
   ·exact .inl rfl
   ·split
    ·rename_i h3 h4
     have c5 := auth8_textlen (x1.1.map low8) x4.1 h4.1
     refine .inr ⟨rfl, h4.2, ?_⟩
     rw [U8.textLen]
     simp only [mk8, List.length_map, List.length_cons, List.length_nil] at c1 ⊢
     omega
    ·exact .inl rfl
  ·rw [if_neg h2]; exact .inl rfl
end Go.Proofs.YtindkgcbglonhaaDoor.Hand

/- The URL of a text as the reference computes it: the same as url.Parse. Conditions: at most 2^26 bytes. -/
namespace Go.Proofs.YtindkgcbglonhaaDoor.Hand
open Go.RowKit Go.Proofs.YtindkgcbglonhaaDoorW.PrintWords Go.Proofs.YtindkgcbglonhaaDoorW.PrintLast Go.Proofs.YtindkgcbglonhaaDoorW.PrintMore
set_option linter.unusedVariables false
set_option linter.unusedSimpArgs false

def til (st l : List UInt8) : List UInt8 := l.takeWhile (fun c => !st.contains c)
theorem refUntil_l1 (l : List UInt8) (n : Nat) (c : UInt8) (hc : l[n]? = some c) (hl : l.length ≤ 1099511627776) (r : Int) :
  ∀ (q p : List UInt8), p.length + q.length ≤ 1099511627776 →
  (q.contains c = true → r = (n : Int)) → (q.contains c = false → Ev (fun k => pursuivantref06_until.l0 k (ba l) (ba (p ++ q)) (wrap64 ((n : Int) + 1))) r) →
  Ev (fun k => pursuivantref06_until.l1 k (ba l) (ba (p ++ q)) (n : Int) (p.length : Int)) r := by
 intro q
 obtain ⟨hn, hce⟩ := List.getElem?_eq_some_iff.1 hc
 induction q with
 | nil =>
  intro p h h1 h2
  refine Ev.step (fun k => by rw [pursuivantref06_until.l1]) ?_
  refine Ev.if_neg (by (first | omega | (simp only [ba_size', List.length_append, List.length_cons, List.length_nil]; omega) | (simp; omega) | (simp; done))) ?_
  exact h2 (by simp)
 | cons d q ih =>
  intro p h h1 h2
  simp only [List.length_cons] at h
  refine Ev.step (fun k => by rw [pursuivantref06_until.l1]) ?_
  refine Ev.if_pos (by (first | omega | (simp only [ba_size', List.length_append, List.length_cons, List.length_nil]; omega) | (simp; omega) | (simp; done))) (Ev.if_pos (by omega) (Ev.if_pos (by (first | omega | (simp only [ba_size', List.length_append, List.length_cons, List.length_nil]; omega) | (simp; omega) | (simp; done))) (Ev.if_pos (by omega) ?_)))
  have hb : bt (ba l) (n : Int) = (c.toNat : Int) := by rw [bt_ba, List.getD_eq_getElem?_getD, hc]; rfl
  rw [hb, bt_mid, wrap_nat _ (show p.length < 9223372036854775807 by omega)]
  refine Ev.ite (fun e => ?_) (fun e => ?_)
  ·have : c = d := UInt8.toNat_inj.1 (by omega)
   rw [h1 (by simp [this])]; exact Ev.now _
  ·have hcd : (c == d) = false := by simpa using fun f : c = d => e (by rw [f])
   have hcc : (d :: q).contains c = q.contains c := by rw [List.contains_cons, hcd, Bool.false_or]
   have hn := ih (p ++ [d]) (by (first | omega | (simp only [ba_size', List.length_append, List.length_cons, List.length_nil]; omega) | (simp; omega) | (simp; done))) (fun g => h1 (by rw [hcc, g])) (fun g => by rw [List.append_assoc]; exact h2 (by rw [hcc, g]))
   rw [List.append_assoc, List.singleton_append, show (p ++ [d]).length = p.length + 1 from by simp] at hn
   exact hn
theorem refUntil_go (st : List UInt8) (hs : st.length ≤ 1099511627776) : ∀ (q p : List UInt8), p.length + q.length ≤ 1099511627776 →
  Ev (fun k => pursuivantref06_until.l0 k (ba (p ++ q)) (ba st) (p.length : Int)) ((p.length + (til st q).length : Nat) : Int) := by
 intro q
 induction q with
 | nil =>
  intro p h
  refine Ev.step (fun k => by rw [pursuivantref06_until.l0]) ?_
  refine Ev.if_neg (by (first | omega | (simp only [ba_size', List.length_append, List.length_cons, List.length_nil]; omega) | (simp; omega) | (simp; done))) ?_
  simpa [til] using Ev.now _
 | cons c q ih =>
  intro p h
  simp only [List.length_cons] at h
  refine Ev.step (fun k => by rw [pursuivantref06_until.l0]) ?_
  refine Ev.if_pos (by (first | omega | (simp only [ba_size', List.length_append, List.length_cons, List.length_nil]; omega) | (simp; omega) | (simp; done))) ?_
  refine refUntil_l1 (p ++ c :: q) p.length c (by simp) (by (first | omega | (simp only [ba_size', List.length_append, List.length_cons, List.length_nil]; omega) | (simp; omega) | (simp; done))) _ st [] (by (first | omega | (simp only [ba_size', List.length_append, List.length_cons, List.length_nil]; omega) | (simp; omega) | (simp; done))) (fun g => ?_) (fun g => ?_)
  ·unfold til
   rw [List.takeWhile_cons, g]; simp
  ·rw [List.nil_append, wrap_nat _ (show p.length < 9223372036854775807 by omega)]
   have hn := ih (p ++ [c]) (by (first | omega | (simp only [ba_size', List.length_append, List.length_cons, List.length_nil]; omega) | (simp; omega) | (simp; done)))
   rw [List.append_assoc, List.singleton_append, show (p ++ [c]).length = p.length + 1 from by simp] at hn
   have : (til st (c :: q)).length = 1 + (til st q).length := by
    unfold til
    rw [List.takeWhile_cons, g]; simp; omega
   rw [this, ← Nat.add_assoc]
   exact hn
theorem refUntil (l st : List UInt8) (h : l.length ≤ 1099511627776) (hs : st.length ≤ 1099511627776) : Ev (fun k => pursuivantref06_until.f k (ba l) (ba st)) ((til st l).length : Int) := by
 have := refUntil_go st hs l [] (by simpa using h)
 unfold pursuivantref06_until.f
 simpa using this
def aft (st l : List UInt8) : List UInt8 := l.dropWhile (fun c => !st.contains c)
theorem til_aft (st l : List UInt8) : til st l ++ aft st l = l := List.takeWhile_append_dropWhile
theorem take_til (st l : List UInt8) : l.take (til st l).length = til st l := by
 have h : (til st l ++ aft st l).take (til st l).length = til st l := List.take_left
 rwa [til_aft] at h
theorem drop_til (st l : List UInt8) : l.drop (til st l).length = aft st l := by
 have h : (til st l ++ aft st l).drop (til st l).length = aft st l := List.drop_left
 rwa [til_aft] at h
theorem til_len (st l : List UInt8) : (til st l).length + (aft st l).length = l.length := by
 rw [← List.length_append, til_aft]
theorem til_app (st a b : List UInt8) (ha : ∀ x ∈ a, st.contains x = false) (hb : b = [] ∨ ∃ c r, b = c :: r ∧ st.contains c = true) : til st (a ++ b) = a ∧ aft st (a ++ b) = b := by
 have h1 : ∀ x ∈ a, (!st.contains x) = true := fun x hx => by rw [ha x hx]; rfl
 unfold til aft
 rw [List.takeWhile_append_of_pos h1, List.dropWhile_append_of_pos h1]
 rcases hb with rfl | ⟨c, r, rfl, hc⟩
 ·simp
 ·rw [List.takeWhile_cons, List.dropWhile_cons, hc]; simp
theorem ba_take_til (st l : List UInt8) : (ba l).extract 0 (til st l).length = ba (til st l) := by rw [ba_extract, List.drop_zero, Nat.sub_zero, take_til]
theorem ba_drop_til (st l : List UInt8) : (ba l).extract (til st l).length (ba l).size = ba (aft st l) := by
 rw [ba_extract, ba_size', drop_til]
 have := til_len st l
 rw [List.take_of_length_le (by omega)]
theorem ba_drop (l : List UInt8) (n : Nat) : (ba l).extract n (ba l).size = ba (l.drop n) := by
 rw [ba_extract, ba_size', List.take_of_length_le (by simp)]
abbrev e0_ : ByteArray := ⟨#[]⟩
def finU (u : U8) : U8 × Int := if u.good = true then (u, 0) else (U8.none, 3)
def tailF (x : List UInt8) (u : U8) : U8 := if x = [] then u else { u with hf := true, fr := x.tail }
theorem sp6 (x : List UInt8) (u : U8) (hu : u.Small) (hx : x.length ≤ 1099511627) :
  Ev (fun k => pursuivantref06_Parse.j6 k (ba x) e0_ e0_ e0_ 0 e0_ false e0_ false e0_ (ba u.sc) (ba u.us) (ba u.ho) u.po (ba u.pa) u.hq (ba u.qu) u.hf (ba u.fr)) (U8.tup (finU (tailF x u))) := by
 refine Ev.step (fun k => by rw [pursuivantref06_Parse.j6]) ?_
 rw [ba_list]
 unfold tailF finU
 refine Ev.ite (fun c => ?_) (fun c => ?_)
 ·rw [if_pos c]
  refine Ev.bind (refGoodU u hu) (Ev.ite (fun d => ?_) (fun d => ?_))
  ·rw [if_pos d]; exact Ev.now _
  ·rw [if_neg d]; exact Ev.now _
 ·rw [if_neg c]
  have hl : 1 ≤ x.length := by
   cases x with
   | nil => exact absurd rfl c
   | cons a b => simp
  have e : (ba x).extract 1 (ba x).size = ba x.tail := by rw [ba_drop]; simp
  refine Ev.if_pos (by (first | omega | (simp only [ba_size', List.length_append, List.length_cons, List.length_nil]; omega) | (simp; omega) | (simp; done))) ?_
  rw [e]
  have hu2 : ({ u with hf := true, fr := x.tail } : U8).Small := ⟨hu.sc, hu.us, hu.ho, hu.pa, hu.qu, by simp; omega⟩
  refine Ev.bind (refGoodU { u with hf := true, fr := x.tail } hu2) (Ev.ite (fun d => ?_) (fun d => ?_))
  ·rw [if_pos d]; exact Ev.now _
  ·rw [if_neg d]; exact Ev.now _
def tailQ (x : List UInt8) (u : U8) : U8 := if x.head? = some 63 then tailF (aft [35] x) { u with hq := true, qu := (til [35] x).tail } else tailF x u
theorem sp5f (x : List UInt8) (u : U8) (hu : u.Small) (hx : x.length ≤ 1099511627) :
  Ev (fun k => pursuivantref06_Parse.j5 k (ba x) false e0_ e0_ e0_ 0 e0_ false e0_ false e0_ (ba u.sc) (ba u.us) (ba u.ho) u.po (ba u.pa) u.hq (ba u.qu) u.hf (ba u.fr)) (U8.tup (finU (tailF x u))) := by
 refine Ev.step (fun k => by rw [pursuivantref06_Parse.j5]) ?_
 exact Ev.if_neg (by simp) (sp6 x u hu hx)
theorem sp4 (x : List UInt8) (u : U8) (hu : u.Small) (hx : x.length ≤ 1099511627) :
  Ev (fun k => pursuivantref06_Parse.j4 k (ba x) e0_ e0_ e0_ 0 e0_ false e0_ false e0_ (ba u.sc) (ba u.us) (ba u.ho) u.po (ba u.pa) u.hq (ba u.qu) u.hf (ba u.fr)) (U8.tup (finU (tailQ x u))) := by
 refine Ev.step (fun k => by rw [pursuivantref06_Parse.j4]) ?_
 rw [ba_list]
 unfold tailQ
 refine Ev.ite (fun c => ?_) (fun c => ?_)
 ·subst c
  rw [if_neg (by simp)]
  exact sp5f [] u hu hx
 ·obtain ⟨d, r, rfl⟩ : ∃ d r, x = d :: r := List.exists_cons_of_ne_nil c
  refine Ev.if_pos (by (first | omega | (simp only [ba_size', List.length_append, List.length_cons, List.length_nil]; omega) | (simp; omega) | (simp; done))) ?_
  rw [bt_zero]
  by_cases h : d = 63
  ·subst h
   rw [if_pos (show (63 :: r : List UInt8).head? = some 63 from rfl)]
   refine Ev.step (fun k => by rw [pursuivantref06_Parse.j5]) ?_
   refine Ev.if_pos rfl (Ev.bind (refUntil (63 :: r) [35] (by omega) (by decide)) ?_)
   have ht : til [35] (63 :: r) = 63 :: til [35] r := by unfold til; rw [List.takeWhile_cons]; rfl
   have hl := til_len [35] (63 :: r)
   have h1 : 1 ≤ (til [35] (63 :: r)).length := by rw [ht]; simp
   have e : (ba (63 :: r)).extract 1 (til [35] (63 :: r)).length = ba (til [35] (63 :: r)).tail := by
    rw [ba_extract]
    congr 1
    have := take_til [35] (63 :: r)
    rw [ht] at this ⊢
    simp only [List.length_cons, List.take_succ_cons, List.cons.injEq, true_and] at this
    simpa using this
   refine Ev.if_pos (by omega) (Ev.if_pos (by rw [ba_size']; omega) (Ev.if_pos (by omega) ?_))
   rw [Int.toNat_natCast, ba_drop_til, e]
   have hu2 : ({ u with hq := true, qu := (til [35] (63 :: r)).tail } : U8).Small := ⟨hu.sc, hu.us, hu.ho, hu.pa, by simp only [List.length_tail]; omega, hu.fr⟩
   exact sp6 (aft [35] (63 :: r)) { u with hq := true, qu := (til [35] (63 :: r)).tail } hu2 (by omega)
  ·rw [if_neg (by simpa using h), show ((d.toNat : Int) == 63) = false from by rw [beq_eq_false_iff_ne]; exact fun e => h ((c_eq d 63 (by omega)).1 e)]
   exact sp5f (d :: r) u hu hx
def tailP (x : List UInt8) (u : U8) : U8 := tailQ (aft [63, 35] x) { u with pa := if til [63, 35] x = [] then [47] else til [63, 35] x }
theorem sp3 (x : List UInt8) (u : U8) (hu : u.Small) (hx : x.length ≤ 1099511627) :
  Ev (fun k => pursuivantref06_Parse.j3 k (ba x) e0_ e0_ e0_ 0 e0_ false e0_ false e0_ (ba u.sc) (ba u.us) (ba u.ho) u.po (ba u.pa) u.hq (ba u.qu) u.hf (ba u.fr)) (U8.tup (finU (tailP x u))) := by
 refine Ev.step (fun k => by rw [pursuivantref06_Parse.j3]) ?_
 have hl := til_len [63, 35] x
 refine Ev.bind (refUntil x [63, 35] (by omega) (by decide)) (Ev.if_pos (by omega) (Ev.if_pos (by (first | omega | (simp only [ba_size', List.length_append, List.length_cons, List.length_nil]; omega) | (simp; omega) | (simp; done))) ?_))
 rw [Int.toNat_natCast, ba_take_til, ba_drop_til, ba_list]
 unfold tailP
 refine Ev.ite (fun c => ?_) (fun c => ?_)
 ·rw [if_pos c]
  exact sp4 (aft [63, 35] x) { u with pa := [47] } ⟨hu.sc, hu.us, hu.ho, by simp, hu.qu, hu.fr⟩ (by omega)
 ·rw [if_neg c]
  exact sp4 (aft [63, 35] x) { u with pa := til [63, 35] x } ⟨hu.sc, hu.us, hu.ho, by simp only; omega, hu.qu, hu.fr⟩ (by omega)
theorem hp8_til (sc a : List UInt8) : hp8 sc a = if (til [58] a).length < a.length then ((port8 (a.drop ((til [58] a).length + 1))).2, (til [58] a).map low8, if (port8 (a.drop ((til [58] a).length + 1))).1 = def8 sc then 0 else (port8 (a.drop ((til [58] a).length + 1))).1) else (true, (til [58] a).map low8, 0) := by
 unfold hp8
 rcases split_first 58 a with hm | ⟨x, y, rfl, hx⟩
 ·have h := til_app [58] a [] (fun x hx => by simpa using fun e : x = 58 => hm (e ▸ hx)) (.inl rfl)
  rw [List.append_nil] at h
  rw [cut1_miss 58 a hm, h.1, if_neg (by simp), if_neg (by simp)]
 ·have h := til_app [58] x (58 :: y) (fun z hz => by simpa using fun e : z = 58 => hx (e ▸ hz)) (.inr ⟨58, y, rfl, rfl⟩)
  have e : (x ++ 58 :: y).drop (x.length + 1) = y := by rw [show x ++ 58 :: y = (x ++ [58]) ++ y from by simp]; exact List.drop_left' (by simp)
  have hlt : x.length < (x ++ 58 :: y).length := by simp
  rw [cut1_hit 58 x y hx, h.1, e, if_pos hlt]
  exact if_pos rfl
def hostU (a x : List UInt8) (u : U8) : U8 × Int := if (hp8 u.sc a).1 = true then finU (tailP x { u with ho := (hp8 u.sc a).2.1, po := (hp8 u.sc a).2.2 }) else (U8.none, 3)
theorem sp2 (a x : List UInt8) (u : U8) (hu : u.Small) (ha : a.length ≤ 1099511627) (hx : x.length ≤ 1099511627) (h0 : u.po = 0) :
  Ev (fun k => pursuivantref06_Parse.j2 k (ba a) (ba x) e0_ e0_ e0_ 0 e0_ false e0_ false e0_ (ba u.sc) (ba u.us) (ba u.ho) u.po (ba u.pa) u.hq (ba u.qu) u.hf (ba u.fr)) (U8.tup (hostU a x u)) := by
 refine Ev.step (fun k => by rw [pursuivantref06_Parse.j2]) ?_
 have hl := til_len [58] a
 refine Ev.bind (refUntil a [58] (by omega) (by decide)) (Ev.if_pos (by omega) (Ev.if_pos (by (first | omega | (simp only [ba_size', List.length_append, List.length_cons, List.length_nil]; omega) | (simp; omega) | (simp; done))) ?_))
 rw [Int.toNat_natCast, ba_take_til]
 refine Ev.bind (refLowerE (til [58] a) (by omega)) ?_
 unfold hostU
 rw [hp8_til]
 have hs : ∀ po, ({ u with ho := (til [58] a).map low8, po := po } : U8).Small := fun po => ⟨hu.sc, hu.us, by simp; omega, hu.pa, hu.qu, hu.fr⟩
 refine Ev.ite (fun c => ?_) (fun c => ?_)
 ·rw [ba_size'] at c
  have hlt : (til [58] a).length < a.length := by omega
  rw [if_pos hlt]
  refine Ev.if_pos (by rw [wrap_nat _ (by omega)]; omega) (Ev.if_pos (by rw [ba_size', wrap_nat _ (by omega)]; omega) ?_)
  rw [wrap_nat _ (by omega), Int.toNat_natCast, ba_drop]
  refine Ev.bind (refPort (a.drop ((til [58] a).length + 1)) (by simp; omega)) (Ev.ite (fun d => ?_) (fun d => ?_))
  ·rw [if_pos d]
   refine Ev.some_bind (fun _ => refDef _) (Ev.ite (fun e => ?_) (fun e => ?_))
   ·rw [if_pos e, h0]
    exact sp3 x { u with ho := (til [58] a).map low8, po := 0 } (hs 0) hx
   ·rw [if_neg e]
    exact sp3 x { u with ho := (til [58] a).map low8, po := (port8 (a.drop ((til [58] a).length + 1))).1 } (hs _) hx
  ·rw [if_neg d]; exact Ev.now _
 ·rw [ba_size'] at c
  have hlt : ¬(til [58] a).length < a.length := by omega
  rw [if_neg hlt, if_pos (show (true, (til [58] a).map low8, (0 : Int)).1 = true from rfl), h0]
  exact sp3 x { u with ho := (til [58] a).map low8, po := 0 } (hs 0) hx
def userU (a x : List UInt8) (u : U8) : U8 × Int :=
 match lastAt a with
 | some (us, b) => if us = [] then (U8.none, 3) else hostU b x { u with us := us }
 | .none => hostU a x u
theorem spl0 (a x : List UInt8) (u : U8) (hu : u.Small) (ha : a.length ≤ 1099511627) (hx : x.length ≤ 1099511627) (h0 : u.po = 0) : ∀ n, n ≤ a.length → 64 ∉ a.drop n →
  Ev (fun k => pursuivantref06_Parse.l0 k (ba a) (ba x) (wrap64 ((n : Int) - 1)) e0_ e0_ e0_ 0 e0_ false e0_ false e0_ (ba u.sc) (ba u.us) (ba u.ho) u.po (ba u.pa) u.hq (ba u.qu) u.hf (ba u.fr)) (U8.tup (userU a x u)) := by
 intro n
 induction n with
 | zero =>
  intro hn hd
  refine Ev.step (fun k => by rw [pursuivantref06_Parse.l0]) ?_
  rw [List.drop_zero] at hd
  unfold userU
  rw [lastAt_miss a hd]
  exact Ev.if_neg (by rw [wrap_ok _ (by omega) (by omega)]; omega) (sp2 a x u hu ha hx h0)
 | succ n ih =>
  intro hn hd
  have e1 : wrap64 (((n + 1 : Nat) : Int) - 1) = (n : Int) := by rw [wrap_ok _ (by omega) (by omega)]; omega
  rw [e1]
  have hsp : a = a.take n ++ a[n] :: a.drop (n + 1) := by rw [List.getElem_cons_drop, List.take_append_drop]
  have hlt : (a.take n).length = n := by simp; omega
  refine Ev.step (fun k => by rw [pursuivantref06_Parse.l0]) ?_
  refine Ev.if_pos (by omega) (Ev.if_pos (by omega) (Ev.if_pos (by (first | omega | (simp only [ba_size', List.length_append, List.length_cons, List.length_nil]; omega) | (simp; omega) | (simp; done))) ?_))
  have hb : bt (ba a) (n : Int) = ((a[n]).toNat : Int) := by
   rw [bt_ba, List.getD_eq_getElem?_getD, List.getElem?_eq_getElem (by omega)]; rfl
  rw [hb]
  refine Ev.ite (fun c => ?_) (fun c => ?_)
  ·have hc : a[n] = 64 := (c_eq a[n] 64 (by omega)).1 c
   refine Ev.if_pos (by (first | omega | (simp only [ba_size', List.length_append, List.length_cons, List.length_nil]; omega) | (simp; omega) | (simp; done))) ?_
   have hla : lastAt a = some (a.take n, a.drop (n + 1)) := by
    conv => lhs; rw [hsp, hc]
    exact lastAt_hit _ _ hd
   unfold userU
   rw [hla]
   simp only
   rw [Int.toNat_natCast, show (ba a).extract 0 n = ba (a.take n) from by rw [ba_extract]; simp, ba_list]
   refine Ev.ite (fun d => ?_) (fun d => ?_)
   ·rw [if_pos d]; exact Ev.now _
   ·rw [if_neg d, wrap_nat _ (by omega)]
    refine Ev.if_pos (by omega) (Ev.if_pos (by (first | omega | (simp only [ba_size', List.length_append, List.length_cons, List.length_nil]; omega) | (simp; omega) | (simp; done))) ?_)
    rw [Int.toNat_natCast, ba_drop]
    exact sp2 (a.drop (n + 1)) x { u with us := a.take n } ⟨hu.sc, by simp; omega, hu.ho, hu.pa, hu.qu, hu.fr⟩ (by simp; omega) hx h0
  ·refine ih (by omega) ?_
   rw [show a.drop n = a[n] :: a.drop (n + 1) from (List.getElem_cons_drop (by omega)).symm]
   intro h
   rcases List.mem_cons.1 h with h | h
   ·exact c (by rw [← h]; rfl)
   ·exact hd h
theorem split3 (r : List UInt8) : ∃ au P Q F : List UInt8, r = au ++ P ++ Q ++ F ∧ (P = [] ∨ ∃ p, P = 47 :: p) ∧ (Q = [] ∨ ∃ q, Q = 63 :: q) ∧ (F = [] ∨ ∃ f, F = 35 :: f) ∧ 35 ∉ au ++ P ++ Q ∧ 63 ∉ au ++ P ∧ 47 ∉ au := by
 have h1 : ∃ r1 F, r = r1 ++ F ∧ (F = [] ∨ ∃ f, F = (35 : UInt8) :: f) ∧ 35 ∉ r1 := by
  rcases split_first 35 r with h | ⟨a, b, h, ha⟩
  ·exact ⟨r, [], by simp, .inl rfl, h⟩
  ·exact ⟨a, 35 :: b, h, .inr ⟨b, rfl⟩, ha⟩
 obtain ⟨r1, F, rfl, hF, h35⟩ := h1
 have h2 : ∃ r2 Q, r1 = r2 ++ Q ∧ (Q = [] ∨ ∃ q, Q = (63 : UInt8) :: q) ∧ 63 ∉ r2 := by
  rcases split_first 63 r1 with h | ⟨a, b, h, ha⟩
  ·exact ⟨r1, [], by simp, .inl rfl, h⟩
  ·exact ⟨a, 63 :: b, h, .inr ⟨b, rfl⟩, ha⟩
 obtain ⟨r2, Q, rfl, hQ, h63⟩ := h2
 have h3 : ∃ au P, r2 = au ++ P ∧ (P = [] ∨ ∃ p, P = (47 : UInt8) :: p) ∧ 47 ∉ au := by
  rcases split_first 47 r2 with h | ⟨a, b, h, ha⟩
  ·exact ⟨r2, [], by simp, .inl rfl, h⟩
  ·exact ⟨a, 47 :: b, h, .inr ⟨b, rfl⟩, ha⟩
 obtain ⟨au, P, rfl, hP, h47⟩ := h3
 exact ⟨au, P, Q, F, rfl, hP, hQ, hF, h35, h63, h47⟩
def parts8 (sc r : List UInt8) : U8 × Int :=
 if (auth8 sc (path8 (Lib.cut (Lib.cut r [35]).1 [63]).1).1).1 = true ∧
  (mk8 sc (auth8 sc (path8 (Lib.cut (Lib.cut r [35]).1 [63]).1).1) (path8 (Lib.cut (Lib.cut r [35]).1 [63]).1).2 (Lib.cut r [35]) (Lib.cut (Lib.cut r [35]).1 [63])).good = true
 then (mk8 sc (auth8 sc (path8 (Lib.cut (Lib.cut r [35]).1 [63]).1).1) (path8 (Lib.cut (Lib.cut r [35]).1 [63]).1).2 (Lib.cut r [35]) (Lib.cut (Lib.cut r [35]).1 [63]), 0) else (U8.none, 3)
def bare8 (sc : List UInt8) : U8 := ⟨sc, [], [], 0, [], false, [], false, []⟩
theorem not_st {st l : List UInt8} (h : ∀ d ∈ st, d ∉ l) : ∀ x ∈ l, st.contains x = false := by
 intro x hx
 rw [Bool.eq_false_iff]
 intro hc
 exact h x (by simpa using hc) hx
theorem parts_same (sc r : List UInt8) : parts8 sc r = userU (til [47, 63, 35] r) (aft [47, 63, 35] r) (bare8 sc) := by
 obtain ⟨au, P, Q, F, rfl, hP, hQ, hF, h35, h63, h47⟩ := split3 r
 have n35 : 35 ∉ au ∧ 35 ∉ P ∧ 35 ∉ Q := by simpa [List.mem_append, not_or, and_assoc] using h35
 have n63 : 63 ∉ au ∧ 63 ∉ P := by simpa [List.mem_append, not_or] using h63
 -- the reference's pieces
 have t1 := til_app [47, 63, 35] au (P ++ Q ++ F) (not_st (by
  intro d hd
  simp only [List.mem_cons, List.not_mem_nil, or_false] at hd
  rcases hd with rfl | rfl | rfl
  ·exact h47
  ·exact n63.1
  ·exact n35.1)) (by
  rcases hP with rfl | ⟨p, rfl⟩
  ·rcases hQ with rfl | ⟨q, rfl⟩
   ·rcases hF with rfl | ⟨f, rfl⟩
    ·exact .inl rfl
    ·exact .inr ⟨35, f, rfl, rfl⟩
   ·exact .inr ⟨63, q ++ F, rfl, rfl⟩
  ·exact .inr ⟨47, p ++ Q ++ F, by simp, rfl⟩)
 have t2 := til_app [63, 35] P (Q ++ F) (not_st (by
  intro d hd
  simp only [List.mem_cons, List.not_mem_nil, or_false] at hd
  rcases hd with rfl | rfl
  ·exact n63.2
  ·exact n35.2.1)) (by
  rcases hQ with rfl | ⟨q, rfl⟩
  ·rcases hF with rfl | ⟨f, rfl⟩
   ·exact .inl rfl
   ·exact .inr ⟨35, f, rfl, rfl⟩
  ·exact .inr ⟨63, q ++ F, rfl, rfl⟩)
 have t3 := til_app [35] Q F (not_st (by
  intro d hd
  simp only [List.mem_cons, List.not_mem_nil, or_false] at hd
  rw [hd]; exact n35.2.2)) (by
  rcases hF with rfl | ⟨f, rfl⟩
  ·exact .inl rfl
  ·exact .inr ⟨35, f, rfl, rfl⟩)
 have e1 : au ++ P ++ Q ++ F = au ++ (P ++ Q ++ F) := by simp
 have e2 : P ++ Q ++ F = P ++ (Q ++ F) := by simp
 rw [e1, t1.1, t1.2, ← e1]
 -- url.Parse's pieces
 have c2 : Lib.cut (au ++ P ++ Q ++ F) [35] = (au ++ P ++ Q, F.tail, decide (F ≠ [])) := by
  rcases hF with rfl | ⟨f, rfl⟩
  ·rw [List.append_nil, cut1_miss 35 _ h35]; rfl
  ·rw [cut1_hit 35 _ f h35]; rfl
 have c3 : Lib.cut (au ++ P ++ Q) [63] = (au ++ P, Q.tail, decide (Q ≠ [])) := by
  rcases hQ with rfl | ⟨q, rfl⟩
  ·rw [List.append_nil, cut1_miss 63 _ h63]; rfl
  ·rw [cut1_hit 63 _ q h63]; rfl
 have c4 : path8 (au ++ P) = (au, if P = [] then [47] else P) := by
  rcases hP with rfl | ⟨p, rfl⟩
  ·rw [List.append_nil, path8_miss au h47]; rfl
  ·rw [path8_hit au p h47]; rfl
 unfold parts8
 rw [c2]
 simp only
 rw [c3]
 simp only
 rw [c4]
 simp only
 -- the tail
 have tail : ∀ (us ho : List UInt8) (po : Int), tailP (P ++ Q ++ F) ⟨sc, us, ho, po, [], false, [], false, []⟩ = mk8 sc (true, us, ho, po) (if P = [] then [47] else P) (au ++ P ++ Q, F.tail, decide (F ≠ [])) (au ++ P, Q.tail, decide (Q ≠ [])) := by
  intro us ho po
  unfold tailP
  rw [e2, t2.1, t2.2]
  unfold tailQ
  rcases hQ with rfl | ⟨q, rfl⟩
  ·rw [List.nil_append, if_neg (by rcases hF with rfl | ⟨f, rfl⟩ <;> simp)]
   unfold tailF
   rcases hF with rfl | ⟨f, rfl⟩ <;> rfl
  ·rw [if_pos (by rfl), t3.1, t3.2]
   unfold tailF
   rcases hF with rfl | ⟨f, rfl⟩ <;> rfl
 have host : ∀ (us a : List UInt8), hostU a (P ++ Q ++ F) ⟨sc, us, [], 0, [], false, [], false, []⟩ = if (hp8 sc a).1 = true ∧ (mk8 sc ((hp8 sc a).1, us, (hp8 sc a).2) (if P = [] then [47] else P) (au ++ P ++ Q, F.tail, decide (F ≠ [])) (au ++ P, Q.tail, decide (Q ≠ []))).good = true then (mk8 sc ((hp8 sc a).1, us, (hp8 sc a).2) (if P = [] then [47] else P) (au ++ P ++ Q, F.tail, decide (F ≠ [])) (au ++ P, Q.tail, decide (Q ≠ [])), 0) else (U8.none, 3) := by
  intro us a
  unfold hostU
  simp only
  by_cases h : (hp8 sc a).1 = true
  ·rw [if_pos h, tail us (hp8 sc a).2.1 (hp8 sc a).2.2]
   unfold finU
   have e : mk8 sc (true, us, (hp8 sc a).2.1, (hp8 sc a).2.2) (if P = [] then [47] else P) (au ++ P ++ Q, F.tail, decide (F ≠ [])) (au ++ P, Q.tail, decide (Q ≠ [])) = mk8 sc ((hp8 sc a).1, us, (hp8 sc a).2) (if P = [] then [47] else P) (au ++ P ++ Q, F.tail, decide (F ≠ [])) (au ++ P, Q.tail, decide (Q ≠ [])) := rfl
   rw [e]
   generalize mk8 sc ((hp8 sc a).1, us, (hp8 sc a).2) (if P = [] then [47] else P) (au ++ P ++ Q, F.tail, decide (F ≠ [])) (au ++ P, Q.tail, decide (Q ≠ [])) = v
   by_cases g : v.good = true
   ·rw [if_pos g, if_pos ⟨h, g⟩]
   ·rw [if_neg g, if_neg (fun x => g x.2)]
  ·rw [if_neg h, if_neg (fun x => h x.1)]
 unfold userU auth8
 cases hl : lastAt au with
 | none => exact (host [] au).symm
 | some p =>
  obtain ⟨us, b⟩ := p
  simp only
  by_cases c : us = []
  ·rw [if_pos c, if_pos c, if_neg (fun h => by cases h.1)]
  ·rw [if_neg c, if_neg c]; exact (host us b).symm
theorem def8_chars {a : List UInt8} (h : def8 (a.map low8) ≠ 0) : 58 ∉ a := by
 intro hc
 have : low8 58 ∈ a.map low8 := List.mem_map.2 ⟨58, hc, rfl⟩
 rcases def8_sc h with e | e <;> rw [e] at this <;> exact absurd this (by decide)
theorem cutS_hit (r : List UInt8) : ∀ a : List UInt8, 58 ∉ a → Lib.cut (a ++ 58 :: 47 :: 47 :: r) [58, 47, 47] = (a, r, true) := by
 intro a
 induction a with
 | nil => intro _; rw [List.nil_append, cut_cons, if_pos (by simp [List.isPrefixOf])]; rfl
 | cons x a ih =>
  intro h
  have hx : (58 : UInt8) ≠ x := fun e => h (by simp [e])
  rw [List.cons_append, cut_cons, if_neg (by simp [List.isPrefixOf, hx]), ih (fun e => h (by simp [e]))]
theorem cut_true (d : UInt8) (e : List UInt8) : ∀ l, (Lib.cut l (d :: e)).2.2 = true → l = (Lib.cut l (d :: e)).1 ++ (d :: e) ++ (Lib.cut l (d :: e)).2.1 := by
 intro l
 induction l with
 | nil => intro h; rw [cut_nil] at h; cases h
 | cons b l ih =>
  rw [cut_cons]
  by_cases hp : (d :: e).isPrefixOf (b :: l) = true
  ·rw [if_pos hp]
   intro _
   obtain ⟨t, ht⟩ := List.isPrefixOf_iff_prefix.1 hp
   simp only
   rw [← ht, List.drop_left' (by simp)]; rfl
  ·rw [if_neg hp]
   intro h
   have := ih h
   simp only [List.cons_append]
   rw [List.cons.injEq]
   exact ⟨rfl, by simpa using this⟩
theorem scheme_same (s : List UInt8) : (if (Lib.cut s [58, 47, 47]).2.2 = true then (if def8 ((Lib.cut s [58, 47, 47]).1.map low8) = 0 then (U8.none, 3) else parts8 ((Lib.cut s [58, 47, 47]).1.map low8) (Lib.cut s [58, 47, 47]).2.1) else (U8.none, 3))
  = (if (aft [58] s).take 3 = [58, 47, 47] then (if def8 ((til [58] s).map low8) = 0 then (U8.none, 3) else parts8 ((til [58] s).map low8) ((aft [58] s).drop 3)) else (U8.none, 3)) := by
 by_cases h : (aft [58] s).take 3 = [58, 47, 47]
 ·rw [if_pos h]
  have hn : 58 ∉ til [58] s := by
   intro hc
   have := List.all_eq_true.1 (List.all_takeWhile (p := fun c => !([58] : List UInt8).contains c) (l := s)) 58 hc
   exact absurd this (by decide)
  have hs : s = til [58] s ++ 58 :: 47 :: 47 :: (aft [58] s).drop 3 := by
   have e : aft [58] s = [58, 47, 47] ++ (aft [58] s).drop 3 := by rw [← h, List.take_append_drop]
   conv => lhs; rw [← til_aft [58] s, e]
   rfl
  have hc : Lib.cut s [58, 47, 47] = (til [58] s, (aft [58] s).drop 3, true) := by
   conv => lhs; rw [hs]
   exact cutS_hit _ _ hn
  rw [hc]
  exact if_pos rfl
 ·rw [if_neg h]
  by_cases hc : (Lib.cut s [58, 47, 47]).2.2 = true
  ·rw [if_pos hc]
   by_cases hd : def8 ((Lib.cut s [58, 47, 47]).1.map low8) = 0
   ·rw [if_pos hd]
   ·exfalso
    have hs := cut_true 58 [47, 47] s hc
    have hn := def8_chars hd
    generalize (Lib.cut s [58, 47, 47]).1 = a at *
    generalize (Lib.cut s [58, 47, 47]).2.1 = r at *
    have e := til_app [58] a (58 :: 47 :: 47 :: r) (not_st (by intro d hd; rw [List.mem_singleton.1 hd]; exact hn)) (.inr ⟨58, _, rfl, rfl⟩)
    have e2 : a ++ [58, 47, 47] ++ r = a ++ 58 :: 47 :: 47 :: r := by simp
    rw [hs, e2, e.2] at h
    exact h rfl
  ·rw [if_neg hc]
theorem parse8_parts (s : List UInt8) : parse8 s = if s.length > 1161 then (U8.none, 2) else (if (aft [58] s).take 3 = [58, 47, 47] then (if def8 ((til [58] s).map low8) = 0 then (U8.none, 3) else parts8 ((til [58] s).map low8) ((aft [58] s).drop 3)) else (U8.none, 3)) := by
 rw [← scheme_same]
 rfl
theorem refParse (s : List UInt8) (h : s.length ≤ 109951162) : Ev (fun k => pursuivantref06_Parse.f k (ba s)) (U8.tup (parse8 s)) := by
 rw [parse8_parts]
 unfold pursuivantref06_Parse.f
 rw [ba_size']
 have hl := til_len [58] s
 refine Ev.ite (fun c => ?_) (fun c => ?_)
 ·rw [if_pos (by omega)]; exact Ev.now _
 ·rw [if_neg (by omega)]
  refine Ev.bind (refUntil s [58] (by omega) (by decide)) (Ev.if_pos (by omega) (Ev.if_pos (by omega) ?_))
  rw [Int.toNat_natCast, ba_take_til]
  refine Ev.bind (refLowerE (til [58] s) (by omega)) ?_
  have w3 : wrap64 (((til [58] s).length : Int) + 3) = (((til [58] s).length + 3 : Nat) : Int) := by rw [wrap_ok _ (by omega) (by omega)]; omega
  have jt : ∀ (sc : ByteArray), Ev (fun k => pursuivantref06_Parse.j0 k (ba s) ((til [58] s).length : Int) true e0_ e0_ e0_ 0 e0_ false e0_ false e0_ sc e0_ e0_ 0 e0_ false e0_ false e0_) (U8.tup (U8.none, 3)) := by
   intro sc
   refine Ev.step (fun k => by rw [pursuivantref06_Parse.j0]) ?_
   exact Ev.if_pos rfl (Ev.now _)
  rw [w3]
  refine Ev.ite (fun d => ?_) (fun d => ?_)
  ·rw [if_neg (fun e => by
    have := congrArg List.length e
    simp at this
    omega)]
   exact jt _
  ·refine Ev.if_pos (by omega) (Ev.if_pos (by omega) ?_)
   have ex : (ba s).extract (til [58] s).length ((til [58] s).length + 3) = ba ((aft [58] s).take 3) := by
    rw [ba_extract, drop_til, Nat.add_sub_cancel_left]
   rw [Int.toNat_natCast, ex, ba_list]
   refine Ev.ite (fun e => ?_) (fun e => ?_)
   ·rw [if_pos e]
    refine Ev.some_bind (fun _ => refDef _) ?_
    by_cases f : def8 ((til [58] s).map low8) = 0
    ·rw [if_pos f, f]; exact jt _
    ·rw [if_neg f, show (def8 ((til [58] s).map low8) == 0) = false from by simpa using f, parts_same]
     refine Ev.step (fun k => by rw [pursuivantref06_Parse.j0]) ?_
     rw [w3]
     have ed : (ba s).extract ((til [58] s).length + 3) (ba s).size = ba ((aft [58] s).drop 3) := by
      rw [ba_drop, ← drop_til, List.drop_drop]
     have hl2 := til_len [47, 63, 35] ((aft [58] s).drop 3)
     have hl3 : ((aft [58] s).drop 3).length ≤ s.length := by rw [List.length_drop]; omega
     refine Ev.if_neg (by simp) (Ev.if_pos (by omega) (Ev.if_pos (by rw [ba_size']; omega) ?_))
     rw [Int.toNat_natCast, ed]
     refine Ev.bind (refUntil ((aft [58] s).drop 3) [47, 63, 35] (by omega) (by decide)) (Ev.if_pos (by omega) (Ev.if_pos (by rw [ba_size']; omega) ?_))
     rw [Int.toNat_natCast, ba_take_til, ba_drop_til, ba_size']
     have hsc : ((til [58] s).map low8).length ≤ 1099511627 := by rw [List.length_map]; omega
     exact spl0 (til [47, 63, 35] ((aft [58] s).drop 3)) (aft [47, 63, 35] ((aft [58] s).drop 3)) (bare8 ((til [58] s).map low8)) ⟨hsc, by simp [bare8], by simp [bare8], by simp [bare8], by simp [bare8], by simp [bare8]⟩ (by omega) (by omega) rfl _ (Nat.le_refl _) (by simp)
   ·rw [if_neg e]; exact jt _
end Go.Proofs.YtindkgcbglonhaaDoor.Hand

/- How the laws' arguments open: each type's kind, size and well-formedness. No condition. -/
namespace Go.Proofs.YtindkgcbglonhaaDoor.Hand
open Go.RowKit Go.Proofs.YtindkgcbglonhaaDoorW.PrintWords
set_option linter.unusedVariables false
theorem opens9 : Opens Tryd.prog 9 Kd.string (fun s : ByteArray => s.size + 1) (fun _ => True) := Opens.string Tryd.underlying9 (by kernel_rfl)
end Go.Proofs.YtindkgcbglonhaaDoor.Hand

/- The law UrlTexts in plain Lean: the two packages agree on what may be, on its text and its port. Conditions: at most 2^20 bytes of bulk. -/
namespace Go.Proofs.YtindkgcbglonhaaDoor.Hand
open Go.RowKit Go.Proofs.YtindkgcbglonhaaDoorW.PrintWords Go.Proofs.YtindkgcbglonhaaDoorW.PrintLast Go.Proofs.YtindkgcbglonhaaDoorW.PrintMore
set_option linter.unusedVariables false
set_option linter.unusedSimpArgs false

deriving instance DecidableEq for U8
def wake6 : List UInt8 := [72, 84, 84, 80, 58, 47, 47, 109, 101, 64, 65, 46, 101, 120, 97, 109, 112, 108, 101, 58, 56, 48, 63, 120, 35, 121]
def wake6u : U8 := ⟨[104, 116, 116, 112], [109, 101], [97, 46, 101, 120, 97, 109, 112, 108, 101], 0, [47], true, [120], true, [121]⟩
theorem wake6_parse : parse8 wake6 = (wake6u, 0) := by decide +kernel
theorem wake6_ftp : parse8 [102, 116, 112, 58, 47, 47, 97, 47] = (U8.none, 3) := by decide +kernel
theorem wake6_good : wake6u.good = true := by decide +kernel
theorem wake6_text : wake6u.textG = [104, 116, 116, 112, 58, 47, 47, 109, 101, 64, 97, 46, 101, 120, 97, 109, 112, 108, 101, 47, 63, 120, 35, 121] := by decide +kernel
theorem wake6_small : wake6u.Small := ⟨by decide, by decide, by decide, by decide, by decide, by decide⟩
theorem Ev.get' {α : Type} {g : Nat → Option α} {r : α} (h : Ev g r) : ∃ k, g k = some r := by obtain ⟨k, hk⟩ := h; exact ⟨k, hk k (Nat.le_refl k)⟩
theorem awake6 : Ev (fun k => pursuivantlaw06_awake.f k) true := by
 unfold pursuivantlaw06_awake.f
 have h1 := progParse wake6 (by decide)
 rw [wake6_parse] at h1
 have h2 := progParse [102, 116, 112, 58, 47, 47, 97, 47] (by decide)
 rw [wake6_ftp] at h2
 refine Ev.bind h1 (Ev.bind h2 (Ev.if_pos rfl ?_))
 refine Ev.bind (progTextG wake6u wake6_small) ?_
 rw [wake6_text]
 refine Ev.if_pos (by rw [ba_list]) (Ev.some_bind (fun _ => progPortU wake6u) (Ev.if_pos rfl (Ev.if_pos (ba_list _) (Ev.if_pos rfl ?_))))
 refine Ev.bind (progGood wake6u wake6_small) ?_
 rw [wake6_good]
 exact Ev.now _
end Go.Proofs.YtindkgcbglonhaaDoor.Hand

/- The law UrlParses in plain Lean: the package reads texts as the reference does. Conditions: at most 2^20 bytes of bulk. -/
namespace Go.Proofs.YtindkgcbglonhaaDoor.Hand
open Go.RowKit Go.Proofs.YtindkgcbglonhaaDoorW.PrintWords Go.Proofs.YtindkgcbglonhaaDoorW.PrintLast Go.Proofs.YtindkgcbglonhaaDoorW.PrintMore
set_option linter.unusedVariables false
set_option linter.unusedSimpArgs false

end Go.Proofs.YtindkgcbglonhaaDoor.Hand

/- The law UrlRound in plain Lean: text and parse come back of each other. Conditions: at most 2^20 bytes of bulk. -/
namespace Go.Proofs.YtindkgcbglonhaaDoor.Hand
open Go.RowKit Go.Proofs.YtindkgcbglonhaaDoorW.PrintWords Go.Proofs.YtindkgcbglonhaaDoorW.PrintLast Go.Proofs.YtindkgcbglonhaaDoorW.PrintMore
set_option linter.unusedVariables false
set_option linter.unusedSimpArgs false

theorem U8.Good.small {u : U8} (h : u.Good) : u.Small := by
 have h1 := h.all
 have h2 := h.usl
 rw [U8.textLen] at h1
 simp only [U8.bare] at h1
 have hq : u.qu.length ≤ 1024 := by
  rcases h.hq with c | c
  ·rw [c] at h1; simp only [qLen, if_true, List.length_cons] at h1; omega
  ·rw [c]; simp
 have hf : u.fr.length ≤ 1024 := by
  rcases h.hf with c | c
  ·rw [c] at h1; simp only [qLen, if_true, List.length_cons] at h1; omega
  ·rw [c]; simp
 constructor <;> omega
theorem U8.Good.len {u : U8} (h : u.Good) : u.text.length ≤ 1153 := by
 have h1 := h.all
 have h2 := h.usl
 have h3 := bare_length u
 split at h3 <;> omega
theorem U8.Good.port {u : U8} (h : u.Good) : u.port > 0 := by
 have h1 := h.po
 unfold U8.port
 split
 ·rcases def8_sc h.sc with e | e <;> rw [e] <;> decide
 ·omega
theorem U8.textG_good {u : U8} (h : u.good = true) : u.textG = u.text := if_pos h
end Go.Proofs.YtindkgcbglonhaaDoor.Hand

/- Origins over lists of bytes: what the package and the reference compute. Conditions: at most 2^20 bytes of bulk. -/
namespace Go.Proofs.YtindkgcbglonhaaDoor.Hand
open Go.RowKit Go.Proofs.YtindkgcbglonhaaDoorW.PrintWords Go.Proofs.YtindkgcbglonhaaDoorW.PrintLast Go.Proofs.YtindkgcbglonhaaDoorW.PrintMore
set_option linter.unusedVariables false
set_option linter.unusedSimpArgs false

structure O8 where
 (sc ho : List UInt8) (po : Int)
deriving DecidableEq
def O8.nob (o : O8) : Bool := decide (o.sc = [] ∧ o.ho = [] ∧ o.po = 0)
def O8.bare (o : O8) : U8 := ⟨o.sc, [], o.ho, if o.po = def8 o.sc then 0 else o.po, [47], false, [], false, []⟩
def O8.one (o : O8) : Bool := decide (def8 o.sc ≠ 0 ∧ 0 < o.po ∧ o.po ≤ 65535) && host8 o.ho
def O8.good (o : O8) : Bool := o.nob || o.one
def O8.long (o : O8) : List UInt8 := o.bare.textX []
def null8 : List UInt8 := [110, 117, 108, 108]
def O8.text (o : O8) : List UInt8 := if o.nob = true then null8 else if o.one = true then o.long else []
structure O8.Small (o : O8) : Prop where
 sc : o.sc.length ≤ 1099511627
 ho : o.ho.length ≤ 1099511627
 po : -9223372036854775808 ≤ o.po ∧ o.po ≤ 9223372036854775807
theorem nob_ba (o : O8) : nobody (ba o.sc) (ba o.ho) o.po = o.nob := by
 unfold nobody O8.nob
 have e : (⟨#[]⟩ : ByteArray) = ba [] := rfl
 rw [e, Bool.eq_iff_iff, decide_eq_true_iff, decide_eq_true_iff]
 constructor
 ·rintro ⟨h1, h2, h3⟩; exact ⟨ba_inj h1, ba_inj h2, h3⟩
 ·rintro ⟨h1, h2, h3⟩; exact ⟨by rw [h1], by rw [h2], h3⟩
theorem O8.bare_small {o : O8} (h : o.Small) : o.bare.Small := ⟨h.sc, by simp [O8.bare], h.ho, by simp [O8.bare], by simp [O8.bare], by simp [O8.bare]⟩
theorem def8_nat (l : List UInt8) : def8 l = 0 ∨ def8 l = 80 ∨ def8 l = 443 := by
 unfold def8
 split
 ·exact .inr (.inl rfl)
 ·split
  ·exact .inr (.inr rfl)
  ·exact .inl rfl
theorem portT_len (p : Int) (h : 0 ≤ p ∧ p ≤ 65535) : (portT p).length ≤ 6 := by
 obtain ⟨n, rfl⟩ : ∃ n : Nat, p = n := ⟨p.toNat, by omega⟩
 unfold portT
 split
 ·simp
 ·have := decDigits_len5 n (by omega)
  rw [itoa_nat, List.length_cons]; omega
theorem O8.bare_good (o : O8) (h0 : o.po ≠ 0) : o.bare.good = o.one := by
 rw [Bool.eq_iff_iff, U8.good_iff]
 unfold O8.one
 rw [Bool.and_eq_true, decide_eq_true_iff]
 have hd := def8_nat o.sc
 constructor
 ·intro h
  have h1 := h.sc
  have h2 := h.po
  have h3 := h.ho
  simp only [O8.bare] at h1 h2 h3
  refine ⟨⟨h1, ?_⟩, h3⟩
  split at h2 <;> omega
 ·rintro ⟨⟨h1, h2, h3⟩, h4⟩
  have h5 : 0 ≤ o.bare.po ∧ o.bare.po ≤ 65535 ∧ o.bare.po ≠ def8 o.sc := by
   simp only [O8.bare]
   split <;> omega
  refine ⟨h1, h5, h4, rfl, rfl, (by decide : ([47] : List UInt8).all (ok8 bad1) = true), rfl, rfl, .inr rfl, .inr rfl, by simp [O8.bare], ?_⟩
  have h6 := portT_len o.bare.po (by omega)
  have h7 : o.ho.length ≤ 253 := by
   unfold host8 at h4
   rw [Bool.and_eq_true] at h4
   exact of_decide_eq_true h4.1
  have h8 : o.sc.length ≤ 5 := by rcases def8_sc h1 with e | e <;> rw [e] <;> decide
  rw [U8.textLen]
  have e1 : o.bare.bare.us = [] := rfl
  have e2 : o.bare.bare.hq = false := rfl
  have e3 : o.bare.bare.hf = false := rfl
  have e4 : o.bare.bare.pa = [47] := rfl
  have e5 : o.bare.bare.sc = o.sc := rfl
  have e6 : o.bare.bare.ho = o.ho := rfl
  have e7 : o.bare.bare.po = o.bare.po := rfl
  rw [e1, e2, e3, e4, e5, e6, e7]
  simp [usLen, qLen]
  omega
theorem O8.good_nob {o : O8} (h : o.nob = true) : o.good = true := by unfold O8.good; rw [h]; rfl
theorem O8.good_zero {o : O8} (h : ¬o.nob = true) (h0 : o.po = 0) : o.good = false := by
 unfold O8.good O8.one
 rw [show o.nob = false from by simpa using h, decide_eq_false (fun e => by omega)]; rfl
theorem O8.good_one {o : O8} (h : ¬o.nob = true) : o.good = o.one := by
 unfold O8.good
 rw [show o.nob = false from by simpa using h]; rfl
theorem progBare (o : O8) : origin_bare.f (ba o.sc) (ba o.ho) o.po = some (ba o.bare.sc, ba o.bare.us, ba o.bare.ho, o.bare.po, ba o.bare.pa, o.bare.hq, ba o.bare.qu, o.bare.hf, ba o.bare.fr) := by
 unfold origin_bare.f
 rw [progDef]
 rfl
theorem progGoodO (o : O8) (h : o.Small) : Ev (fun k => origin_Good.f k (ba o.sc) (ba o.ho) o.po) o.good := by
 unfold origin_Good.f
 rw [nob_ba]
 refine Ev.ite (fun c => ?_) (fun c => Ev.ite (fun d => ?_) (fun d => ?_))
 ·rw [O8.good_nob c]; exact Ev.now _
 ·rw [O8.good_zero c d]; exact Ev.now _
 ·rw [O8.good_one c, ← O8.bare_good o d, progBare]
  exact progGood o.bare (O8.bare_small h)
theorem refNob (o : O8) : pursuivantref08_Nobody.f (ba o.sc) (ba o.ho) o.po = some o.nob := by
 unfold pursuivantref08_Nobody.f O8.nob
 rw [ba_list, ba_list]
 split
 ·split
  ·congr 1
   rw [Bool.eq_iff_iff, decide_eq_true_iff]
   rename_i h1 h2
   exact ⟨fun h => ⟨h1, h2, by simpa using h⟩, fun h => by simpa using h.2.2⟩
  ·rename_i h2
   rw [decide_eq_false (fun h => h2 h.2.1)]
 ·rename_i h1
  rw [decide_eq_false (fun h => h1 h.1)]
theorem refGoodO (o : O8) (h : o.Small) : Ev (fun k => pursuivantref08_Good.f k (ba o.sc) (ba o.ho) o.po) o.good := by
 unfold pursuivantref08_Good.f
 have hd := def8_nat o.sc
 refine Ev.some_bind (fun _ => refNob o) (Ev.ite (fun c => ?_) (fun c => ?_))
 ·rw [O8.good_nob c]; exact Ev.now _
 ·rw [O8.good_one c]
  unfold O8.one
  refine Ev.some_bind (fun _ => refDef _) (Ev.ite (fun d => ?_) (fun d => ?_))
  ·refine Ev.bind (refHost o.ho (by have := h.ho; omega)) (Ev.ite (fun e => ?_) (fun e => ?_))
   ·rw [e, Bool.and_true]
    refine Ev.ite (fun f => ?_) (fun f => ?_)
    ·rw [show decide (o.po < 65536) = decide (def8 o.sc ≠ 0 ∧ 0 < o.po ∧ o.po ≤ 65535) from by rw [Bool.eq_iff_iff, decide_eq_true_iff, decide_eq_true_iff]; omega]
     exact Ev.now _
    ·rw [decide_eq_false (fun g => by omega)]; exact Ev.now _
   ·rw [show host8 o.ho = false from by simpa using e, Bool.and_false]; exact Ev.now _
  ·rw [decide_eq_false (fun g => by omega), Bool.false_and]; exact Ev.now _
theorem trimSlash (l : List UInt8) : Lib.trimSuffix (l ++ [47]) [47] = l := by
 unfold Lib.trimSuffix Lib.hasSuffix
 simp
theorem O8.bare_text (o : O8) : o.bare.text = o.long ++ [47] := by
 unfold O8.long U8.text U8.textX O8.bare
 simp
theorem O8.one_small {o : O8} (h : o.one = true) : o.bare.text.length ≤ 1153 ∧ o.bare.good = true ∧ o.po ≠ 0 := by
 have h0 : o.po ≠ 0 := by
  unfold O8.one at h
  rw [Bool.and_eq_true, decide_eq_true_iff] at h
  omega
 have h1 : o.bare.good = true := by rw [O8.bare_good o h0, h]
 exact ⟨((U8.good_iff _).1 h1).len, h1, h0⟩
theorem progTextO (o : O8) (h : o.Small) : Ev (fun k => origin_Text.f k (ba o.sc) (ba o.ho) o.po) (ba o.text) := by
 unfold origin_Text.f O8.text
 rw [nob_ba]
 refine Ev.ite (fun c => ?_) (fun c => ?_)
 ·rw [if_pos c]; exact Ev.now _
 ·rw [if_neg c]
  refine Ev.bind (progGoodO o h) ?_
  rw [O8.good_one c]
  refine Ev.ite (fun d => ?_) (fun d => ?_)
  ·rw [if_pos d]
   have hs := O8.one_small d
   have ht := progTextG o.bare (O8.bare_small h)
   rw [U8.textG_good hs.2.1] at ht
   refine Ev.some_bind (fun _ => progBare o) (Ev.bind ht (Ev.of_all (fun _ => ?_)))
   unfold strings_TrimSuffix.f
   rw [if_pos (by rw [ba_size']; omega), ba_data, O8.bare_text, show (⟨#[47]⟩ : ByteArray).data.toList = [47] from rfl, trimSlash]
   rfl
  ·rw [if_neg d]; exact Ev.now _
theorem long_eq (o : O8) : o.long = o.sc ++ [58, 47, 47] ++ o.ho ++ portT o.bare.po := by
 unfold O8.long U8.textX
 simp [O8.bare]
theorem refTextO (o : O8) (h : o.Small) : Ev (fun k => pursuivantref08_Text.f k (ba o.sc) (ba o.ho) o.po) (ba o.text) := by
 unfold pursuivantref08_Text.f O8.text
 obtain ⟨h1, h2, h3⟩ := h
 have l1 : (⟨#[58, 47, 47]⟩ : ByteArray) = ba [58, 47, 47] := rfl
 have l2 : (⟨#[58]⟩ : ByteArray) = ba [58] := rfl
 refine Ev.some_bind (fun _ => refNob o) (Ev.ite (fun c => ?_) (fun c => ?_))
 ·rw [if_pos c]; exact Ev.now _
 ·rw [if_neg c]
  refine Ev.bind (refGoodO o ⟨h1, h2, h3⟩) ?_
  rw [O8.good_one c]
  refine Ev.ite (fun d => ?_) (fun d => ?_)
  ·rw [if_pos d, long_eq, l1, l2, ba_app]
   have hs := O8.one_small d
   unfold O8.one at d
   rw [Bool.and_eq_true, decide_eq_true_iff] at d
   refine Ev.if_pos (by (first | omega | (simp only [ba_size', List.length_append, List.length_cons, List.length_nil]; omega) | (simp; omega) | (simp; done))) (Ev.if_pos (by (first | omega | (simp only [ba_size', List.length_append, List.length_cons, List.length_nil]; omega) | (simp; omega) | (simp; done))) (Ev.some_bind (fun _ => refDef _) (Ev.ite (fun e => ?_) (fun e => ?_))))
   ·rw [ba_app, show portT o.bare.po = [] from by simp [O8.bare, portT, e], List.append_nil]
    exact Ev.now _
   ·obtain ⟨n, hn⟩ : ∃ n : Nat, o.po = n := ⟨o.po.toNat, by omega⟩
    have hl := decDigits_len5 n (by omega)
    have hpo : o.bare.po = (n : Int) := by simp only [O8.bare]; rw [if_neg e, hn]
    rw [hn, hpo, portT_nat n (by omega)]
    refine Ev.bind (refDigits n (by omega)) ?_
    simp only [ba_app]
    refine Ev.if_pos (by (first | omega | (simp only [ba_size', List.length_append, List.length_cons, List.length_nil]; omega) | (simp; omega) | (simp; done))) (Ev.if_pos (by (first | omega | (simp only [ba_size', List.length_append, List.length_cons, List.length_nil]; omega) | (simp; omega) | (simp; done))) ?_)
    exact Ev.now _
  ·rw [if_neg d]; exact Ev.now _
def ofU (u : U8) : O8 := if u.good = true then ⟨u.sc, u.ho, u.port⟩ else ⟨[], [], 0⟩
theorem progOf (u : U8) (h : u.Small) : Ev (fun k => origin_Of.f k (ba u.sc) (ba u.us) (ba u.ho) u.po (ba u.pa) u.hq (ba u.qu) u.hf (ba u.fr)) (ba (ofU u).sc, ba (ofU u).ho, (ofU u).po) := by
 unfold origin_Of.f ofU
 refine Ev.bind (progGood u h) (Ev.ite (fun c => ?_) (fun c => ?_))
 ·rw [if_pos c]; exact Ev.some_bind (fun _ => progPortU u) (Ev.now _)
 ·rw [if_neg c]; exact Ev.now _
theorem refOf (u : U8) (h : u.Small) : Ev (fun k => pursuivantref08_Of.f k (ba u.sc) (ba u.us) (ba u.ho) u.po (ba u.pa) u.hq (ba u.qu) u.hf (ba u.fr)) (ba (ofU u).sc, ba (ofU u).ho, (ofU u).po) := by
 unfold pursuivantref08_Of.f ofU
 refine Ev.bind (refGoodU u h) (Ev.ite (fun c => ?_) (fun c => ?_))
 ·rw [if_pos c]; exact Ev.some_bind (fun _ => refPortU u) (Ev.now _)
 ·rw [if_neg c]; exact Ev.now _
theorem ofU_small {u : U8} (h : u.good = true) : (ofU u).Small := by
 have hG := (U8.good_iff _).1 h
 have h1 := hG.small
 have h2 := hG.po
 have h3 := def8_nat u.sc
 unfold ofU
 rw [if_pos h]
 refine ⟨h1.sc, h1.ho, ?_⟩
 simp only [U8.port]
 split <;> omega
def oNone : O8 := ⟨[], [], 0⟩
def parseO (s : List UInt8) : O8 × Int := if s = null8 then (oNone, 0) else if (parse8 s).2 = 0 ∧ (ofU (parse8 s).1).text = s then (ofU (parse8 s).1, 0) else (oNone, 3)
def O8.tup (x : O8 × Int) : ByteArray × ByteArray × Int × Int := (ba x.1.sc, ba x.1.ho, x.1.po, x.2)
theorem none_small : U8.none.Small := ⟨by decide, by decide, by decide, by decide, by decide, by decide⟩
theorem progParseO (s : List UInt8) (hs : s.length ≤ 109951162) : Ev (fun k => origin_Parse.f k (ba s)) (O8.tup (parseO s)) := by
 unfold origin_Parse.f parseO
 rw [ba_list]
 refine Ev.ite (fun c => ?_) (fun c => ?_)
 ·rw [if_pos (show s = null8 from c)]; exact Ev.now _
 ·rw [if_neg (show ¬s = null8 from c)]
  have hp := progParse s hs
  rcases parse8_cases s with h | ⟨h1, h2, h3⟩
  ·rw [h] at hp ⊢
   refine Ev.bind hp (Ev.bind (progOf U8.none none_small) (Ev.if_neg ?_ ?_))
   ·simp only [U8.tup]; split <;> decide
   ·rw [if_neg (fun e => by have := e.1; revert this; simp only; split <;> decide)]; exact Ev.now _
  ·obtain ⟨⟨u, e⟩, hu⟩ : ∃ p, parse8 s = p := ⟨_, rfl⟩
   rw [hu] at hp h1 h2 h3 ⊢
   simp only at h1 h2 h3
   subst h1
   have hG := (U8.good_iff _).1 h2
   refine Ev.bind hp (Ev.bind (progOf u hG.small) (Ev.if_pos rfl (Ev.bind (progTextO (ofU u) (ofU_small h2)) ?_)))
   rw [ba_list]
   refine Ev.ite (fun d => ?_) (fun d => ?_)
   ·rw [if_pos ⟨rfl, d⟩]; exact Ev.now _
   ·rw [if_neg (fun e => d e.2)]; exact Ev.now _
def O8.same (a b : O8) : Bool := decide (a.nob = false ∧ a.one = true ∧ a = b)
theorem O8.eq_ba (a b : O8) : (ba a.sc = ba b.sc ∧ ba a.ho = ba b.ho ∧ a.po = b.po) ↔ a = b := by
 constructor
 ·rintro ⟨h1, h2, h3⟩
  obtain ⟨a1, a2, a3⟩ := a
  obtain ⟨b1, b2, b3⟩ := b
  simp only at h1 h2 h3
  rw [ba_inj h1, ba_inj h2, h3]
 ·rintro rfl; exact ⟨rfl, rfl, rfl⟩
theorem progSameO (a b : O8) (h : a.Small) : Ev (fun k => origin_Same.f k (ba a.sc) (ba a.ho) a.po (ba b.sc) (ba b.ho) b.po) (a.same b) := by
 unfold origin_Same.f O8.same
 rw [nob_ba]
 refine Ev.ite (fun c => ?_) (fun c => ?_)
 ·rw [decide_eq_false (fun e => by rw [c] at e; cases e.1)]; exact Ev.now _
 ·have c' : a.nob = false := by simpa using c
  refine Ev.bind (progGoodO a h) ?_
  rw [O8.good_one c]
  refine Ev.ite (fun d => ?_) (fun d => ?_)
  ·rw [show decide (ba a.sc = ba b.sc ∧ ba a.ho = ba b.ho ∧ a.po = b.po) = decide (a.nob = false ∧ a.one = true ∧ a = b) from by
    rw [Bool.eq_iff_iff, decide_eq_true_iff, decide_eq_true_iff, O8.eq_ba]
    exact ⟨fun e => ⟨c', d, e⟩, fun e => e.2.2⟩]
   exact Ev.now _
  ·rw [decide_eq_false (fun e => d e.2.1)]; exact Ev.now _
def wake8a : O8 := ⟨[104, 116, 116, 112], [97], 8080⟩
theorem small8 (o : O8) (h : decide (o.sc.length ≤ 100 ∧ o.ho.length ≤ 100 ∧ 0 ≤ o.po ∧ o.po ≤ 65535) = true) : o.Small := by
 have := of_decide_eq_true h
 exact ⟨by omega, by omega, by omega⟩
theorem awake8 : Ev (fun k => pursuivantlaw08_awake.f k) true := by
 unfold pursuivantlaw08_awake.f
 have h1 := progParseO [104, 116, 116, 112, 58, 47, 47, 97, 58, 56, 48, 56, 48] (by decide)
 have p1 : parseO [104, 116, 116, 112, 58, 47, 47, 97, 58, 56, 48, 56, 48] = (wake8a, 0) := by decide +kernel
 rw [p1] at h1
 have h2 := progParseO null8 (by decide)
 have p2 : parseO null8 = (oNone, 0) := by decide +kernel
 rw [p2] at h2
 have h3 := progParseO [104, 116, 116, 112, 58, 47, 47, 97, 58, 56, 48] (by decide)
 have p3 : parseO [104, 116, 116, 112, 58, 47, 47, 97, 58, 56, 48] = (oNone, 3) := by decide +kernel
 rw [p3] at h3
 refine Ev.bind h1 (Ev.bind h2 (Ev.bind h3 (Ev.if_pos (by simp [O8.tup, wake8a]) (Ev.if_pos rfl (Ev.if_pos (by simp [O8.tup, oNone]) (Ev.if_pos rfl (Ev.if_pos rfl ?_)))))))
 have t1 := progTextO wake8a (small8 _ (by decide))
 have q1 : wake8a.text = [104, 116, 116, 112, 58, 47, 47, 97, 58, 56, 48, 56, 48] := by decide +kernel
 rw [q1] at t1
 have s1 := progSameO wake8a wake8a (small8 _ (by decide))
 have q2 : wake8a.same wake8a = true := by decide +kernel
 rw [q2] at s1
 have s2 := progSameO oNone oNone (small8 _ (by decide))
 have q3 : oNone.same oNone = false := by decide +kernel
 rw [q3] at s2
 have o1 := progOf ⟨[104, 116, 116, 112, 115], [], [97], 0, [47], false, [], false, []⟩ ⟨by decide, by decide, by decide, by decide, by decide, by decide⟩
 have q4 : ofU ⟨[104, 116, 116, 112, 115], [], [97], 0, [47], false, [], false, []⟩ = ⟨[104, 116, 116, 112, 115], [97], 443⟩ := by decide +kernel
 rw [q4] at o1
 refine Ev.bind t1 (Ev.if_pos (ba_list _) (Ev.bind s1 (Ev.if_pos rfl (Ev.bind s2 (Ev.if_neg (by decide) (Ev.bind o1 ?_))))))
 exact Ev.now _
end Go.Proofs.YtindkgcbglonhaaDoor.Hand

/- The law OriginParses in plain Lean: the package reads texts as the reference does. Conditions: at most 2^20 bytes of bulk. -/
namespace Go.Proofs.YtindkgcbglonhaaDoor.Hand
open Go.RowKit Go.Proofs.YtindkgcbglonhaaDoorW.PrintWords Go.Proofs.YtindkgcbglonhaaDoorW.PrintLast Go.Proofs.YtindkgcbglonhaaDoorW.PrintMore
set_option linter.unusedVariables false
set_option linter.unusedSimpArgs false

theorem refParseO (s : List UInt8) (hs : s.length ≤ 109951162) : Ev (fun k => pursuivantref08_Parse.f k (ba s)) (O8.tup (parseO s)) := by
 unfold pursuivantref08_Parse.f parseO
 rw [ba_list]
 refine Ev.ite (fun c => ?_) (fun c => ?_)
 ·rw [if_pos (show s = null8 from c)]; exact Ev.now _
 ·rw [if_neg (show ¬s = null8 from c)]
  have hp := refParse s hs
  rcases parse8_cases s with h | ⟨h1, h2, h3⟩
  ·rw [h] at hp ⊢
   refine Ev.bind hp (Ev.if_neg ?_ ?_)
   ·simp only [U8.tup]; split <;> decide
   ·rw [if_neg (fun e => by have := e.1; revert this; simp only; split <;> decide)]; exact Ev.now _
  ·obtain ⟨⟨u, e⟩, hu⟩ : ∃ p, parse8 s = p := ⟨_, rfl⟩
   rw [hu] at hp h1 h2 h3 ⊢
   simp only at h1 h2 h3
   subst h1
   have hG := (U8.good_iff _).1 h2
   refine Ev.bind hp (Ev.if_pos rfl (Ev.bind (refOf u hG.small) (Ev.bind (refTextO (ofU u) (ofU_small h2)) ?_)))
   rw [ba_list]
   refine Ev.ite (fun d => ?_) (fun d => ?_)
   ·rw [if_pos ⟨rfl, d⟩]; exact Ev.bind (refOf u hG.small) (Ev.now _)
   ·rw [if_neg (fun e => d e.2)]; exact Ev.now _
theorem originParses_pure (x0 : ByteArray) (hb : (fun s : ByteArray => s.size + 1) x0 ≤ 1048576) (hw0 : (fun _ => True) x0) : ∃ k, pursuivantlaw08_OriginParses.f k x0 = some true := by
 obtain ⟨s, rfl⟩ := ba_of x0
 have hs : s.length ≤ 109951162 := by simp at hb; omega
 refine Ev.get' (?_ : Ev (fun k => pursuivantlaw08_OriginParses.f k (ba s)) true)
 unfold pursuivantlaw08_OriginParses.f
 refine Ev.bind (progParseO s hs) (Ev.bind (refParseO s hs) (Ev.bind awake8 (Ev.if_pos rfl (Ev.if_pos (by simp) ?_))))
 simpa using Ev.now _
end Go.Proofs.YtindkgcbglonhaaDoor.Hand
