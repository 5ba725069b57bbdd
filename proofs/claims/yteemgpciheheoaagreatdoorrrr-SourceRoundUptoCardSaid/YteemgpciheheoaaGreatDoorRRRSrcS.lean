/- Sources over lists of bytes: which may be, their texts, the source of a word; the round trip. No condition. -/
import Derived.Test.YteemgpciheheoaaGreatDoorRRRUrlQ
import Derived.Test.YteemgpciheheoaaGreatDoorRRROriginS
namespace Go.Proofs.YteemgpciheheoaaGreatDoorRRR.Hand
open Go.RowKit Go.Proofs.YteemgpciheheoaaGreatDoorRRRW.PrintWords Go.Proofs.YteemgpciheheoaaGreatDoorRRRW.PrintLast Go.Proofs.YteemgpciheheoaaGreatDoorRRRW.PrintMore
set_option linter.unusedVariables false
set_option linter.unusedSimpArgs false

structure Src8 where
 (ki : Int) (sc : List UInt8) (sub : Bool) (ho : List UInt8) (po : Int) (pa no : List UInt8)
deriving DecidableEq
def nonceC (c : UInt8) : Bool := decide ((48 ≤ c.toNat ∧ c.toNat ≤ 57) ∨ (65 ≤ c.toNat ∧ c.toNat ≤ 90) ∨ (97 ≤ c.toNat ∧ c.toNat ≤ 122)) || [43, 47, 95, 45, 61].contains c
def nonce11 (l : List UInt8) : Bool := l.all nonceC && decide (l ≠ [])
def path11 (l : List UInt8) : Bool := decide (l.head? = some 47) && l.all (ok8 bad1)
def Src8.host (x : Src8) : Bool := decide (x.sc = [] ∨ def8 x.sc ≠ 0) && (host8 x.ho && (decide (-1 ≤ x.po ∧ x.po ≤ 65535) && ((decide (x.pa = []) || path11 x.pa) && decide (x.no = []))))
def Src8.good (x : Src8) : Bool :=
 if x.ki = 1 ∨ x.ki = 2 then decide (x = ⟨x.ki, [], false, [], 0, [], []⟩)
 else if x.ki = 3 then decide (x = ⟨3, x.sc, false, [], 0, [], []⟩) && decide (def8 x.sc ≠ 0)
 else if x.ki = 5 then decide (x = ⟨5, [], false, [], 0, [], x.no⟩) && nonce11 x.no
 else if x.ki = 4 then x.host else false
def portS (po : Int) : List UInt8 := if po = -1 then [58, 42] else if po > 0 then 58 :: Lib.itoa po else []
def Src8.long (x : Src8) : List UInt8 := (if x.sc = [] then [] else x.sc ++ [58, 47, 47]) ++ (if x.sub = true then [42, 46] else []) ++ x.ho ++ portS x.po ++ x.pa
abbrev self11 : List UInt8 := [39, 115, 101, 108, 102, 39]
abbrev nonceP : List UInt8 := [39, 110, 111, 110, 99, 101, 45]
def Src8.text (x : Src8) : List UInt8 := if x.good = true then (if x.ki = 1 then self11 else if x.ki = 2 then [42] else if x.ki = 3 then x.sc ++ [58] else if x.ki = 5 then nonceP ++ x.no ++ [39] else x.long) else []
def Src8.no_ : Src8 := ⟨0, [], false, [], 0, [], []⟩
def scut (s : List UInt8) : List UInt8 × List UInt8 := if (Lib.cut s [58, 47, 47]).2.2 = true ∧ def8 ((Lib.cut s [58, 47, 47]).1.map low8) ≠ 0 then ((Lib.cut s [58, 47, 47]).1.map low8, (Lib.cut s [58, 47, 47]).2.1) else ([], s)
def port11 (b : Bool) (l : List UInt8) : Option Int := if b = true then (if l = [42] then some (-1) else if (port8 l).2 = true then some (port8 l).1 else none) else some 0
def sub11 (l : List UInt8) : List UInt8 × Bool := if [42, 46].isPrefixOf l = true then (l.drop 2, true) else (l, false)
def hosted8 (s : List UInt8) : Src8 × Bool :=
 match port11 (Lib.cut (til [47] (scut s).2) [58]).2.2 (Lib.cut (til [47] (scut s).2) [58]).2.1 with
 | none => (Src8.no_, false)
 | some p => if (Src8.mk 4 (scut s).1 (sub11 ((Lib.cut (til [47] (scut s).2) [58]).1.map low8)).2 (sub11 ((Lib.cut (til [47] (scut s).2) [58]).1.map low8)).1 p (aft [47] (scut s).2) []).good = true
  then (Src8.mk 4 (scut s).1 (sub11 ((Lib.cut (til [47] (scut s).2) [58]).1.map low8)).2 (sub11 ((Lib.cut (til [47] (scut s).2) [58]).1.map low8)).1 p (aft [47] (scut s).2) [], true) else (Src8.no_, false)
def parse11 (s : List UInt8) : Src8 × Bool :=
 if s.map low8 = self11 then (⟨1, [], false, [], 0, [], []⟩, true)
 else if s = [42] then (⟨2, [], false, [], 0, [], []⟩, true)
 else if s.map low8 = [104, 116, 116, 112, 58] ∨ s.map low8 = [104, 116, 116, 112, 115, 58] then (⟨3, (s.map low8).dropLast, false, [], 0, [], []⟩, true)
 else if nonceP.isPrefixOf (s.map low8) = true then
  (if (s.drop 7).getLast? = some 39 ∧ nonce11 (s.drop 7).dropLast = true then (⟨5, [], false, [], 0, [], (s.drop 7).dropLast⟩, true) else (Src8.no_, false))
 else hosted8 s

structure Src8.Host (x : Src8) : Prop where
 sc : x.sc = [] ∨ def8 x.sc ≠ 0
 ho : host8 x.ho = true
 po : -1 ≤ x.po ∧ x.po ≤ 65535
 pa : x.pa = [] ∨ (x.pa.head? = some 47 ∧ x.pa.all (ok8 bad1) = true)
 no : x.no = []
theorem Src8.host_iff (x : Src8) : x.host = true ↔ x.Host := by
 unfold Src8.host path11
 simp only [Bool.and_eq_true, Bool.or_eq_true, decide_eq_true_eq]
 constructor
 ·rintro ⟨a, b, c, d, e⟩; exact ⟨a, b, c, d, e⟩
 ·rintro ⟨a, b, c, d, e⟩; exact ⟨a, b, c, d, e⟩
theorem portS_cut {ho : List UInt8} {po : Int} (hn : 58 ∉ ho) (hp : -1 ≤ po ∧ po ≤ 65535) : ∃ b l, Lib.cut (ho ++ portS po) [58] = (ho, l, b) ∧ port11 b l = some po := by
 unfold portS port11
 by_cases c : po = -1
 ·rw [if_pos c]; exact ⟨true, [42], cut1_hit 58 ho [42] hn, by rw [if_pos rfl, if_pos rfl, c]⟩
 ·rw [if_neg c]
  by_cases d : po > 0
  ·obtain ⟨n, rfl⟩ : ∃ n : Nat, po = n := ⟨po.toNat, by omega⟩
   rw [if_pos d, itoa_nat]
   refine ⟨true, Lib.decDigits n, cut1_hit 58 ho _ hn, ?_⟩
   have h42 : Lib.decDigits n ≠ [42] := by
    intro e
    have := (decDigits_spec n).1
    rw [e] at this
    revert this; decide
   rw [if_pos rfl, if_neg h42, port8_dec n (by omega) (by omega), if_pos rfl]
  ·rw [if_neg d, List.append_nil]
   exact ⟨false, [], cut1_miss 58 ho hn, by rw [if_neg (by simp)]; congr 1; omega⟩
theorem portS_not (po : Int) (hp : -1 ≤ po) (d : UInt8) (hd : dig8 d = false ∧ d ≠ 58 ∧ d ≠ 42) : d ∉ portS po := by
 unfold portS
 split
 ·simp [hd.2.1, hd.2.2]
 ·split
  ·obtain ⟨n, rfl⟩ : ∃ n : Nat, po = n := ⟨po.toNat, by omega⟩
   rw [itoa_nat, List.mem_cons]
   rintro (h | h)
   ·exact hd.2.1 h
   ·exact dig_not n d hd.1 h
  ·simp
theorem portS_second (po : Int) (hp : -1 ≤ po) (r : List UInt8) : ∀ t, portS po ++ r ≠ 58 :: 47 :: t ∨ portS po = [] := by
 intro t
 unfold portS
 split
 ·left; simp
 ·split
  ·left
   obtain ⟨n, rfl⟩ : ∃ n : Nat, po = n := ⟨po.toNat, by omega⟩
   rw [itoa_nat]
   obtain ⟨c, q, hq⟩ : ∃ c q, Lib.decDigits n = c :: q := List.exists_cons_of_ne_nil (decDigits_spec n).2.2.1
   rw [hq]
   intro e
   simp only [List.cons_append, List.cons.injEq, true_and] at e
   have := dig_not n 47 (by decide)
   rw [hq, e.1] at this
   exact this (by simp)
  ·right; rfl
def Src8.pre (x : Src8) : List UInt8 := (if x.sub = true then [42, 46] else []) ++ x.ho
def Src8.rest (x : Src8) : List UInt8 := x.pre ++ portS x.po ++ x.pa
theorem Src8.long_eq (x : Src8) : x.long = (if x.sc = [] then [] else x.sc ++ [58, 47, 47]) ++ x.rest := by
 unfold Src8.long Src8.rest Src8.pre
 simp
theorem pre_not {x : Src8} (h : x.Host) (d : UInt8) (hd : letter8 d = false ∧ d ≠ 46 ∧ d ≠ 42) : d ∉ x.pre := by
 unfold Src8.pre
 rw [List.mem_append]
 rintro (g | g)
 ·split at g
  ·simp only [List.mem_cons, List.not_mem_nil, or_false] at g
   rcases g with g | g
   ·exact hd.2.2 g
   ·exact hd.2.1 g
  ·cases g
 ·exact host8_not h.ho d ⟨hd.1, hd.2.1⟩ g
theorem host8_ne {l : List UInt8} (h : host8 l = true) : l ≠ [] := by
 rintro rfl
 revert h; decide
theorem spre_head {x : Src8} (h : x.Host) : ∃ c r, x.pre = c :: r ∧ c ≠ 39 ∧ (c = 42 → ∃ q, r = 46 :: q) := by
 unfold Src8.pre
 by_cases g : x.sub = true
 ·rw [if_pos g]; exact ⟨42, 46 :: x.ho, rfl, by decide, fun _ => ⟨_, rfl⟩⟩
 ·rw [if_neg g, List.nil_append]
  obtain ⟨c, r, hc⟩ := List.exists_cons_of_ne_nil (host8_ne h.ho)
  refine ⟨c, r, hc, fun e => ?_, fun e => ?_⟩
  ·exact host8_not h.ho 39 (by decide) (by rw [hc, e]; simp)
  ·exact absurd (show (42 : UInt8) ∈ x.ho by rw [hc, e]; simp) (host8_not h.ho 42 (by decide))
theorem low_char {a : List UInt8} (h : def8 (a.map low8) ≠ 0) (d : UInt8) (hd : low8 d ∉ ([104, 116, 112, 115] : List UInt8)) : d ∉ a := by
 intro hc
 have : low8 d ∈ a.map low8 := List.mem_map.2 ⟨d, hc, rfl⟩
 apply hd
 rcases def8_sc h with e | e <;> rw [e] at this
 ·exact (by decide : ∀ y ∈ ([104, 116, 116, 112] : List UInt8), y ∈ ([104, 116, 112, 115] : List UInt8)) _ this
 ·exact (by decide : ∀ y ∈ ([104, 116, 116, 112, 115] : List UInt8), y ∈ ([104, 116, 112, 115] : List UInt8)) _ this
theorem scut_long (x : Src8) (h : x.Host) : scut x.long = (x.sc, x.rest) := by
 rw [Src8.long_eq]
 by_cases c : x.sc = []
 ·rw [if_pos c, List.nil_append, c]
  unfold scut
  rw [if_neg]
  rintro ⟨h1, h2⟩
  have hs := cut_true 58 [47, 47] x.rest h1
  have n58 := def8_chars h2
  have n47 := low_char h2 47 (by decide)
  have n42 := low_char h2 42 (by decide)
  generalize (Lib.cut x.rest [58, 47, 47]).1 = a at *
  generalize (Lib.cut x.rest [58, 47, 47]).2.1 = r at *
  have e2 : a ++ [58, 47, 47] ++ r = a ++ 58 :: 47 :: 47 :: r := by simp
  rw [e2] at hs
  have t1 := til_app [58] a (58 :: 47 :: 47 :: r) (not_st (by intro d hd; rw [List.mem_singleton.1 hd]; exact n58)) (.inr ⟨58, _, rfl, rfl⟩)
  rw [← hs] at t1
  have np := pre_not h 58 (by decide)
  by_cases d : portS x.po = []
  ·have er : x.rest = x.pre ++ x.pa := by unfold Src8.rest; rw [d, List.append_nil]
   rcases h.pa with g | ⟨g, _⟩
   ·have : (58 : UInt8) ∈ x.rest := by rw [hs]; simp
    rw [er, g, List.append_nil] at this
    exact np this
   ·obtain ⟨pr, hpr⟩ : ∃ pr, x.pa = 47 :: pr := by
     cases hp : x.pa with
     | nil => rw [hp] at g; cases g
     | cons y z => rw [hp] at g; simp at g; exact ⟨z, by rw [g]⟩
    have t2 := til_app [47] x.pre x.pa (not_st (by intro d hd; rw [List.mem_singleton.1 hd]; exact pre_not h 47 (by decide))) (.inr ⟨47, pr, hpr, rfl⟩)
    have t3 := til_app [47] (a ++ [58]) (47 :: 47 :: r) (not_st (by
     intro d hd
     rw [List.mem_singleton.1 hd, List.mem_append]
     rintro (g | g)
     ·exact n47 g
     ·exact absurd g (by decide))) (.inr ⟨47, _, rfl, rfl⟩)
    have e3 : a ++ [58] ++ 47 :: 47 :: r = x.pre ++ x.pa := by rw [← er, hs]; simp
    rw [e3, t2.1] at t3
    exact np (by rw [t3.1]; simp)
  ·obtain ⟨q, hq⟩ : ∃ q, portS x.po = 58 :: q := by
    revert d
    unfold portS
    split
    ·intro _; exact ⟨_, rfl⟩
    ·split
     ·intro _; exact ⟨_, rfl⟩
     ·intro d; exact absurd rfl d
   have t2 := til_app [58] x.pre (portS x.po ++ x.pa) (not_st (by intro d hd; rw [List.mem_singleton.1 hd]; exact np)) (.inr ⟨58, q ++ x.pa, by rw [hq]; rfl, rfl⟩)
   have er : x.rest = x.pre ++ (portS x.po ++ x.pa) := by unfold Src8.rest; simp
   rw [← er] at t2
   rw [t2.2] at t1
   rcases portS_second x.po h.po.1 x.pa (47 :: r) with g | g
   ·exact g t1.2
   ·exact d g
 ·rw [if_neg c]
  have hsc : def8 x.sc ≠ 0 := h.sc.resolve_left c
  have hl := low8_sc hsc
  have hc := cutS_hit x.rest x.sc (def8_chars (by rw [hl]; exact hsc))
  have e : x.sc ++ [58, 47, 47] ++ x.rest = x.sc ++ 58 :: 47 :: 47 :: x.rest := by simp
  unfold scut
  rw [e, hc]
  simp only
  rw [hl, if_pos ⟨trivial, hsc⟩]
theorem sub11_pre (x : Src8) (h : x.Host) : sub11 (x.pre.map low8) = (x.ho, x.sub) := by
 have hl := host8_low h.ho
 unfold Src8.pre sub11
 by_cases g : x.sub = true
 ·rw [if_pos g, List.map_append, hl, show ([42, 46] : List UInt8).map low8 = [42, 46] from by decide, if_pos (by simp [List.isPrefixOf]), g]
  rfl
 ·rw [if_neg g, List.nil_append, hl, if_neg]
  ·rw [show x.sub = false from by simpa using g]
  ·intro e
   obtain ⟨t, ht⟩ := List.isPrefixOf_iff_prefix.1 e
   exact host8_not h.ho 42 (by decide) (by rw [← ht]; simp)
theorem hosted8_long (x : Src8) (h4 : x.ki = 4) (h : x.Host) : hosted8 x.long = (x, true) := by
 have hg : x.good = true := by unfold Src8.good; rw [h4]; simpa using (Src8.host_iff x).2 h
 have n47 : (47 : UInt8) ∉ x.pre ++ portS x.po := by
  rw [List.mem_append]
  rintro (g | g)
  ·exact pre_not h 47 (by decide) g
  ·exact portS_not x.po h.po.1 47 (by decide) g
 have t := til_app [47] (x.pre ++ portS x.po) x.pa (not_st (by intro d hd; rw [List.mem_singleton.1 hd]; exact n47)) (by
  rcases h.pa with g | ⟨g, _⟩
  ·exact .inl g
  ·cases hp : x.pa with
   | nil => exact .inl rfl
   | cons y z => rw [hp] at g; simp at g; exact .inr ⟨47, z, by rw [g], rfl⟩)
 obtain ⟨b, l, hc, hp⟩ := portS_cut (pre_not h 58 (by decide)) h.po
 have e : x.rest = x.pre ++ portS x.po ++ x.pa := rfl
 have hx : Src8.mk 4 x.sc x.sub x.ho x.po x.pa [] = x := by
  have := h.no
  obtain ⟨ki, sc, sub, ho, po, pa, no⟩ := x
  simp only at h4 this
  rw [h4, this]
 unfold hosted8
 rw [scut_long x h]
 simp only
 rw [e, t.1, t.2, hc]
 simp only
 rw [hp]
 simp only
 rw [sub11_pre x h]
 simp only
 rw [hx, if_pos hg]
theorem low8_is (c d : UInt8) (h : low8 c = d) (hd : ¬(97 ≤ d.toNat ∧ d.toNat ≤ 122)) : c = d := by
 have := u8_all (P := fun c => decide (¬(97 ≤ (low8 c).toNat ∧ (low8 c).toNat ≤ 122) → low8 c = c)) (by decide +kernel) c
 have := of_decide_eq_true this (by rw [h]; exact hd)
 rw [← this, h]
theorem long_head {x : Src8} (h : x.Host) : ∃ c r, x.long = c :: r ∧ c ≠ 39 ∧ (c = 42 → ∃ q, r = 46 :: q) := by
 rw [Src8.long_eq]
 obtain ⟨c, r, hc, h1, h2⟩ := spre_head h
 by_cases g : x.sc = []
 ·rw [if_pos g, List.nil_append]
  unfold Src8.rest
  rw [hc]
  refine ⟨c, r ++ portS x.po ++ x.pa, by simp, h1, fun e => ?_⟩
  obtain ⟨q, hq⟩ := h2 e
  exact ⟨q ++ portS x.po ++ x.pa, by rw [hq]; simp⟩
 ·rw [if_neg g]
  rcases def8_sc (h.sc.resolve_left g) with e | e <;> rw [e]
  ·exact ⟨104, _, rfl, by decide, fun e => absurd e (by decide)⟩
  ·exact ⟨104, _, rfl, by decide, fun e => absurd e (by decide)⟩
theorem aft_low (st l : List UInt8) (h : ∀ c, st.contains (low8 c) = st.contains c) : aft st (l.map low8) = (aft st l).map low8 := by
 induction l with
 | nil => rfl
 | cons c l ih =>
  unfold aft at ih ⊢
  rw [List.map_cons, List.dropWhile_cons, List.dropWhile_cons, h c]
  split
  ·exact ih
  ·rw [List.map_cons]
theorem long_scheme {x : Src8} (h : x.Host) (sc : List UInt8) (hs : 58 ∉ sc ∧ 47 ∉ sc) : x.long.map low8 ≠ sc ++ [58] := by
 intro e
 have i47 : (47 : UInt8) ∉ x.long := by
  intro g
  have : low8 47 ∈ x.long.map low8 := List.mem_map.2 ⟨47, g, rfl⟩
  rw [e, List.mem_append] at this
  rcases this with g | g
  ·exact hs.2 g
  ·exact absurd g (by decide)
 have e1 := Src8.long_eq x
 have hsc : x.sc = [] := by
  refine Classical.byContradiction fun g => i47 ?_
  rw [e1, if_neg g]; simp
 have hpa : x.pa = [] := by
  rcases h.pa with g | ⟨g, _⟩
  ·exact g
  ·exfalso
   apply i47
   cases hp : x.pa with
   | nil => rw [hp] at g; cases g
   | cons y z =>
    rw [hp] at g
    simp at g
    rw [e1]
    unfold Src8.rest
    rw [hp, g]; simp
 rw [if_pos hsc, List.nil_append] at e1
 unfold Src8.rest at e1
 rw [hpa, List.append_nil] at e1
 have np := pre_not h 58 (by decide)
 have hlow : ∀ c : UInt8, ([58] : List UInt8).contains (low8 c) = ([58] : List UInt8).contains c := fun c =>
  of_decide_eq_true (u8_all (P := fun c => decide (([58] : List UInt8).contains (low8 c) = ([58] : List UInt8).contains c)) (by decide +kernel) c)
 have a1 := aft_low [58] x.long hlow
 have t1 := til_app [58] sc [58] (not_st (by intro d hd; rw [List.mem_singleton.1 hd]; exact hs.1)) (.inr ⟨58, [], rfl, rfl⟩)
 rw [e, t1.2] at a1
 by_cases d : portS x.po = []
 ·rw [d, List.append_nil] at e1
  have t2 := til_app [58] x.pre [] (not_st (by intro d hd; rw [List.mem_singleton.1 hd]; exact np)) (.inl rfl)
  rw [List.append_nil] at t2
  rw [e1, t2.2] at a1
  cases a1
 ·have hq : ∃ c q, portS x.po = 58 :: c :: q := by
   revert d
   unfold portS
   split
   ·intro _; exact ⟨_, _, rfl⟩
   ·split
    ·intro _
     have hpo := h.po
     obtain ⟨n, hn⟩ : ∃ n : Nat, x.po = n := ⟨x.po.toNat, by omega⟩
     rw [hn, itoa_nat]
     obtain ⟨c, q, hq⟩ := List.exists_cons_of_ne_nil (decDigits_spec n).2.2.1
     exact ⟨c, q, by rw [hq]⟩
    ·intro d; exact absurd rfl d
  obtain ⟨c, q, hq⟩ := hq
  have t2 := til_app [58] x.pre (portS x.po) (not_st (by intro d hd; rw [List.mem_singleton.1 hd]; exact np)) (.inr ⟨58, c :: q, hq, rfl⟩)
  rw [← e1] at t2
  rw [t2.2, hq] at a1
  simp at a1
theorem parse11_long (x : Src8) (h4 : x.ki = 4) (h : x.Host) : parse11 x.long = (x, true) := by
 obtain ⟨c, r, hl, h39, h42⟩ := long_head h
 have n39 : low8 c ≠ 39 := fun e => h39 (low8_is c 39 e (by decide))
 unfold parse11
 rw [if_neg (by rw [hl, List.map_cons]; intro e; exact n39 (List.cons.inj e).1), if_neg (by
  rw [hl]; intro e
  obtain ⟨q, hq⟩ := h42 (List.cons.inj e).1
  rw [hq] at e; exact absurd (List.cons.inj e).2 (by simp)), if_neg (by
  rintro (e | e)
  ·exact long_scheme h [104, 116, 116, 112] (by decide) e
  ·exact long_scheme h [104, 116, 116, 112, 115] (by decide) e), if_neg (by
  rw [hl, List.map_cons]
  intro e
  obtain ⟨t, ht⟩ := List.isPrefixOf_iff_prefix.1 e
  exact n39 (List.cons.inj ht).1.symm)]
 exact hosted8_long x h4 h
theorem parse11_text (x : Src8) (h : x.good = true) : parse11 x.text = (x, true) := by
 have hg := h
 unfold Src8.text
 rw [if_pos h]
 unfold Src8.good at h
 by_cases c1 : x.ki = 1
 ·rw [if_pos (.inl c1)] at h
  rw [if_pos c1]
  have h := of_decide_eq_true h
  rw [h, c1]; decide +kernel
 ·by_cases c2 : x.ki = 2
  ·rw [if_pos (.inr c2)] at h
   rw [if_neg c1, if_pos c2]
   have h := of_decide_eq_true h
   rw [h, c2]; decide +kernel
  ·rw [if_neg (by rintro (g | g); exact c1 g; exact c2 g)] at h
   rw [if_neg c1, if_neg c2]
   by_cases c3 : x.ki = 3
   ·rw [if_pos c3, Bool.and_eq_true, decide_eq_true_iff, decide_eq_true_iff] at h
    rw [if_pos c3]
    obtain ⟨h1, h2⟩ := h
    obtain ⟨ki, sc, sub, ho, po, pa, no⟩ := x
    simp only at h1 h2 c3 ⊢
    rw [h1]
    rcases def8_sc h2 with e | e <;> rw [e] <;> decide +kernel
   ·rw [if_neg c3] at h
    rw [if_neg c3]
    by_cases c5 : x.ki = 5
    ·rw [if_pos c5, Bool.and_eq_true, decide_eq_true_iff] at h
     rw [if_pos c5]
     obtain ⟨h1, h2⟩ := h
     have hx : x = ⟨5, [], false, [], 0, [], x.no⟩ := h1
     generalize x.no = no at *
     rw [hx]
     unfold parse11
     have e1 : (nonceP ++ no ++ [39]).map low8 = nonceP ++ (no.map low8 ++ [39]) := by
      rw [List.append_assoc, List.map_append, List.map_append]; rfl
     rw [e1, if_neg (by intro e; exact absurd (congrArg (List.take 2) e) (by simp)), if_neg (by simp), if_neg (by
      rintro (e | e) <;> exact absurd (congrArg (List.take 1) e) (by simp)), if_pos (by exact List.isPrefixOf_iff_prefix.2 ⟨_, rfl⟩)]
     have e2 : (nonceP ++ no ++ [39]).drop 7 = no ++ [39] := by rw [List.append_assoc]; exact List.drop_left' rfl
     rw [e2, if_pos ⟨by simp, by simpa using h2⟩]
     simp
    ·rw [if_neg c5] at h
     rw [if_neg c5]
     by_cases c4 : x.ki = 4
     ·rw [if_pos c4] at h
      exact parse11_long x c4 ((Src8.host_iff x).1 h)
     ·rw [if_neg c4] at h; cases h
end Go.Proofs.YteemgpciheheoaaGreatDoorRRR.Hand
