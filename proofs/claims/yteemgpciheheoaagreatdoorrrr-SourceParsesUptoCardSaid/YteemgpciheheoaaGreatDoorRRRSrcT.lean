/- Sources over lists of bytes: which may be, their texts, the source of a word; the round trip. No condition. -/
import Derived.Test.YteemgpciheheoaaGreatDoorRRROpen
import Derived.Test.YteemgpciheheoaaGreatDoorRRROriginS
namespace Go.Proofs.YteemgpciheheoaaGreatDoorRRR.Hand
open Go.RowKit Go.Proofs.YteemgpciheheoaaGreatDoorRRRW.PrintWords Go.Proofs.YteemgpciheheoaaGreatDoorRRRW.PrintLast Go.Proofs.YteemgpciheheoaaGreatDoorRRRW.PrintMore
set_option linter.unusedVariables false
set_option linter.unusedSimpArgs false

structure Src8 where
 (ki : Int) (sc : List UInt8) (sub : Bool) (ho : List UInt8) (po : Int) (pa no : List UInt8)
deriving DecidableEq
def nonceC (c : UInt8) : Bool := decide ((48 ≤ c.toNat ∧ c.toNat ≤ 57) ∨ (65 ≤ c.toNat ∧ c.toNat ≤ 90) ∨ (97 ≤ c.toNat ∧ c.toNat ≤ 122)) || [43, 47, 95, 45, 61].contains c
def nonce11 (l : List UInt8) : Bool := l.all nonceC && decide (l ≠ [])
def path11 (l : List UInt8) : Bool := decide (l.head? = some 47) && l.all (ok8 bad1)
def Src8.host (x : Src8) : Bool := decide (x.sc = [] ∨ def8 x.sc ≠ 0) && (host8 x.ho && (decide (-1 ≤ x.po ∧ x.po ≤ 65535) && ((decide (x.pa = []) || path11 x.pa) && decide (x.no = []))))
def Src8.good (x : Src8) : Bool :=
 if x.ki = 1 ∨ x.ki = 2 then decide (x = ⟨x.ki, [], false, [], 0, [], []⟩)
 else if x.ki = 3 then decide (x = ⟨3, x.sc, false, [], 0, [], []⟩) && decide (def8 x.sc ≠ 0)
 else if x.ki = 5 then decide (x = ⟨5, [], false, [], 0, [], x.no⟩) && nonce11 x.no
 else if x.ki = 4 then x.host else false
def portS (po : Int) : List UInt8 := if po = -1 then [58, 42] else if po > 0 then 58 :: Lib.itoa po else []
def Src8.long (x : Src8) : List UInt8 := (if x.sc = [] then [] else x.sc ++ [58, 47, 47]) ++ (if x.sub = true then [42, 46] else []) ++ x.ho ++ portS x.po ++ x.pa
abbrev self11 : List UInt8 := [39, 115, 101, 108, 102, 39]
abbrev nonceP : List UInt8 := [39, 110, 111, 110, 99, 101, 45]
def Src8.text (x : Src8) : List UInt8 := if x.good = true then (if x.ki = 1 then self11 else if x.ki = 2 then [42] else if x.ki = 3 then x.sc ++ [58] else if x.ki = 5 then nonceP ++ x.no ++ [39] else x.long) else []
def Src8.no_ : Src8 := ⟨0, [], false, [], 0, [], []⟩
def scut (s : List UInt8) : List UInt8 × List UInt8 := if (Lib.cut s [58, 47, 47]).2.2 = true ∧ def8 ((Lib.cut s [58, 47, 47]).1.map low8) ≠ 0 then ((Lib.cut s [58, 47, 47]).1.map low8, (Lib.cut s [58, 47, 47]).2.1) else ([], s)
def port11 (b : Bool) (l : List UInt8) : Option Int := if b = true then (if l = [42] then some (-1) else if (port8 l).2 = true then some (port8 l).1 else none) else some 0
def sub11 (l : List UInt8) : List UInt8 × Bool := if [42, 46].isPrefixOf l = true then (l.drop 2, true) else (l, false)
def hosted8 (s : List UInt8) : Src8 × Bool :=
 match port11 (Lib.cut (til [47] (scut s).2) [58]).2.2 (Lib.cut (til [47] (scut s).2) [58]).2.1 with
 | none => (Src8.no_, false)
 | some p => if (Src8.mk 4 (scut s).1 (sub11 ((Lib.cut (til [47] (scut s).2) [58]).1.map low8)).2 (sub11 ((Lib.cut (til [47] (scut s).2) [58]).1.map low8)).1 p (aft [47] (scut s).2) []).good = true
  then (Src8.mk 4 (scut s).1 (sub11 ((Lib.cut (til [47] (scut s).2) [58]).1.map low8)).2 (sub11 ((Lib.cut (til [47] (scut s).2) [58]).1.map low8)).1 p (aft [47] (scut s).2) [], true) else (Src8.no_, false)
def parse11 (s : List UInt8) : Src8 × Bool :=
 if s.map low8 = self11 then (⟨1, [], false, [], 0, [], []⟩, true)
 else if s = [42] then (⟨2, [], false, [], 0, [], []⟩, true)
 else if s.map low8 = [104, 116, 116, 112, 58] ∨ s.map low8 = [104, 116, 116, 112, 115, 58] then (⟨3, (s.map low8).dropLast, false, [], 0, [], []⟩, true)
 else if nonceP.isPrefixOf (s.map low8) = true then
  (if (s.drop 7).getLast? = some 39 ∧ nonce11 (s.drop 7).dropLast = true then (⟨5, [], false, [], 0, [], (s.drop 7).dropLast⟩, true) else (Src8.no_, false))
 else hosted8 s

def Src8.pre (x : Src8) : List UInt8 := (if x.sub = true then [42, 46] else []) ++ x.ho
def Src8.rest (x : Src8) : List UInt8 := x.pre ++ portS x.po ++ x.pa
theorem low_char {a : List UInt8} (h : def8 (a.map low8) ≠ 0) (d : UInt8) (hd : low8 d ∉ ([104, 116, 112, 115] : List UInt8)) : d ∉ a := by
 intro hc
 have : low8 d ∈ a.map low8 := List.mem_map.2 ⟨d, hc, rfl⟩
 apply hd
 rcases def8_sc h with e | e <;> rw [e] at this
 ·exact (by decide : ∀ y ∈ ([104, 116, 116, 112] : List UInt8), y ∈ ([104, 116, 112, 115] : List UInt8)) _ this
 ·exact (by decide : ∀ y ∈ ([104, 116, 116, 112, 115] : List UInt8), y ∈ ([104, 116, 112, 115] : List UInt8)) _ this
theorem low8_is (c d : UInt8) (h : low8 c = d) (hd : ¬(97 ≤ d.toNat ∧ d.toNat ≤ 122)) : c = d := by
 have := u8_all (P := fun c => decide (¬(97 ≤ (low8 c).toNat ∧ (low8 c).toNat ≤ 122) → low8 c = c)) (by decide +kernel) c
 have := of_decide_eq_true this (by rw [h]; exact hd)
 rw [← this, h]
end Go.Proofs.YteemgpciheheoaaGreatDoorRRR.Hand

/- Sources: the reference's way to read a word is the same. No condition. -/
namespace Go.Proofs.YteemgpciheheoaaGreatDoorRRR.Hand
open Go.RowKit Go.Proofs.YteemgpciheheoaaGreatDoorRRRW.PrintWords Go.Proofs.YteemgpciheheoaaGreatDoorRRRW.PrintLast Go.Proofs.YteemgpciheheoaaGreatDoorRRRW.PrintMore
set_option linter.unusedVariables false
set_option linter.unusedSimpArgs false

def rcut (s : List UInt8) : List UInt8 × List UInt8 :=
 if (s.take 8).map low8 = [104, 116, 116, 112, 115, 58, 47, 47] then ([104, 116, 116, 112, 115], s.drop 8)
 else if (s.take 7).map low8 = [104, 116, 116, 112, 58, 47, 47] then ([104, 116, 116, 112], s.drop 7) else ([], s)
theorem low_split (n : Nat) (s sc : List UInt8) (hn : sc.length = n) (h : (s.take (n + 3)).map low8 = sc ++ [58, 47, 47]) : s = s.take n ++ 58 :: 47 :: 47 :: s.drop (n + 3) ∧ (s.take n).map low8 = sc := by
 have hl := congrArg List.length h
 simp only [List.length_map, List.length_take, List.length_append, List.length_cons, List.length_nil] at hl
 have e1 : s.take (n + 3) = s.take n ++ (s.drop n).take 3 := List.take_add
 rw [e1, List.map_append] at h
 obtain ⟨h1, h2⟩ := List.append_inj h (by rw [List.length_map, List.length_take]; omega)
 have h3 : (s.drop n).take 3 = [58, 47, 47] := by
  have hl3 : ((s.drop n).take 3).length = 3 := by rw [List.length_take, List.length_drop]; omega
  obtain ⟨a, b, c, hq⟩ : ∃ a b c, (s.drop n).take 3 = [a, b, c] := by
   match hm : (s.drop n).take 3, hl3 with
   | [a, b, c], _ => exact ⟨a, b, c, rfl⟩
  rw [hq] at h2 ⊢
  simp only [List.map_cons, List.map_nil, List.cons.injEq, and_true] at h2
  rw [low8_is a 58 h2.1 (by decide), low8_is b 47 h2.2.1 (by decide), low8_is c 47 h2.2.2 (by decide)]
 refine ⟨?_, h1⟩
 conv => lhs; rw [← List.take_append_drop (n + 3) s, e1, h3]
 simp
theorem scut_of (sc a r : List UInt8) (h : a.map low8 = sc) (hd : def8 sc ≠ 0) : scut (a ++ 58 :: 47 :: 47 :: r) = (sc, r) := by
 have hc := cutS_hit r a (def8_chars (by rw [h]; exact hd))
 unfold scut
 rw [hc]
 simp only
 rw [h, if_pos ⟨trivial, hd⟩]
theorem rcut_same (s : List UInt8) : rcut s = scut s := by
 unfold rcut
 by_cases h8 : (s.take 8).map low8 = [104, 116, 116, 112, 115, 58, 47, 47]
 ·rw [if_pos h8]
  obtain ⟨h1, h2⟩ := low_split 5 s [104, 116, 116, 112, 115] rfl h8
  conv => rhs; rw [h1]
  rw [scut_of _ _ _ h2 (by decide)]
 ·rw [if_neg h8]
  by_cases h7 : (s.take 7).map low8 = [104, 116, 116, 112, 58, 47, 47]
  ·rw [if_pos h7]
   obtain ⟨h1, h2⟩ := low_split 4 s [104, 116, 116, 112] rfl h7
   conv => rhs; rw [h1]
   rw [scut_of _ _ _ h2 (by decide)]
  ·rw [if_neg h7]
   unfold scut
   rw [if_neg]
   rintro ⟨g1, g2⟩
   have hs := cut_true 58 [47, 47] s g1
   generalize (Lib.cut s [58, 47, 47]).1 = a at *
   generalize (Lib.cut s [58, 47, 47]).2.1 = r at *
   rcases def8_sc g2 with e | e
   ·apply h7
    have hl : a.length = 4 := by have := congrArg List.length e; simpa using this
    rw [hs, List.take_append_of_le_length (by simp [hl]), List.take_of_length_le (by simp [hl]), List.map_append, e]
    decide
   ·apply h8
    have hl : a.length = 5 := by have := congrArg List.length e; simpa using this
    rw [hs, List.take_append_of_le_length (by simp [hl]), List.take_of_length_le (by simp [hl]), List.map_append, e]
    decide
theorem low58 (c : UInt8) : (low8 c = 58) ↔ c = 58 := ⟨fun h => low8_is c 58 h (by decide), fun h => by rw [h]; decide⟩
theorem cut_low (l : List UInt8) : Lib.cut (l.map low8) [58] = ((Lib.cut l [58]).1.map low8, (Lib.cut l [58]).2.1.map low8, (Lib.cut l [58]).2.2) := by
 rcases split_first 58 l with hm | ⟨x, y, rfl, hx⟩
 ·have : (58 : UInt8) ∉ l.map low8 := by
   intro h
   obtain ⟨c, hc, hl⟩ := List.mem_map.1 h
   exact hm ((low58 c).1 hl ▸ hc)
  rw [cut1_miss 58 _ this, cut1_miss 58 l hm]; rfl
 ·have : (58 : UInt8) ∉ x.map low8 := by
   intro h
   obtain ⟨c, hc, hl⟩ := List.mem_map.1 h
   exact hx ((low58 c).1 hl ▸ hc)
  rw [List.map_append, List.map_cons, show low8 58 = 58 from by decide, cut1_hit 58 _ _ this, cut1_hit 58 x y hx]
theorem dig8_low (c : UInt8) : dig8 (low8 c) = dig8 c := of_decide_eq_true (u8_all (P := fun c => decide (dig8 (low8 c) = dig8 c)) (by decide +kernel) c)
theorem dig8_same (c : UInt8) (h : dig8 c = true) : low8 c = c := by
 have := u8_all (P := fun c => decide (dig8 c = true → low8 c = c)) (by decide +kernel) c
 exact of_decide_eq_true this h
theorem port8_low (l : List UInt8) : port8 (l.map low8) = port8 l := by
 have ha : (l.map low8).all dig8 = l.all dig8 := by
  rw [List.all_map]
  congr 1
  funext c
  exact dig8_low c
 by_cases h : l.all dig8 = true
 ·have : l.map low8 = l := (List.map_congr_left (fun c hc => dig8_same c (List.all_eq_true.1 h c hc))).trans (List.map_id l)
  rw [this]
 ·unfold port8
  rw [ha, if_neg (fun g => h g.1), if_neg (fun g => h g.1)]
theorem star_low (l : List UInt8) : l.map low8 = [42] ↔ l = [42] := by
 constructor
 ·intro h
  cases l with
  | nil => cases h
  | cons c r =>
   simp only [List.map_cons, List.cons.injEq, List.map_eq_nil_iff] at h
   rw [low8_is c 42 h.1 (by decide), h.2]
 ·rintro rfl; decide
theorem port11_low (b : Bool) (l : List UInt8) : port11 b (l.map low8) = port11 b l := by
 unfold port11
 rw [port8_low]
 by_cases h : l = [42]
 ·rw [if_pos h, if_pos ((star_low l).2 h)]
 ·rw [if_neg h, if_neg (fun g => h ((star_low l).1 g))]
theorem hosted8_quote (s : List UInt8) : hosted8 (39 :: s) = (Src8.no_, false) := by
 have hs : scut (39 :: s) = ([], 39 :: s) := by
  unfold scut
  rw [if_neg]
  rintro ⟨g1, g2⟩
  have h := cut_true 58 [47, 47] (39 :: s) g1
  have n39 := low_char g2 39 (by decide)
  generalize (Lib.cut (39 :: s) [58, 47, 47]).1 = a at *
  generalize (Lib.cut (39 :: s) [58, 47, 47]).2.1 = r at *
  cases a with
  | nil => simp at h
  | cons x y => simp at h; exact n39 (by rw [← h.1]; simp)
 have ht : til [47] (39 :: s) = 39 :: til [47] s := by unfold til; rw [List.takeWhile_cons]; rfl
 have hc : ∃ q, (Lib.cut (39 :: til [47] s) [58]).1 = 39 :: q := by
  rw [cut_cons, if_neg (by simp [List.isPrefixOf])]
  exact ⟨_, rfl⟩
 obtain ⟨q, hq⟩ := hc
 unfold hosted8
 rw [hs]
 simp only
 rw [ht, hq]
 have hsub : sub11 ((39 :: q).map low8) = (39 :: q.map low8, false) := by
  unfold sub11
  rw [if_neg (by rw [List.map_cons]; simp [List.isPrefixOf, low8])]
  rfl
 rw [hsub]
 have hb : ∀ p pa, (Src8.mk 4 [] false (39 :: q.map low8) p pa []).good = false := by
  intro p pa
  have hh : host8 (39 :: q.map low8) = false := by
   rw [Bool.eq_false_iff]
   intro g
   exact host8_not g 39 (by decide) (by simp)
  unfold Src8.good Src8.host
  simp [hh]
 split
 ·rfl
 ·rw [if_neg (by rw [hb]; simp)]
def ref11 (s : List UInt8) : Src8 × Bool :=
 if s.map low8 = self11 then (⟨1, [], false, [], 0, [], []⟩, true)
 else if s = [42] then (⟨2, [], false, [], 0, [], []⟩, true)
 else if s.map low8 = [104, 116, 116, 112, 58] ∨ s.map low8 = [104, 116, 116, 112, 115, 58] then (⟨3, (s.map low8).dropLast, false, [], 0, [], []⟩, true)
 else if s.length > 8 ∧ (s.map low8).take 7 = nonceP ∧ s.getLast? = some 39 then
  (if nonce11 ((s.take (s.length - 1)).drop 7) = true then (⟨5, [], false, [], 0, [], (s.take (s.length - 1)).drop 7⟩, true) else (Src8.no_, false))
 else hosted8 s
theorem ref11_same (s : List UInt8) : ref11 s = parse11 s := by
 unfold ref11 parse11
 split
 ·rfl
 ·split
  ·rfl
  ·split
   ·rfl
   ·by_cases hp : nonceP.isPrefixOf (s.map low8) = true
    ·rw [if_pos hp]
     obtain ⟨t, ht⟩ := List.isPrefixOf_iff_prefix.1 hp
     have htake : (s.map low8).take 7 = nonceP := by rw [← ht]; exact List.take_left' rfl
     have h39 : ∃ r, s = 39 :: r := by
      cases s with
      | nil => cases ht
      | cons c r =>
       rw [List.map_cons] at ht
       have := (List.cons.inj ht).1
       exact ⟨r, by rw [low8_is c 39 this.symm (by decide)]⟩
     have hlen : 7 ≤ s.length := by have := congrArg List.length ht; simp at this; omega
     have ed : (s.take (s.length - 1)).drop 7 = (s.drop 7).dropLast := by
      rw [List.dropLast_eq_take, List.length_drop, List.drop_take]
      congr 1
     by_cases h8 : s.length > 8
     ·have el : s.getLast? = (s.drop 7).getLast? := by
       rw [List.getLast?_drop, if_neg (by omega)]
      by_cases hl : s.getLast? = some 39
      ·rw [if_pos ⟨h8, htake, hl⟩, ed]
       rw [el] at hl
       by_cases hn : nonce11 (s.drop 7).dropLast = true
       ·rw [if_pos hn, if_pos ⟨hl, hn⟩]
       ·rw [if_neg hn, if_neg (fun g => hn g.2)]
      ·rw [if_neg (fun g => hl g.2.2)]
       rw [el] at hl
       rw [if_neg (fun g => hl g.1)]
       obtain ⟨r, rfl⟩ := h39
       exact hosted8_quote r
     ·rw [if_neg (fun g => h8 g.1)]
      have hd : (s.drop 7).dropLast = [] := by
       apply List.eq_nil_of_length_eq_zero
       rw [List.length_dropLast, List.length_drop]; omega
      rw [hd, if_neg (fun g => by have := g.2; revert this; decide)]
      obtain ⟨r, rfl⟩ := h39
      exact hosted8_quote r
    ·rw [if_neg hp, if_neg]
     rintro ⟨_, g, _⟩
     apply hp
     exact List.isPrefixOf_iff_prefix.2 ⟨(s.map low8).drop 7, by rw [← g, List.take_append_drop]⟩
end Go.Proofs.YteemgpciheheoaaGreatDoorRRR.Hand
