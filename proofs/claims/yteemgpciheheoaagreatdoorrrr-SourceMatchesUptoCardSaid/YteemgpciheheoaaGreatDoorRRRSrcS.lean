/- Origins over lists of bytes: what the package and the reference compute. Conditions: at most 2^20 bytes of bulk. -/
import Derived.Test.YteemgpciheheoaaGreatDoorRRRUrlL
import Derived.Test.YteemgpciheheoaaGreatDoorRRRSrcO
import Derived.Test.YteemgpciheheoaaGreatDoorRRRFG1
namespace Go.Proofs.YteemgpciheheoaaGreatDoorRRR.Hand
open Go.RowKit Go.Proofs.YteemgpciheheoaaGreatDoorRRRW.PrintWords Go.Proofs.YteemgpciheheoaaGreatDoorRRRW.PrintLast Go.Proofs.YteemgpciheheoaaGreatDoorRRRW.PrintMore
set_option linter.unusedVariables false
set_option linter.unusedSimpArgs false

structure O8 where
 (sc ho : List UInt8) (po : Int)
deriving DecidableEq
def O8.nob (o : O8) : Bool := decide (o.sc = [] ∧ o.ho = [] ∧ o.po = 0)
def O8.bare (o : O8) : U8 := ⟨o.sc, [], o.ho, if o.po = def8 o.sc then 0 else o.po, [47], false, [], false, []⟩
def O8.one (o : O8) : Bool := decide (def8 o.sc ≠ 0 ∧ 0 < o.po ∧ o.po ≤ 65535) && host8 o.ho
def O8.good (o : O8) : Bool := o.nob || o.one
def O8.long (o : O8) : List UInt8 := o.bare.textX []
def null8 : List UInt8 := [110, 117, 108, 108]
def O8.text (o : O8) : List UInt8 := if o.nob = true then null8 else if o.one = true then o.long else []
structure O8.Small (o : O8) : Prop where
 sc : o.sc.length ≤ 1099511627
 ho : o.ho.length ≤ 1099511627
 po : -9223372036854775808 ≤ o.po ∧ o.po ≤ 9223372036854775807
theorem nob_ba (o : O8) : nobody (ba o.sc) (ba o.ho) o.po = o.nob := by
 unfold nobody O8.nob
 have e : (⟨#[]⟩ : ByteArray) = ba [] := rfl
 rw [e, Bool.eq_iff_iff, decide_eq_true_iff, decide_eq_true_iff]
 constructor
 ·rintro ⟨h1, h2, h3⟩; exact ⟨ba_inj h1, ba_inj h2, h3⟩
 ·rintro ⟨h1, h2, h3⟩; exact ⟨by rw [h1], by rw [h2], h3⟩
theorem O8.bare_small {o : O8} (h : o.Small) : o.bare.Small := ⟨h.sc, by simp [O8.bare], h.ho, by simp [O8.bare], by simp [O8.bare], by simp [O8.bare]⟩
theorem def8_nat (l : List UInt8) : def8 l = 0 ∨ def8 l = 80 ∨ def8 l = 443 := by
 unfold def8
 split
 ·exact .inr (.inl rfl)
 ·split
  ·exact .inr (.inr rfl)
  ·exact .inl rfl
theorem portT_len (p : Int) (h : 0 ≤ p ∧ p ≤ 65535) : (portT p).length ≤ 6 := by
 obtain ⟨n, rfl⟩ : ∃ n : Nat, p = n := ⟨p.toNat, by omega⟩
 unfold portT
 split
 ·simp
 ·have := decDigits_len5 n (by omega)
  rw [itoa_nat, List.length_cons]; omega
theorem O8.bare_good (o : O8) (h0 : o.po ≠ 0) : o.bare.good = o.one := by
 rw [Bool.eq_iff_iff, U8.good_iff]
 unfold O8.one
 rw [Bool.and_eq_true, decide_eq_true_iff]
 have hd := def8_nat o.sc
 constructor
 ·intro h
  have h1 := h.sc
  have h2 := h.po
  have h3 := h.ho
  simp only [O8.bare] at h1 h2 h3
  refine ⟨⟨h1, ?_⟩, h3⟩
  split at h2 <;> omega
 ·rintro ⟨⟨h1, h2, h3⟩, h4⟩
  have h5 : 0 ≤ o.bare.po ∧ o.bare.po ≤ 65535 ∧ o.bare.po ≠ def8 o.sc := by
   simp only [O8.bare]
   split <;> omega
  refine ⟨h1, h5, h4, rfl, rfl, (by decide : ([47] : List UInt8).all (ok8 bad1) = true), rfl, rfl, .inr rfl, .inr rfl, by simp [O8.bare], ?_⟩
  have h6 := portT_len o.bare.po (by omega)
  have h7 : o.ho.length ≤ 253 := by
   unfold host8 at h4
   rw [Bool.and_eq_true] at h4
   exact of_decide_eq_true h4.1
  have h8 : o.sc.length ≤ 5 := by rcases def8_sc h1 with e | e <;> rw [e] <;> decide
  rw [U8.textLen]
  have e1 : o.bare.bare.us = [] := rfl
  have e2 : o.bare.bare.hq = false := rfl
  have e3 : o.bare.bare.hf = false := rfl
  have e4 : o.bare.bare.pa = [47] := rfl
  have e5 : o.bare.bare.sc = o.sc := rfl
  have e6 : o.bare.bare.ho = o.ho := rfl
  have e7 : o.bare.bare.po = o.bare.po := rfl
  rw [e1, e2, e3, e4, e5, e6, e7]
  simp [usLen, qLen]
  omega
theorem O8.good_nob {o : O8} (h : o.nob = true) : o.good = true := by unfold O8.good; rw [h]; rfl
theorem O8.good_zero {o : O8} (h : ¬o.nob = true) (h0 : o.po = 0) : o.good = false := by
 unfold O8.good O8.one
 rw [show o.nob = false from by simpa using h, decide_eq_false (fun e => by omega)]; rfl
theorem O8.good_one {o : O8} (h : ¬o.nob = true) : o.good = o.one := by
 unfold O8.good
 rw [show o.nob = false from by simpa using h]; rfl
theorem progBare (o : O8) : origin_bare.f (ba o.sc) (ba o.ho) o.po = some (ba o.bare.sc, ba o.bare.us, ba o.bare.ho, o.bare.po, ba o.bare.pa, o.bare.hq, ba o.bare.qu, o.bare.hf, ba o.bare.fr) := by
 unfold origin_bare.f
 rw [progDef]
 rfl
theorem progGoodO (o : O8) (h : o.Small) : Ev (fun k => origin_Good.f k (ba o.sc) (ba o.ho) o.po) o.good := by
 unfold origin_Good.f
 rw [nob_ba]
 refine Ev.ite (fun c => ?_) (fun c => Ev.ite (fun d => ?_) (fun d => ?_))
 ·rw [O8.good_nob c]; exact Ev.now _
 ·rw [O8.good_zero c d]; exact Ev.now _
 ·rw [O8.good_one c, ← O8.bare_good o d, progBare]
  exact progGood o.bare (O8.bare_small h)
theorem refNob (o : O8) : pursuivantref08_Nobody.f (ba o.sc) (ba o.ho) o.po = some o.nob := by
 unfold pursuivantref08_Nobody.f O8.nob
 rw [ba_list, ba_list]
 split
 ·split
  ·congr 1
   rw [Bool.eq_iff_iff, decide_eq_true_iff]
   rename_i h1 h2
   exact ⟨fun h => ⟨h1, h2, by simpa using h⟩, fun h => by simpa using h.2.2⟩
  ·rename_i h2
   rw [decide_eq_false (fun h => h2 h.2.1)]
 ·rename_i h1
  rw [decide_eq_false (fun h => h1 h.1)]
theorem refGoodO (o : O8) (h : o.Small) : Ev (fun k => pursuivantref08_Good.f k (ba o.sc) (ba o.ho) o.po) o.good := by
 unfold pursuivantref08_Good.f
 have hd := def8_nat o.sc
 refine Ev.some_bind (fun _ => refNob o) (Ev.ite (fun c => ?_) (fun c => ?_))
 ·rw [O8.good_nob c]; exact Ev.now _
 ·rw [O8.good_one c]
  unfold O8.one
  refine Ev.some_bind (fun _ => refDef _) (Ev.ite (fun d => ?_) (fun d => ?_))
  ·refine Ev.bind (refHost o.ho (by have := h.ho; omega)) (Ev.ite (fun e => ?_) (fun e => ?_))
   ·rw [e, Bool.and_true]
    refine Ev.ite (fun f => ?_) (fun f => ?_)
    ·rw [show decide (o.po < 65536) = decide (def8 o.sc ≠ 0 ∧ 0 < o.po ∧ o.po ≤ 65535) from by rw [Bool.eq_iff_iff, decide_eq_true_iff, decide_eq_true_iff]; omega]
     exact Ev.now _
    ·rw [decide_eq_false (fun g => by omega)]; exact Ev.now _
   ·rw [show host8 o.ho = false from by simpa using e, Bool.and_false]; exact Ev.now _
  ·rw [decide_eq_false (fun g => by omega), Bool.false_and]; exact Ev.now _
def ofU (u : U8) : O8 := if u.good = true then ⟨u.sc, u.ho, u.port⟩ else ⟨[], [], 0⟩
theorem progOf (u : U8) (h : u.Small) : Ev (fun k => origin_Of.f k (ba u.sc) (ba u.us) (ba u.ho) u.po (ba u.pa) u.hq (ba u.qu) u.hf (ba u.fr)) (ba (ofU u).sc, ba (ofU u).ho, (ofU u).po) := by
 unfold origin_Of.f ofU
 refine Ev.bind (progGood u h) (Ev.ite (fun c => ?_) (fun c => ?_))
 ·rw [if_pos c]; exact Ev.some_bind (fun _ => progPortU u) (Ev.now _)
 ·rw [if_neg c]; exact Ev.now _
theorem refOf (u : U8) (h : u.Small) : Ev (fun k => pursuivantref08_Of.f k (ba u.sc) (ba u.us) (ba u.ho) u.po (ba u.pa) u.hq (ba u.qu) u.hf (ba u.fr)) (ba (ofU u).sc, ba (ofU u).ho, (ofU u).po) := by
 unfold pursuivantref08_Of.f ofU
 refine Ev.bind (refGoodU u h) (Ev.ite (fun c => ?_) (fun c => ?_))
 ·rw [if_pos c]; exact Ev.some_bind (fun _ => refPortU u) (Ev.now _)
 ·rw [if_neg c]; exact Ev.now _
theorem ofU_small {u : U8} (h : u.good = true) : (ofU u).Small := by
 have hG := (U8.good_iff _).1 h
 have h1 := hG.small
 have h2 := hG.po
 have h3 := def8_nat u.sc
 unfold ofU
 rw [if_pos h]
 refine ⟨h1.sc, h1.ho, ?_⟩
 simp only [U8.port]
 split <;> omega
def O8.tup (x : O8 × Int) : ByteArray × ByteArray × Int × Int := (ba x.1.sc, ba x.1.ho, x.1.po, x.2)
def O8.same (a b : O8) : Bool := decide (a.nob = false ∧ a.one = true ∧ a = b)
theorem O8.eq_ba (a b : O8) : (ba a.sc = ba b.sc ∧ ba a.ho = ba b.ho ∧ a.po = b.po) ↔ a = b := by
 constructor
 ·rintro ⟨h1, h2, h3⟩
  obtain ⟨a1, a2, a3⟩ := a
  obtain ⟨b1, b2, b3⟩ := b
  simp only at h1 h2 h3
  rw [ba_inj h1, ba_inj h2, h3]
 ·rintro rfl; exact ⟨rfl, rfl, rfl⟩
theorem progSameO (a b : O8) (h : a.Small) : Ev (fun k => origin_Same.f k (ba a.sc) (ba a.ho) a.po (ba b.sc) (ba b.ho) b.po) (a.same b) := by
 unfold origin_Same.f O8.same
 rw [nob_ba]
 refine Ev.ite (fun c => ?_) (fun c => ?_)
 ·rw [decide_eq_false (fun e => by rw [c] at e; cases e.1)]; exact Ev.now _
 ·have c' : a.nob = false := by simpa using c
  refine Ev.bind (progGoodO a h) ?_
  rw [O8.good_one c]
  refine Ev.ite (fun d => ?_) (fun d => ?_)
  ·rw [show decide (ba a.sc = ba b.sc ∧ ba a.ho = ba b.ho ∧ a.po = b.po) = decide (a.nob = false ∧ a.one = true ∧ a = b) from by
    rw [Bool.eq_iff_iff, decide_eq_true_iff, decide_eq_true_iff, O8.eq_ba]
    exact ⟨fun e => ⟨c', d, e⟩, fun e => e.2.2⟩]
   exact Ev.now _
  ·rw [decide_eq_false (fun e => d e.2.1)]; exact Ev.now _
theorem refSameO (a b : O8) (h : a.Small) : Ev (fun k => pursuivantref08_Same.f k (ba a.sc) (ba a.ho) a.po (ba b.sc) (ba b.ho) b.po) (a.same b) := by
 unfold pursuivantref08_Same.f O8.same
 refine Ev.bind (refGoodO a h) (Ev.ite (fun c => ?_) (fun c => ?_))
 ·refine Ev.some_bind (fun _ => refNob a) (Ev.ite (fun d => ?_) (fun d => ?_))
  ·rw [decide_eq_false (fun e => by rw [d] at e; cases e.1)]; exact Ev.now _
  ·have d' : a.nob = false := by simpa using d
   rw [O8.good_one d] at c
   simp only [ba_list]
   have e0 := O8.eq_ba a b
   refine Ev.ite (fun e => ?_) (fun e => ?_)
   ·refine Ev.ite (fun f => ?_) (fun f => ?_)
    ·rw [show (a.po == b.po) = decide (a.nob = false ∧ a.one = true ∧ a = b) from by
      rw [Bool.eq_iff_iff, decide_eq_true_iff, beq_iff_eq]
      exact ⟨fun g => ⟨d', c, e0.1 ⟨by rw [e], by rw [f], g⟩⟩, fun g => by rw [g.2.2]⟩]
     exact Ev.now _
    ·rw [decide_eq_false (fun g => f (by rw [g.2.2]))]; exact Ev.now _
   ·rw [decide_eq_false (fun g => e (by rw [g.2.2]))]; exact Ev.now _
 ·rw [decide_eq_false (fun e => c (by unfold O8.good; rw [e.2.1]; simp))]; exact Ev.now _
end Go.Proofs.YteemgpciheheoaaGreatDoorRRR.Hand

/- Sources over lists of bytes: which may be, their texts, the source of a word; the round trip. No condition. -/
namespace Go.Proofs.YteemgpciheheoaaGreatDoorRRR.Hand
open Go.RowKit Go.Proofs.YteemgpciheheoaaGreatDoorRRRW.PrintWords Go.Proofs.YteemgpciheheoaaGreatDoorRRRW.PrintLast Go.Proofs.YteemgpciheheoaaGreatDoorRRRW.PrintMore
set_option linter.unusedVariables false
set_option linter.unusedSimpArgs false

structure Src8 where
 (ki : Int) (sc : List UInt8) (sub : Bool) (ho : List UInt8) (po : Int) (pa no : List UInt8)
deriving DecidableEq
def nonceC (c : UInt8) : Bool := decide ((48 ≤ c.toNat ∧ c.toNat ≤ 57) ∨ (65 ≤ c.toNat ∧ c.toNat ≤ 90) ∨ (97 ≤ c.toNat ∧ c.toNat ≤ 122)) || [43, 47, 95, 45, 61].contains c
def nonce11 (l : List UInt8) : Bool := l.all nonceC && decide (l ≠ [])
def path11 (l : List UInt8) : Bool := decide (l.head? = some 47) && l.all (ok8 bad1)
def Src8.host (x : Src8) : Bool := decide (x.sc = [] ∨ def8 x.sc ≠ 0) && (host8 x.ho && (decide (-1 ≤ x.po ∧ x.po ≤ 65535) && ((decide (x.pa = []) || path11 x.pa) && decide (x.no = []))))
def Src8.good (x : Src8) : Bool :=
 if x.ki = 1 ∨ x.ki = 2 then decide (x = ⟨x.ki, [], false, [], 0, [], []⟩)
 else if x.ki = 3 then decide (x = ⟨3, x.sc, false, [], 0, [], []⟩) && decide (def8 x.sc ≠ 0)
 else if x.ki = 5 then decide (x = ⟨5, [], false, [], 0, [], x.no⟩) && nonce11 x.no
 else if x.ki = 4 then x.host else false
def portS (po : Int) : List UInt8 := if po = -1 then [58, 42] else if po > 0 then 58 :: Lib.itoa po else []
def Src8.long (x : Src8) : List UInt8 := (if x.sc = [] then [] else x.sc ++ [58, 47, 47]) ++ (if x.sub = true then [42, 46] else []) ++ x.ho ++ portS x.po ++ x.pa
abbrev self11 : List UInt8 := [39, 115, 101, 108, 102, 39]
abbrev nonceP : List UInt8 := [39, 110, 111, 110, 99, 101, 45]
def Src8.text (x : Src8) : List UInt8 := if x.good = true then (if x.ki = 1 then self11 else if x.ki = 2 then [42] else if x.ki = 3 then x.sc ++ [58] else if x.ki = 5 then nonceP ++ x.no ++ [39] else x.long) else []
def Src8.no_ : Src8 := ⟨0, [], false, [], 0, [], []⟩
def scut (s : List UInt8) : List UInt8 × List UInt8 := if (Lib.cut s [58, 47, 47]).2.2 = true ∧ def8 ((Lib.cut s [58, 47, 47]).1.map low8) ≠ 0 then ((Lib.cut s [58, 47, 47]).1.map low8, (Lib.cut s [58, 47, 47]).2.1) else ([], s)
def port11 (b : Bool) (l : List UInt8) : Option Int := if b = true then (if l = [42] then some (-1) else if (port8 l).2 = true then some (port8 l).1 else none) else some 0
def sub11 (l : List UInt8) : List UInt8 × Bool := if [42, 46].isPrefixOf l = true then (l.drop 2, true) else (l, false)
def hosted8 (s : List UInt8) : Src8 × Bool :=
 match port11 (Lib.cut (til [47] (scut s).2) [58]).2.2 (Lib.cut (til [47] (scut s).2) [58]).2.1 with
 | none => (Src8.no_, false)
 | some p => if (Src8.mk 4 (scut s).1 (sub11 ((Lib.cut (til [47] (scut s).2) [58]).1.map low8)).2 (sub11 ((Lib.cut (til [47] (scut s).2) [58]).1.map low8)).1 p (aft [47] (scut s).2) []).good = true
  then (Src8.mk 4 (scut s).1 (sub11 ((Lib.cut (til [47] (scut s).2) [58]).1.map low8)).2 (sub11 ((Lib.cut (til [47] (scut s).2) [58]).1.map low8)).1 p (aft [47] (scut s).2) [], true) else (Src8.no_, false)
def parse11 (s : List UInt8) : Src8 × Bool :=
 if s.map low8 = self11 then (⟨1, [], false, [], 0, [], []⟩, true)
 else if s = [42] then (⟨2, [], false, [], 0, [], []⟩, true)
 else if s.map low8 = [104, 116, 116, 112, 58] ∨ s.map low8 = [104, 116, 116, 112, 115, 58] then (⟨3, (s.map low8).dropLast, false, [], 0, [], []⟩, true)
 else if nonceP.isPrefixOf (s.map low8) = true then
  (if (s.drop 7).getLast? = some 39 ∧ nonce11 (s.drop 7).dropLast = true then (⟨5, [], false, [], 0, [], (s.drop 7).dropLast⟩, true) else (Src8.no_, false))
 else hosted8 s

def Src8.pre (x : Src8) : List UInt8 := (if x.sub = true then [42, 46] else []) ++ x.ho
def Src8.rest (x : Src8) : List UInt8 := x.pre ++ portS x.po ++ x.pa
end Go.Proofs.YteemgpciheheoaaGreatDoorRRR.Hand
