/- How the laws' arguments open: each type's kind, size and well-formedness. No condition. -/
import Derived.Test.YtfibkgmbgdaeoaaDoorOpen
import Derived.Test.YtfibkgmbgdaeoaaDoorK
import Derived.KernelRfl
import Derived.Test.YtfibkgmbgdaeoaaDoorUrlQ
import Derived.Test.YtfibkgmbgdaeoaaDoorOriginG
import Derived.Test.YtfibkgmbgdaeoaaDoorFS2
import Derived.Test.YtfibkgmbgdaeoaaDoorFS3
namespace Go.Proofs.YtfibkgmbgdaeoaaDoor.Hand
open Go.RowKit Go.Proofs.YtfibkgmbgdaeoaaDoorW.PrintWords
set_option linter.unusedVariables false
theorem opens3 : Opens Tryd.prog 3 (Kd.int .i64) (fun _ => 1) (fun n => (Lit.int .i64 n).wf = true) := Opens.int Tryd.underlying3 (by kernel_rfl)
theorem opens9 : Opens Tryd.prog 9 Kd.string (fun s : ByteArray => s.size + 1) (fun _ => True) := Opens.string Tryd.underlying9 (by kernel_rfl)
theorem opens4 : Opens Tryd.prog 4 Kd.bool (fun _ => 1) (fun _ => True) := Opens.bool Tryd.underlying4 (by kernel_rfl)
def sz23 (x : S23) : Nat := ((fun _ => 1) x.f0 + ((fun s : ByteArray => s.size + 1) x.f1 + ((fun _ => 1) x.f2 + ((fun s : ByteArray => s.size + 1) x.f3 + ((fun _ => 1) x.f4 + ((fun s : ByteArray => s.size + 1) x.f5 + (fun s : ByteArray => s.size + 1) x.f6)))))) + 1
def wf23 (x : S23) : Prop := ((fun n => (Lit.int .i64 n).wf = true) x.f0 ∧ ((fun _ => True) x.f1 ∧ ((fun _ => True) x.f2 ∧ ((fun _ => True) x.f3 ∧ ((fun n => (Lit.int .i64 n).wf = true) x.f4 ∧ ((fun _ => True) x.f5 ∧ (fun _ => True) x.f6))))))
theorem opens23 : Opens Tryd.prog 23 k23 sz23 wf23 := Opens.struct Tryd.underlying23 (by kernel_rfl) (OpensF.cons rfl opens3 (OpensF.cons rfl opens9 (OpensF.cons rfl opens4 (OpensF.cons rfl opens9 (OpensF.cons rfl opens3 (OpensF.cons rfl opens9 (OpensF.one rfl opens9))))))) (fun x : S23 => (x.f0, x.f1, x.f2, x.f3, x.f4, x.f5, x.f6)) (fun p => ⟨p.1, p.2.1, p.2.2.1, p.2.2.2.1, p.2.2.2.2.1, p.2.2.2.2.2.1, p.2.2.2.2.2.2⟩) (fun _ => rfl)
end Go.Proofs.YtfibkgmbgdaeoaaDoor.Hand

/- The law UrlRound in plain Lean: text and parse come back of each other. Conditions: at most 2^20 bytes of bulk. -/
namespace Go.Proofs.YtfibkgmbgdaeoaaDoor.Hand
open Go.RowKit Go.Proofs.YtfibkgmbgdaeoaaDoorW.PrintWords Go.Proofs.YtfibkgmbgdaeoaaDoorW.PrintLast Go.Proofs.YtfibkgmbgdaeoaaDoorW.PrintMore
set_option linter.unusedVariables false
set_option linter.unusedSimpArgs false

theorem U8.Good.small {u : U8} (h : u.Good) : u.Small := by
 have h1 := h.all
 have h2 := h.usl
 rw [U8.textLen] at h1
 simp only [U8.bare] at h1
 have hq : u.qu.length ≤ 1024 := by
  rcases h.hq with c | c
  ·rw [c] at h1; simp only [qLen, if_true, List.length_cons] at h1; omega
  ·rw [c]; simp
 have hf : u.fr.length ≤ 1024 := by
  rcases h.hf with c | c
  ·rw [c] at h1; simp only [qLen, if_true, List.length_cons] at h1; omega
  ·rw [c]; simp
 constructor <;> omega
theorem U8.Good.len {u : U8} (h : u.Good) : u.text.length ≤ 1153 := by
 have h1 := h.all
 have h2 := h.usl
 have h3 := bare_length u
 split at h3 <;> omega
theorem U8.Good.port {u : U8} (h : u.Good) : u.port > 0 := by
 have h1 := h.po
 unfold U8.port
 split
 ·rcases def8_sc h.sc with e | e <;> rw [e] <;> decide
 ·omega
end Go.Proofs.YtfibkgmbgdaeoaaDoor.Hand

/- Origins over lists of bytes: what the package and the reference compute. Conditions: at most 2^20 bytes of bulk. -/
namespace Go.Proofs.YtfibkgmbgdaeoaaDoor.Hand
open Go.RowKit Go.Proofs.YtfibkgmbgdaeoaaDoorW.PrintWords Go.Proofs.YtfibkgmbgdaeoaaDoorW.PrintLast Go.Proofs.YtfibkgmbgdaeoaaDoorW.PrintMore
set_option linter.unusedVariables false
set_option linter.unusedSimpArgs false

structure O8 where
 (sc ho : List UInt8) (po : Int)
deriving DecidableEq
def O8.nob (o : O8) : Bool := decide (o.sc = [] ∧ o.ho = [] ∧ o.po = 0)
def O8.bare (o : O8) : U8 := ⟨o.sc, [], o.ho, if o.po = def8 o.sc then 0 else o.po, [47], false, [], false, []⟩
def O8.one (o : O8) : Bool := decide (def8 o.sc ≠ 0 ∧ 0 < o.po ∧ o.po ≤ 65535) && host8 o.ho
def O8.good (o : O8) : Bool := o.nob || o.one
def O8.long (o : O8) : List UInt8 := o.bare.textX []
def null8 : List UInt8 := [110, 117, 108, 108]
def O8.text (o : O8) : List UInt8 := if o.nob = true then null8 else if o.one = true then o.long else []
structure O8.Small (o : O8) : Prop where
 sc : o.sc.length ≤ 1099511627
 ho : o.ho.length ≤ 1099511627
 po : -9223372036854775808 ≤ o.po ∧ o.po ≤ 9223372036854775807
theorem nob_ba (o : O8) : nobody (ba o.sc) (ba o.ho) o.po = o.nob := by
 unfold nobody O8.nob
 have e : (⟨#[]⟩ : ByteArray) = ba [] := rfl
 rw [e, Bool.eq_iff_iff, decide_eq_true_iff, decide_eq_true_iff]
 constructor
 ·rintro ⟨h1, h2, h3⟩; exact ⟨ba_inj h1, ba_inj h2, h3⟩
 ·rintro ⟨h1, h2, h3⟩; exact ⟨by rw [h1], by rw [h2], h3⟩
theorem O8.bare_small {o : O8} (h : o.Small) : o.bare.Small := ⟨h.sc, by simp [O8.bare], h.ho, by simp [O8.bare], by simp [O8.bare], by simp [O8.bare]⟩
theorem def8_nat (l : List UInt8) : def8 l = 0 ∨ def8 l = 80 ∨ def8 l = 443 := by
 unfold def8
 split
 ·exact .inr (.inl rfl)
 ·split
  ·exact .inr (.inr rfl)
  ·exact .inl rfl
theorem portT_len (p : Int) (h : 0 ≤ p ∧ p ≤ 65535) : (portT p).length ≤ 6 := by
 obtain ⟨n, rfl⟩ : ∃ n : Nat, p = n := ⟨p.toNat, by omega⟩
 unfold portT
 split
 ·simp
 ·have := decDigits_len5 n (by omega)
  rw [itoa_nat, List.length_cons]; omega
theorem O8.bare_good (o : O8) (h0 : o.po ≠ 0) : o.bare.good = o.one := by
 rw [Bool.eq_iff_iff, U8.good_iff]
 unfold O8.one
 rw [Bool.and_eq_true, decide_eq_true_iff]
 have hd := def8_nat o.sc
 constructor
 ·intro h
  have h1 := h.sc
  have h2 := h.po
  have h3 := h.ho
  simp only [O8.bare] at h1 h2 h3
  refine ⟨⟨h1, ?_⟩, h3⟩
  split at h2 <;> omega
 ·rintro ⟨⟨h1, h2, h3⟩, h4⟩
  have h5 : 0 ≤ o.bare.po ∧ o.bare.po ≤ 65535 ∧ o.bare.po ≠ def8 o.sc := by
   simp only [O8.bare]
   split <;> omega
  refine ⟨h1, h5, h4, rfl, rfl, (by decide : ([47] : List UInt8).all (ok8 bad1) = true), rfl, rfl, .inr rfl, .inr rfl, by simp [O8.bare], ?_⟩
  have h6 := portT_len o.bare.po (by omega)
  have h7 : o.ho.length ≤ 253 := by
   unfold host8 at h4
   rw [Bool.and_eq_true] at h4
   exact of_decide_eq_true h4.1
  have h8 : o.sc.length ≤ 5 := by rcases def8_sc h1 with e | e <;> rw [e] <;> decide
  rw [U8.textLen]
  have e1 : o.bare.bare.us = [] := rfl
  have e2 : o.bare.bare.hq = false := rfl
  have e3 : o.bare.bare.hf = false := rfl
  have e4 : o.bare.bare.pa = [47] := rfl
  have e5 : o.bare.bare.sc = o.sc := rfl
  have e6 : o.bare.bare.ho = o.ho := rfl
  have e7 : o.bare.bare.po = o.bare.po := rfl
  rw [e1, e2, e3, e4, e5, e6, e7]
  simp [usLen, qLen]
  omega
theorem O8.good_nob {o : O8} (h : o.nob = true) : o.good = true := by unfold O8.good; rw [h]; rfl
theorem O8.good_zero {o : O8} (h : ¬o.nob = true) (h0 : o.po = 0) : o.good = false := by
 unfold O8.good O8.one
 rw [show o.nob = false from by simpa using h, decide_eq_false (fun e => by omega)]; rfl
theorem O8.good_one {o : O8} (h : ¬o.nob = true) : o.good = o.one := by
 unfold O8.good
 rw [show o.nob = false from by simpa using h]; rfl
theorem progBare (o : O8) : origin_bare.f (ba o.sc) (ba o.ho) o.po = some (ba o.bare.sc, ba o.bare.us, ba o.bare.ho, o.bare.po, ba o.bare.pa, o.bare.hq, ba o.bare.qu, o.bare.hf, ba o.bare.fr) := by
 unfold origin_bare.f
 rw [progDef]
 rfl
theorem progGoodO (o : O8) (h : o.Small) : Ev (fun k => origin_Good.f k (ba o.sc) (ba o.ho) o.po) o.good := by
 unfold origin_Good.f
 rw [nob_ba]
 refine Ev.ite (fun c => ?_) (fun c => Ev.ite (fun d => ?_) (fun d => ?_))
 ·rw [O8.good_nob c]; exact Ev.now _
 ·rw [O8.good_zero c d]; exact Ev.now _
 ·rw [O8.good_one c, ← O8.bare_good o d, progBare]
  exact progGood o.bare (O8.bare_small h)
def ofU (u : U8) : O8 := if u.good = true then ⟨u.sc, u.ho, u.port⟩ else ⟨[], [], 0⟩
theorem progOf (u : U8) (h : u.Small) : Ev (fun k => origin_Of.f k (ba u.sc) (ba u.us) (ba u.ho) u.po (ba u.pa) u.hq (ba u.qu) u.hf (ba u.fr)) (ba (ofU u).sc, ba (ofU u).ho, (ofU u).po) := by
 unfold origin_Of.f ofU
 refine Ev.bind (progGood u h) (Ev.ite (fun c => ?_) (fun c => ?_))
 ·rw [if_pos c]; exact Ev.some_bind (fun _ => progPortU u) (Ev.now _)
 ·rw [if_neg c]; exact Ev.now _
theorem ofU_small {u : U8} (h : u.good = true) : (ofU u).Small := by
 have hG := (U8.good_iff _).1 h
 have h1 := hG.small
 have h2 := hG.po
 have h3 := def8_nat u.sc
 unfold ofU
 rw [if_pos h]
 refine ⟨h1.sc, h1.ho, ?_⟩
 simp only [U8.port]
 split <;> omega
def O8.tup (x : O8 × Int) : ByteArray × ByteArray × Int × Int := (ba x.1.sc, ba x.1.ho, x.1.po, x.2)
def O8.same (a b : O8) : Bool := decide (a.nob = false ∧ a.one = true ∧ a = b)
theorem O8.eq_ba (a b : O8) : (ba a.sc = ba b.sc ∧ ba a.ho = ba b.ho ∧ a.po = b.po) ↔ a = b := by
 constructor
 ·rintro ⟨h1, h2, h3⟩
  obtain ⟨a1, a2, a3⟩ := a
  obtain ⟨b1, b2, b3⟩ := b
  simp only at h1 h2 h3
  rw [ba_inj h1, ba_inj h2, h3]
 ·rintro rfl; exact ⟨rfl, rfl, rfl⟩
theorem progSameO (a b : O8) (h : a.Small) : Ev (fun k => origin_Same.f k (ba a.sc) (ba a.ho) a.po (ba b.sc) (ba b.ho) b.po) (a.same b) := by
 unfold origin_Same.f O8.same
 rw [nob_ba]
 refine Ev.ite (fun c => ?_) (fun c => ?_)
 ·rw [decide_eq_false (fun e => by rw [c] at e; cases e.1)]; exact Ev.now _
 ·have c' : a.nob = false := by simpa using c
  refine Ev.bind (progGoodO a h) ?_
  rw [O8.good_one c]
  refine Ev.ite (fun d => ?_) (fun d => ?_)
  ·rw [show decide (ba a.sc = ba b.sc ∧ ba a.ho = ba b.ho ∧ a.po = b.po) = decide (a.nob = false ∧ a.one = true ∧ a = b) from by
    rw [Bool.eq_iff_iff, decide_eq_true_iff, decide_eq_true_iff, O8.eq_ba]
    exact ⟨fun e => ⟨c', d, e⟩, fun e => e.2.2⟩]
   exact Ev.now _
  ·rw [decide_eq_false (fun e => d e.2.1)]; exact Ev.now _
end Go.Proofs.YtfibkgmbgdaeoaaDoor.Hand
