/- Package source over lists of bytes: which may be, their texts, the source of a word. Conditions: at most 2^26 bytes a part. -/
import Derived.Test.YtfibkgmbgdaeoaaDoorSrcF
namespace Go.Proofs.YtfibkgmbgdaeoaaDoor.Hand
open Go.RowKit Go.Proofs.YtfibkgmbgdaeoaaDoorW.PrintWords Go.Proofs.YtfibkgmbgdaeoaaDoorW.PrintLast Go.Proofs.YtfibkgmbgdaeoaaDoorW.PrintMore
set_option linter.unusedVariables false
set_option linter.unusedSimpArgs false

structure Src8.Small (x : Src8) : Prop where
 sc : x.sc.length ≤ 109951162
 ho : x.ho.length ≤ 109951162
 pa : x.pa.length ≤ 109951162
 no : x.no.length ≤ 109951162
 po : -9223372036854775808 ≤ x.po ∧ x.po ≤ 9223372036854775807
theorem beqNil (l : List UInt8) : (l == ([] : List UInt8)) = decide (l = []) := by cases l <;> simp
theorem progPlace (x : Src8) (hs : x.Small) : Ev (fun k => source_place.f k x.ki (ba x.sc) x.sub (ba x.ho) x.po (ba x.pa) (ba x.no)) x.host := by
 obtain ⟨ki, sc, sub, ho, po, pa, no⟩ := x
 obtain ⟨h1, h2, h3, h4, h5⟩ := hs
 simp only at h1 h2 h3 h4 h5 ⊢
 unfold source_place.f Src8.host
 simp only [ba_list]
 have stop : ∀ {b : Bool}, b = false → Ev (fun k => source_place.j0 k true ki (ba sc) sub (ba ho) po (ba pa) (ba no)) b := by
  rintro b rfl
  refine Ev.step (fun k => by rw [source_place.j0]) ?_
  exact Ev.if_pos rfl (Ev.now _)
 have tail : Ev (fun k => if no = [] then (host_Good.f k (ba ho)).bind fun t => source_place.j0 k (!t) ki (ba sc) sub (ba ho) po (ba pa) (ba no) else source_place.j0 k true ki (ba sc) sub (ba ho) po (ba pa) (ba no)) (host8 ho && ((decide (pa = []) || path11 pa) && decide (no = []))) := by
  refine Ev.ite (fun c => ?_) (fun c => stop (by rw [decide_eq_false c]; simp))
  rw [decide_eq_true c, Bool.and_true]
  refine Ev.bind (progHost ho (by omega)) ?_
  cases hh : host8 ho
  ·exact stop rfl
  ·rw [Bool.true_and]
   refine Ev.step (fun k => by rw [source_place.j0]) ?_
   simp only [Bool.not_true, ba_list]
   refine Ev.if_neg (by simp) (Ev.ite (fun d => ?_) (fun d => ?_))
   ·rw [decide_eq_true d]; exact Ev.now _
   ·rw [decide_eq_false d, Bool.false_or]
    refine Ev.bind (progPathU pa (by omega)) (Ev.ite (fun e => ?_) (fun e => ?_))
    ·rw [Bool.and_eq_true] at e
     rw [e.1]; exact Ev.now _
    ·unfold source_long.f
     exact Ev.bind (progLong _ pa (Nat.le_refl _) (by omega)) (Ev.now _)
 have port : Ev (fun k => if po < -1 then source_place.j0 k true ki (ba sc) sub (ba ho) po (ba pa) (ba no) else if po > 65535 then source_place.j0 k true ki (ba sc) sub (ba ho) po (ba pa) (ba no) else if no = [] then (host_Good.f k (ba ho)).bind fun t => source_place.j0 k (!t) ki (ba sc) sub (ba ho) po (ba pa) (ba no) else source_place.j0 k true ki (ba sc) sub (ba ho) po (ba pa) (ba no)) (host8 ho && (decide (-1 ≤ po ∧ po ≤ 65535) && ((decide (pa = []) || path11 pa) && decide (no = [])))) := by
  refine Ev.ite (fun c => stop ?_) (fun c => Ev.ite (fun d => stop ?_) (fun d => ?_))
  ·rw [decide_eq_false (show ¬(-1 ≤ po ∧ po ≤ 65535) by omega)]; simp
  ·rw [decide_eq_false (show ¬(-1 ≤ po ∧ po ≤ 65535) by omega)]; simp
  ·rw [decide_eq_true (show -1 ≤ po ∧ po ≤ 65535 by omega), Bool.true_and]; exact tail
 refine Ev.ite (fun c => ?_) (fun c => ?_)
 ·rw [decide_eq_true (show sc = [] ∨ def8 sc ≠ 0 from .inl c), Bool.true_and]; exact port
 ·refine Ev.some_bind (fun _ => progDef sc) (Ev.ite (fun d => stop ?_) (fun d => ?_))
  ·rw [decide_eq_false (show ¬(sc = [] ∨ def8 sc ≠ 0) by rintro (e | e); exact c e; exact e d), Bool.false_and]
  ·rw [decide_eq_true (show sc = [] ∨ def8 sc ≠ 0 from .inr d), Bool.true_and]; exact port
theorem def_pos (l : List UInt8) : decide (def8 l > 0) = decide (def8 l ≠ 0) := by
 rcases def8_nat l with h | h | h <;> rw [h] <;> decide
theorem progGoodS (x : Src8) (hs : x.Small) : Ev (fun k => source_Good.f k x.ki (ba x.sc) x.sub (ba x.ho) x.po (ba x.pa) (ba x.no)) x.good := by
 have hp := progPlace x hs
 obtain ⟨ki, sc, sub, ho, po, pa, no⟩ := x
 obtain ⟨h1, h2, h3, h4, h5⟩ := hs
 simp only at h1 h2 h3 h4 h5 hp ⊢
 unfold source_Good.f Src8.good
 simp only [Src8.mk.injEq]
 have yes : (ki = 1 ∨ ki = 2) → Ev (fun k => source_Good.j0 k ki true ki (ba sc) sub (ba ho) po (ba pa) (ba no)) (decide (True ∧ sc = [] ∧ sub = false ∧ ho = [] ∧ po = 0 ∧ pa = [] ∧ no = [])) := by
  intro _
  refine Ev.step (fun k => by rw [source_Good.j0]) ?_
  refine Ev.if_pos rfl (Ev.some_bind (fun _ => rfl) ?_)
  simp only [ba_list, beqNil]
  rw [show (decide (sc = []) && (!sub && (decide (ho = []) && (po == 0 && (decide (pa = []) && decide (no = [])))))) = decide (True ∧ sc = [] ∧ sub = false ∧ ho = [] ∧ po = 0 ∧ pa = [] ∧ no = []) from by rw [Bool.eq_iff_iff]; simp]
  exact Ev.now _
 have no' : ki ≠ 1 → ki ≠ 2 → Ev (fun k => source_Good.j0 k ki false ki (ba sc) sub (ba ho) po (ba pa) (ba no)) (if ki = 3 then decide (ki = 3 ∧ True ∧ sub = false ∧ ho = [] ∧ po = 0 ∧ pa = [] ∧ no = []) && decide (def8 sc ≠ 0) else if ki = 5 then decide (ki = 5 ∧ sc = [] ∧ sub = false ∧ ho = [] ∧ po = 0 ∧ pa = [] ∧ True) && nonce11 no else if ki = 4 then (Src8.mk ki sc sub ho po pa no).host else false) := by
  intro n1 n2
  refine Ev.step (fun k => by rw [source_Good.j0]) ?_
  simp only [ba_list, beqNil]
  refine Ev.if_neg (by simp) (Ev.ite (fun c3 => ?_) (fun c3 => ?_))
  ·rw [if_pos c3]
   have e : (!sub && (decide (ho = []) && (po == 0 && (decide (pa = []) && decide (no = []))))) = decide (ki = 3 ∧ True ∧ sub = false ∧ ho = [] ∧ po = 0 ∧ pa = [] ∧ no = []) := by rw [Bool.eq_iff_iff]; simp [c3]
   rw [e]
   refine Ev.ite (fun d => ?_) (fun d => ?_)
   ·rw [d, Bool.true_and, ← def_pos]
    exact Ev.some_bind (fun _ => progDef sc) (Ev.now _)
   ·rw [show decide (ki = 3 ∧ True ∧ sub = false ∧ ho = [] ∧ po = 0 ∧ pa = [] ∧ no = []) = false from by simpa using d, Bool.false_and]; exact Ev.now _
  ·rw [if_neg c3]
   refine Ev.ite (fun c5 => ?_) (fun c5 => ?_)
   ·rw [if_pos c5]
    have e : (decide (sc = []) && (!sub && (decide (ho = []) && (po == 0 && decide (pa = []))))) = decide (ki = 5 ∧ sc = [] ∧ sub = false ∧ ho = [] ∧ po = 0 ∧ pa = [] ∧ True) := by rw [Bool.eq_iff_iff]; simp [c5]
    rw [e]
    refine Ev.ite (fun d => ?_) (fun d => ?_)
    ·rw [d, Bool.true_and]
     exact Ev.bind (progNonce no (by omega)) (Ev.now _)
    ·rw [show decide (ki = 5 ∧ sc = [] ∧ sub = false ∧ ho = [] ∧ po = 0 ∧ pa = [] ∧ True) = false from by simpa using d, Bool.false_and]; exact Ev.now _
   ·rw [if_neg c5]
    refine Ev.ite (fun c4 => ?_) (fun c4 => ?_)
    ·rw [if_pos c4]; exact Ev.bind hp (Ev.now _)
    ·rw [if_neg c4]; exact Ev.now _
 refine Ev.ite (fun c => ?_) (fun c => ?_)
 ·rw [if_pos (.inl c), show (ki == 1) = true from by simp [c]]; exact yes (.inl c)
 ·by_cases d : ki = 2
  ·rw [if_pos (.inr d), show (ki == 2) = true from by simp [d]]; exact yes (.inr d)
  ·rw [if_neg (show ¬(ki = 1 ∨ ki = 2) by rintro (e | e); exact c e; exact d e), show (ki == 2) = false from by simp [d]]; exact no' c d
theorem refRestS (ho pa no : List UInt8) (po : Int) (h2 : ho.length ≤ 109951162) (h3 : pa.length ≤ 109951162) :
  Ev (fun k => srcRest k po (ba pa) (ba no) (ba ho)) (host8 ho && (decide (-1 ≤ po ∧ po ≤ 65535) && ((decide (pa = []) || path11 pa) && decide (no = [])))) := by
 have hemp : no.isEmpty = decide (no = []) := by cases no <;> simp
 unfold srcRest
 simp only [ba_list]
 refine Ev.bind (refHost ho (by omega)) (Ev.ite (fun c => ?_) (fun c => ?_))
 ·rw [c, Bool.true_and]
  by_cases d : -1 ≤ po ∧ po ≤ 65535
  ·rw [decide_eq_true d, Bool.true_and, hemp]
   refine Ev.if_pos d.1 (Ev.if_pos d.2 (Ev.ite (fun e => ?_) (fun e => ?_)))
   ·rw [decide_eq_true e, Bool.true_or, Bool.true_and]; exact Ev.now _
   ·rw [decide_eq_false e, Bool.false_or]
    refine Ev.bind (refPath11 pa (by omega)) (Ev.ite (fun f => ?_) (fun f => ?_))
    ·rw [f, Bool.true_and]; exact Ev.now _
    ·rw [show path11 pa = false from by simpa using f, Bool.false_and]; exact Ev.now _
  ·rw [decide_eq_false d, Bool.false_and]
   refine Ev.ite (fun e => Ev.ite (fun f => absurd ⟨e, f⟩ d) (fun _ => Ev.now _)) (fun _ => Ev.now _)
 ·rw [show host8 ho = false from by simpa using c, Bool.false_and]; exact Ev.now _
theorem refGoodS (x : Src8) (hs : x.Small) : Ev (fun k => pursuivantref11_Good.f k x.ki (ba x.sc) x.sub (ba x.ho) x.po (ba x.pa) (ba x.no)) x.good := by
 obtain ⟨ki, sc, sub, ho, po, pa, no⟩ := x
 obtain ⟨h1, h2, h3, h4, h5⟩ := hs
 simp only at h1 h2 h3 h4 h5 ⊢
 have emp : ∀ l : List UInt8, l.isEmpty = decide (l = []) := fun l => by cases l <;> simp
 unfold pursuivantref11_Good.f Src8.good
 simp only [Src8.mk.injEq, ba_list, emp]
 have e1 : (decide (sc = []) && (!sub && (decide (ho = []) && (po == 0 && (decide (pa = []) && decide (no = [])))))) = decide (True ∧ sc = [] ∧ sub = false ∧ ho = [] ∧ po = 0 ∧ pa = [] ∧ no = []) := by rw [Bool.eq_iff_iff]; simp
 by_cases c1 : ki = 1
 ·refine Ev.if_pos c1 ?_
  rw [if_pos (.inl c1), e1]; exact Ev.now _
 refine Ev.if_neg c1 ?_
 by_cases c2 : ki = 2
 ·refine Ev.if_pos c2 ?_
  rw [if_pos (.inr c2), e1]; exact Ev.now _
 refine Ev.if_neg c2 ?_
 rw [if_neg (show ¬(ki = 1 ∨ ki = 2) by rintro (e | e); exact c1 e; exact c2 e)]
 refine Ev.ite (fun c3 => ?_) (fun c3 => ?_)
 ·rw [if_pos c3]
  have e : (!sub && (decide (ho = []) && (po == 0 && (decide (pa = []) && decide (no = []))))) = decide (ki = 3 ∧ True ∧ sub = false ∧ ho = [] ∧ po = 0 ∧ pa = [] ∧ no = []) := by rw [Bool.eq_iff_iff]; simp [c3]
  rw [e]
  refine Ev.ite (fun d => ?_) (fun d => ?_)
  ·rw [d, Bool.true_and, ← def_pos]
   exact Ev.some_bind (fun _ => refDef sc) (Ev.now _)
  ·rw [show decide (ki = 3 ∧ True ∧ sub = false ∧ ho = [] ∧ po = 0 ∧ pa = [] ∧ no = []) = false from by simpa using d, Bool.false_and]; exact Ev.now _
 rw [if_neg c3]
 refine Ev.ite (fun c5 => ?_) (fun c5 => ?_)
 ·rw [if_pos c5]
  have e : (decide (sc = []) && (!sub && (decide (ho = []) && (po == 0 && decide (pa = []))))) = decide (ki = 5 ∧ sc = [] ∧ sub = false ∧ ho = [] ∧ po = 0 ∧ pa = [] ∧ True) := by rw [Bool.eq_iff_iff]; simp [c5]
  rw [e]
  refine Ev.ite (fun d => ?_) (fun d => ?_)
  ·rw [d, Bool.true_and]; exact refNonce no (by omega)
  ·rw [show decide (ki = 5 ∧ sc = [] ∧ sub = false ∧ ho = [] ∧ po = 0 ∧ pa = [] ∧ True) = false from by simpa using d, Bool.false_and]; exact Ev.now _
 rw [if_neg c5]
 refine Ev.ite (fun c4 => ?_) (fun c4 => ?_)
 ·rw [if_pos c4]
  unfold Src8.host
  simp only
  have hr := refRestS ho pa no po h2 h3
  refine Ev.ite (fun d => ?_) (fun d => ?_)
  ·rw [decide_eq_true (show sc = [] ∨ def8 sc ≠ 0 from .inl d), Bool.true_and]; exact hr
  ·refine Ev.some_bind (fun _ => refDef sc) (Ev.ite (fun e => ?_) (fun e => ?_))
   ·rw [decide_eq_true (show sc = [] ∨ def8 sc ≠ 0 from .inr (by omega)), Bool.true_and]; exact hr
   ·have h0 : def8 sc = 0 := by rcases def8_nat sc with q | q | q <;> omega
    rw [decide_eq_false (show ¬(sc = [] ∨ def8 sc ≠ 0) by rintro (q | q); exact d q; exact q h0), Bool.false_and]; exact Ev.now _
 ·rw [if_neg c4]; exact Ev.now _
end Go.Proofs.YtfibkgmbgdaeoaaDoor.Hand
