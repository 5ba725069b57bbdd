/- What the rest of package safe and its reference compute, over lists of bytes: headers, forbidden names, the sorted names of those that may not go anywhere. Conditions: at most 2^30 bytes. -/
import Derived.Test.YtfibkgmbgdaeoaaGreatDoorSafeF
namespace Go.Proofs.YtfibkgmbgdaeoaaGreatDoor.Hand
open Go.RowKit Go.Proofs.YtfibkgmbgdaeoaaGreatDoorW.PrintWords Go.Proofs.YtfibkgmbgdaeoaaGreatDoorW.PrintLast Go.Proofs.YtfibkgmbgdaeoaaGreatDoorW.PrintMore
set_option linter.unusedVariables false
set_option linter.unusedSimpArgs false

def cls8 (n : List UInt8) (c : UInt8) : Bool := if n = hAL ∨ n = hCL then lang8 c else clean8 c
def last8 (n v : List UInt8) : Bool := if n = hCT then sort8 v else true
theorem refHeader_end (n v : List UInt8) (hv : v.length ≤ 1099511627) (f : Nat) (hf : f = (v.takeWhile (· != 59)).length) (hn : n ∈ [hAC, hAL, hCL, hCT]) :
  Ev (fun k => pursuivantref10_Header.l0 k (ba n) (ba v) (f : Int) (-1)) (last8 n v) := by
 have ht := takeWhile_length (· != 59) v
 have h2 := trim8_length (v.takeWhile (· != 59))
 refine Ev.step (fun k => by rw [pursuivantref10_Header.l0]) ?_
 refine Ev.if_neg (by decide) ?_
 rw [ba_list]
 unfold last8
 refine Ev.ite (fun h => ?_) (fun h => ?_)
 ·rw [if_pos h]
  refine Ev.if_pos (by omega) (Ev.if_pos (by (first | omega | (simp only [ba_size', List.length_append, List.length_cons, List.length_nil]; omega) | (simp; omega) | (simp; done))) ?_)
  rw [Int.toNat_natCast, ba_extract, List.drop_zero, Nat.sub_zero]
  have e : v.take f = v.takeWhile (· != 59) := by
   rw [hf]
   exact (List.prefix_iff_eq_take.1 (List.takeWhile_prefix _)).symm
  rw [e]
  exact Ev.bind (refTrim _ (by omega)) (Ev.bind (refLowerE _ (by omega)) (Ev.bind (refAmong _ [tPLAIN, tMULTI, tFORM] (by decide)) (Ev.now _)))
 ·rw [if_neg h]; exact Ev.now _
theorem refHeader_go (n : List UInt8) (hn : n ∈ [hAC, hAL, hCL, hCT]) : ∀ (q r : List UInt8), q.length + r.length ≤ 1099511627 →
  Ev (fun k => pursuivantref10_Header.l0 k (ba n) (ba (q.reverse ++ r)) ((q.length + (r.takeWhile (· != 59)).length : Nat) : Int) ((q.length : Int) - 1))
   (q.all (cls8 n) && last8 n (q.reverse ++ r)) := by
 intro q
 induction q with
 | nil =>
  intro r h
  simp only [List.reverse_nil, List.nil_append, List.length_nil, Nat.zero_add, List.all_nil, Bool.true_and]
  exact refHeader_end n r (by simpa using h) _ rfl hn
 | cons c q ih =>
  intro r h
  simp only [List.length_cons] at h
  rw [List.reverse_cons, List.append_assoc, List.singleton_append]
  have hn0 := ih (c :: r) (by simp; omega)
  have hx : ((c :: q).length : Int) - 1 = (q.length : Int) := by simp
  rw [hx]
  refine Ev.step (fun k => by rw [pursuivantref10_Header.l0]) ?_
  refine Ev.if_pos (by omega) (Ev.if_pos (by omega) (Ev.if_pos (by (first | omega | (simp only [ba_size', List.length_append, List.length_cons, List.length_nil]; omega) | (simp; omega) | (simp; done))) ?_))
  have hb : bt (ba (q.reverse ++ c :: r)) (q.length : Int) = (c.toNat : Int) := by
   have := bt_mid q.reverse c r
   rwa [List.length_reverse] at this
  simp only [hb]
  have hj3 : ∀ x : Int, x = ((q.length + ((c :: r).takeWhile (· != 59)).length : Nat) : Int) → ∀ b : Bool, b = decide (n = hAL ∨ n = hCL) →
    Ev (fun k => pursuivantref10_Header.j3 k (ba n) (ba (q.reverse ++ c :: r)) x (q.length : Int) b) ((c :: q).all (cls8 n) && last8 n (q.reverse ++ c :: r)) := by
   intro x hx b hb2
   subst hx
   refine Ev.step (fun k => by rw [pursuivantref10_Header.j3]) ?_
   rw [wrap_ok _ (by omega) (by omega)]
   refine Ev.ite (fun h1 => ?_) (fun h1 => ?_)
   ·refine Ev.if_pos (by omega) (Ev.if_pos (by (first | omega | (simp only [ba_size', List.length_append, List.length_cons, List.length_nil]; omega) | (simp; omega) | (simp; done))) ?_)
    rw [hb, refLang]
    have hc : cls8 n c = lang8 c := by unfold cls8; rw [if_pos (by simpa [h1] using hb2.symm)]
    rw [List.all_cons, hc]
    refine Ev.ite (fun h2 => ?_) (fun h2 => ?_)
    ·rw [h2, Bool.true_and]; exact hn0
    ·rw [show lang8 c = false from by simpa using h2, Bool.false_and, Bool.false_and]; exact Ev.now _
   ·refine Ev.if_pos (by omega) (Ev.if_pos (by (first | omega | (simp only [ba_size', List.length_append, List.length_cons, List.length_nil]; omega) | (simp; omega) | (simp; done))) ?_)
    rw [hb, refUns]
    have hc : cls8 n c = clean8 c := by
     unfold cls8; rw [if_neg]
     intro h3
     rw [hb2] at h1
     exact h1 (decide_eq_true h3)
    rw [List.all_cons, hc]
    refine Ev.ite (fun h2 => ?_) (fun h2 => ?_)
    ·rw [show clean8 c = false from by simpa using h2, Bool.false_and, Bool.false_and]; exact Ev.now _
    ·rw [show clean8 c = true from by simpa using h2, Bool.true_and]; exact hn0
  have hj2 : ∀ x : Int, x = ((q.length + ((c :: r).takeWhile (· != 59)).length : Nat) : Int) →
    Ev (fun k => pursuivantref10_Header.j2 k (ba n) (ba (q.reverse ++ c :: r)) x (q.length : Int)) ((c :: q).all (cls8 n) && last8 n (q.reverse ++ c :: r)) := by
   intro x hx
   refine Ev.step (fun k => by rw [pursuivantref10_Header.j2]) ?_
   have hh := hj3 x hx
   have hne : n.length ≤ 100 ∧ 1 ≤ n.length := by
    simp only [List.mem_cons, List.not_mem_nil, or_false] at hn
    rcases hn with rfl | rfl | rfl | rfl <;> decide
   have hw : wrap64 (((ba n).size : Int) - 1) = ((n.length - 1 : Nat) : Int) := by rw [ba_size', wrap_ok] <;> omega
   rw [hw, ba_list]
   refine Ev.if_pos (by omega) (Ev.if_pos (by (first | omega | (simp only [ba_size', List.length_append, List.length_cons, List.length_nil]; omega) | (simp; omega) | (simp; done))) ?_)
   simp only [List.mem_cons, List.not_mem_nil, or_false] at hn
   rcases hn with rfl | rfl | rfl | rfl
   ·exact Ev.if_neg (by decide +kernel) (hh _ (by decide))
   ·exact Ev.if_pos (by decide +kernel) (hh _ (by decide))
   ·exact Ev.if_pos (by decide +kernel) (hh _ (by decide))
   ·exact Ev.if_pos (by decide +kernel) (hh _ (by decide))
  refine Ev.ite (fun h1 => ?_) (fun h1 => ?_)
  ·refine hj2 _ ?_
   have : c = 59 := (c_eq c 59 (by omega)).1 h1
   subst this
   simp
  ·refine hj2 _ ?_
   have : (c != 59) = true := by simpa using fun e => h1 ((c_eq c 59 (by omega)).2 e)
   simp [List.takeWhile_cons, this]
   omega
theorem refHeader (n v : List UInt8) (hn : n.length ≤ 1099511627) (hv : v.length ≤ 1099511627) : Ev (fun k => pursuivantref10_Header.f k (ba n) (ba v)) (header8 n v) := by
 unfold pursuivantref10_Header.f header8
 refine Ev.bind (refLowerE n (by omega)) ?_
 rw [ba_size']
 refine Ev.ite (fun h => ?_) (fun h => ?_)
 ·refine Ev.step (fun k => by rw [pursuivantref10_Header.j0]) ?_
  rw [decide_eq_false (by omega), Bool.false_and]
  exact Ev.if_pos rfl (Ev.now _)
 ·rw [decide_eq_true (by omega), Bool.true_and]
  refine Ev.bind (refAmong (n.map low8) [hAC, hAL, hCL, hCT] (by decide)) ?_
  refine Ev.step (fun k => by rw [pursuivantref10_Header.j0]) ?_
  generalize n.map low8 = m
  by_cases hm : m ∈ [hAC, hAL, hCL, hCT]
  ·rw [decide_eq_true hm]
   refine Ev.if_neg (by simp) ?_
   have := refHeader_go m hm v.reverse [] (by simpa using hv)
   simp only [List.reverse_reverse, List.append_nil, List.length_reverse, List.takeWhile_nil, List.length_nil, Nat.add_zero] at this
   rw [ba_size', wrap_ok _ (by omega) (by omega)]
   have e : (v.reverse.all (cls8 m) && last8 m v) = (if m = hAL ∨ m = hCL then v.all lang8 else if m = hCT then sort8 v && v.all clean8 else if m = hAC then v.all clean8 else false) := by
    rw [List.all_reverse]
    simp only [List.mem_cons, List.not_mem_nil, or_false] at hm
    have c1 : cls8 hAC = clean8 := by funext c; unfold cls8; rw [if_neg (by decide)]
    have c2 : cls8 hAL = lang8 := by funext c; unfold cls8; rw [if_pos (by decide)]
    have c3 : cls8 hCL = lang8 := by funext c; unfold cls8; rw [if_pos (by decide)]
    have c4 : cls8 hCT = clean8 := by funext c; unfold cls8; rw [if_neg (by decide)]
    rcases hm with rfl | rfl | rfl | rfl
    ·rw [c1]; simp [last8]
    ·rw [c2]; simp [last8]
    ·rw [c3]; simp [last8]
    ·rw [c4]; simp [last8, Bool.and_comm]
   rw [e] at this
   exact this
  ·rw [decide_eq_false hm]
   refine Ev.if_pos rfl ?_
   simp only [List.mem_cons, List.not_mem_nil, or_false, not_or] at hm
   rw [if_neg (by simp [hm]), if_neg hm.2.2.2, if_neg hm.1]
   exact Ev.now _

end Go.Proofs.YtfibkgmbgdaeoaaGreatDoor.Hand
