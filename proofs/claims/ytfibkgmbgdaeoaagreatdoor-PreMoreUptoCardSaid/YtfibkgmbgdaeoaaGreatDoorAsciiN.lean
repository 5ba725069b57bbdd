/- ascii.Number and its reference: the number that digits make, at most so much. Condition: at most 2^40 bytes. -/
import Derived.Test.YtfibkgmbgdaeoaaGreatDoorFA1
import Derived.Test.YtfibkgmbgdaeoaaGreatDoorFP1
import Derived.Test.YtfibkgmbgdaeoaaGreatDoorPlain
namespace Go.Proofs.YtfibkgmbgdaeoaaGreatDoor.Hand
open Go.RowKit Go.Proofs.YtfibkgmbgdaeoaaGreatDoorW.PrintWords Go.Proofs.YtfibkgmbgdaeoaaGreatDoorW.PrintLast Go.Proofs.YtfibkgmbgdaeoaaGreatDoorW.PrintMore
set_option linter.unusedVariables false
set_option linter.unusedSimpArgs false

def dig8 (c : UInt8) : Bool := decide (48 ≤ c.toNat ∧ c.toNat ≤ 57)
def valF (n : Nat) (l : List UInt8) : Nat := l.foldl (fun n c => 10 * n + (c.toNat - 48)) n
def val8 (l : List UInt8) : Nat := valF 0 l
theorem val8_snoc (l : List UInt8) (c : UInt8) : val8 (l ++ [c]) = 10 * val8 l + (c.toNat - 48) := by simp [val8, valF]
def num8 (l : List UInt8) (m : Nat) : Int × Bool := if l.all dig8 = true then (((min (val8 l) m : Nat) : Int), !l.isEmpty) else (0, false)
theorem dig8_true {c : UInt8} (h : dig8 c = true) : ((((c.toNat : Int) - 48) % 256) = ((c.toNat - 48 : Nat) : Int)) ∧ ¬(c.toNat : Int) < 48 ∧ ¬(c.toNat : Int) > 57 ∧ c.toNat - 48 ≤ 9 := by
 have := of_decide_eq_true h
 omega
theorem tdiv10 (m d : Nat) (hd : d ≤ 9) : (d ≤ m → Int.tdiv ((m : Int) - d) 10 = (((m - d) / 10 : Nat) : Int)) ∧ (m < d → Int.tdiv ((m : Int) - d) 10 = 0) := by
 constructor
 ·intro h
  rw [Int.tdiv_eq_ediv_of_nonneg (by omega)]; omega
 ·intro h
  obtain ⟨e, he, he9⟩ : ∃ e : Nat, (m : Int) - d = -(e : Int) ∧ e ≤ 9 := ⟨d - m, by omega, by omega⟩
  rw [he, Int.neg_tdiv, Int.tdiv_eq_ediv_of_nonneg (by omega)]; omega
theorem num_step (m v n d : Nat) (T : Int) (hm : m ≤ 9223372036854775807) (hn : n = min v m) (hd : d ≤ 9) (t1 : d ≤ m → T = (((m - d) / 10 : Nat) : Int)) (t2 : m < d → T = 0) :
  wrap64 T = T ∧ ((n : Int) > T → min (10 * v + d) m = m) ∧ (¬(n : Int) > T → mn (wrap64 (wrap64 (10 * (n : Int)) + (d : Int))) (m : Int) = ((min (10 * v + d) m : Nat) : Int)) := by
 by_cases h : d ≤ m
 ·have e := t1 h
  clear t1 t2
  subst e
  refine ⟨wrap_ok _ (by omega) (by omega), fun h1 => by omega, fun h1 => ?_⟩
  rw [wrap_ok (10 * (n : Int)) (by omega) (by omega), wrap_ok (10 * (n : Int) + (d : Int)) (by omega) (by omega)]
  unfold mn
  split <;> omega
 ·have e := t2 (by omega)
  clear t1 t2
  subst e
  refine ⟨wrap_ok _ (by omega) (by omega), fun h1 => by omega, fun h1 => ?_⟩
  rw [wrap_ok (10 * (n : Int)) (by omega) (by omega), wrap_ok (10 * (n : Int) + (d : Int)) (by omega) (by omega)]
  unfold mn
  split <;> omega
theorem dig8_false {c : UInt8} (h : ¬dig8 c = true) : (c.toNat : Int) < 48 ∨ (¬(c.toNat : Int) < 48 ∧ (c.toNat : Int) > 57) := by
 have : ¬(48 ≤ c.toNat ∧ c.toNat ≤ 57) := fun e => h (decide_eq_true e)
 omega
theorem progNumber_go (m : Nat) (hm : m ≤ 9223372036854775807) : ∀ (q p : List UInt8) (n : Nat), p.length + q.length ≤ 1099511627776 → n = min (val8 p) m →
  Ev (fun k => ascii_Number.l0 k (ba (p ++ q)) (m : Int) (n : Int) ((p ++ q).length : Int) (p.length : Int)) (if q.all dig8 = true then (((min (val8 (p ++ q)) m : Nat) : Int), !(p ++ q).isEmpty) else (0, false)) := by
 intro q
 induction q with
 | nil =>
  intro p n h hn
  refine Ev.step (fun k => by rw [ascii_Number.l0]) ?_
  refine Ev.if_neg (by (first | omega | (simp only [ba_size', List.length_append, List.length_cons, List.length_nil]; omega) | (simp; omega) | (simp; done))) ?_
  rw [ba_list, List.append_nil, List.all_nil, if_pos rfl, ← hn, show (p != ([] : List UInt8)) = !p.isEmpty from by cases p <;> rfl]
  exact Ev.now _
 | cons c q ih =>
  intro p n h hn
  simp only [List.length_cons] at h
  refine Ev.step (fun k => by rw [ascii_Number.l0]) ?_
  refine Ev.if_pos (by (first | omega | (simp only [ba_size', List.length_append, List.length_cons, List.length_nil]; omega) | (simp; omega) | (simp; done))) (Ev.if_pos (by omega) (Ev.if_pos (by (first | omega | (simp only [ba_size', List.length_append, List.length_cons, List.length_nil]; omega) | (simp; omega) | (simp; done))) ?_))
  simp only [bt_mid]
  by_cases hc : dig8 c = true
  ·obtain ⟨h1, h2, h3, h4⟩ := dig8_true hc
   refine Ev.if_neg h2 ?_
   rw [decide_eq_false h3]
   refine Ev.step (fun k => by rw [ascii_Number.j1]) ?_
   refine Ev.if_neg (by simp) (Ev.if_pos (by omega) (Ev.if_pos (by (first | omega | (simp only [ba_size', List.length_append, List.length_cons, List.length_nil]; omega) | (simp; omega) | (simp; done))) ?_))
   have hs := val8_snoc p c
   have hn' := fun n' hn' => ih (p ++ [c]) n' (by (first | omega | (simp only [ba_size', List.length_append, List.length_cons, List.length_nil]; omega) | (simp; omega) | (simp; done))) hn'
   rw [List.append_assoc, List.singleton_append, show (p ++ [c]).length = p.length + 1 from by simp, hs] at hn'
   simp only [bt_mid, h1, wrap_nat _ (show p.length < 9223372036854775807 by omega)]
   obtain ⟨t1, t2⟩ := tdiv10 m (c.toNat - 48) h4
   rw [wrap_ok ((m : Int) - ((c.toNat - 48 : Nat) : Int)) (by omega) (by omega)]
   obtain ⟨hw, ha, hb⟩ := num_step m (val8 p) n _ _ hm hn h4 t1 t2
   rw [hw]
   simp only [List.all_cons, hc, Bool.true_and]
   by_cases hg : (n : Int) > Int.tdiv ((m : Int) - ((c.toNat - 48 : Nat) : Int)) 10
   ·exact Ev.if_pos hg (hn' m (ha hg).symm)
   ·refine Ev.if_neg hg ?_
    rw [hb hg]
    exact hn' _ rfl
  ·have hres : (if (c :: q).all dig8 = true then (((min (val8 (p ++ c :: q)) m : Nat) : Int), !(p ++ c :: q).isEmpty) else (0, false)) = ((0, false) : Int × Bool) := if_neg (by simp [hc])
   rw [hres]
   rcases dig8_false hc with h1 | ⟨h1, h2⟩
   ·refine Ev.if_pos h1 ?_
    refine Ev.step (fun k => by rw [ascii_Number.j1]) ?_
    exact Ev.if_pos rfl (Ev.now _)
   ·refine Ev.if_neg h1 ?_
    rw [decide_eq_true h2]
    refine Ev.step (fun k => by rw [ascii_Number.j1]) ?_
    exact Ev.if_pos rfl (Ev.now _)
theorem progNumber (l : List UInt8) (m : Nat) (h : l.length ≤ 1099511627776) (hm : m ≤ 9223372036854775807) : Ev (fun k => ascii_Number.f k (ba l) (m : Int)) (num8 l m) := by
 have := progNumber_go m hm l [] 0 (by simpa using h) (by simp [val8, valF])
 unfold ascii_Number.f num8
 simpa using this
end Go.Proofs.YtfibkgmbgdaeoaaGreatDoor.Hand
