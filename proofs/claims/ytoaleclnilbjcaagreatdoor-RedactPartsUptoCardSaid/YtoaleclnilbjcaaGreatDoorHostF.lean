/- What package host and its reference compute, over lists of bytes. Conditions: at most 2^40 bytes. -/
import Derived.Test.YtoaleclnilbjcaaGreatDoorAsciiF
import Derived.Test.YtoaleclnilbjcaaGreatDoorHostG
import Derived.Test.YtoaleclnilbjcaaGreatDoorLow
import Derived.Lib.AtoiAllCases
namespace Go.Proofs.YtoaleclnilbjcaaGreatDoor.Hand
open Go.RowKit Go.Proofs.YtoaleclnilbjcaaGreatDoorW.PrintWords Go.Proofs.YtoaleclnilbjcaaGreatDoorW.PrintLast Go.Proofs.YtoaleclnilbjcaaGreatDoorW.PrintMore
set_option linter.unusedVariables false
set_option linter.unusedSimpArgs false

def letter8 (c : UInt8) : Bool := decide ((97 ≤ c.toNat ∧ c.toNat ≤ 122) ∨ (48 ≤ c.toNat ∧ c.toNat ≤ 57) ∨ c = 45)
def label8 (l : List UInt8) : Bool := decide (l ≠ [] ∧ l.length ≤ 63 ∧ l.head? ≠ some 45 ∧ l.getLast? ≠ some 45) && l.all letter8
def host8 (l : List UInt8) : Bool := decide (l.length ≤ 253) && (splitD 46 l).all label8
theorem refLetter (c : UInt8) : pursuivantref05_letter.f (c.toNat : Int) = some (letter8 c) :=
 of_decide_eq_true (u8_all (P := fun c => decide (pursuivantref05_letter.f (c.toNat : Int) = some (letter8 c))) (by decide +kernel) c)

theorem progLabel_go : ∀ (q p : List UInt8), p.length + q.length ≤ 1099511627776 →
  Ev (fun k => host_label.l0 k (ba (p ++ q)) ((p ++ q).length : Int) (p.length : Int)) (q.all letter8) := by
 intro q
 induction q with
 | nil =>
  intro p h
  refine Ev.step (fun k => by rw [host_label.l0]) ?_
  exact Ev.if_neg (by (first | omega | (simp only [ba_size', List.length_append, List.length_cons, List.length_nil]; omega) | (simp; omega) | (simp; done))) (Ev.now _)
 | cons c q ih =>
  intro p h
  simp only [List.length_cons] at h
  refine Ev.step (fun k => by rw [host_label.l0]) ?_
  refine Ev.if_pos (by (first | omega | (simp only [ba_size', List.length_append, List.length_cons, List.length_nil]; omega) | (simp; omega) | (simp; done))) (Ev.if_pos (by omega) (Ev.if_pos (by (first | omega | (simp only [ba_size', List.length_append, List.length_cons, List.length_nil]; omega) | (simp; omega) | (simp; done))) ?_))
  simp only [bt_mid, wrap_nat _ (show p.length < 9223372036854775807 by omega)]
  have hn := ih (p ++ [c]) (by (first | omega | (simp only [ba_size', List.length_append, List.length_cons, List.length_nil]; omega) | (simp; omega) | (simp; done)))
  rw [List.append_assoc, List.singleton_append, show (p ++ [c]).length = p.length + 1 from by simp] at hn
  have hc := c_eq c 45 (by omega)
  rw [List.all_cons]
  have e45 : ((c.toNat : Int) = 45) ↔ c = 45 := by simpa using c_eq c 45 (by omega)
  by_cases h1 : (c.toNat : Int) < 97
  ·refine Ev.if_pos h1 ?_
   by_cases h2 : (c.toNat : Int) < 48
   ·refine Ev.if_pos h2 ?_
    by_cases h3 : c = 45
    ·refine Ev.if_pos (e45.2 h3) ?_
     rw [show letter8 c = true from by simp [letter8, h3], Bool.true_and]; exact hn
    ·refine Ev.if_neg (fun h => h3 (e45.1 h)) ?_
     rw [show letter8 c = false from decide_eq_false (by rintro (h | h | h) <;> first | omega | exact h3 h), Bool.false_and]; exact Ev.now _
   ·refine Ev.if_neg h2 ?_
    by_cases h4 : (c.toNat : Int) > 57
    ·refine Ev.if_pos h4 ?_
     by_cases h3 : c = 45
     ·refine Ev.if_pos (e45.2 h3) ?_
      rw [show letter8 c = true from by simp [letter8, h3], Bool.true_and]; exact hn
     ·refine Ev.if_neg (fun h => h3 (e45.1 h)) ?_
      rw [show letter8 c = false from decide_eq_false (by rintro (h | h | h) <;> first | omega | exact h3 h), Bool.false_and]; exact Ev.now _
    ·refine Ev.if_neg h4 ?_
     rw [show letter8 c = true from decide_eq_true (by omega), Bool.true_and]; exact hn
  ·refine Ev.if_neg h1 ?_
   by_cases h2 : (c.toNat : Int) > 122
   ·refine Ev.if_pos h2 ?_
    refine Ev.if_neg (by omega) (Ev.if_pos (by omega) (Ev.if_neg (by omega) ?_))
    have h3 : c ≠ 45 := fun e => by subst e; exact absurd h2 (by decide)
    rw [show letter8 c = false from decide_eq_false (by rintro (h | h | h) <;> first | omega | exact h3 h), Bool.false_and]; exact Ev.now _
   ·refine Ev.if_neg h2 ?_
    rw [show letter8 c = true from decide_eq_true (by omega), Bool.true_and]; exact hn
theorem bt_last (l : List UInt8) (hl : l ≠ []) : bt (ba l) ((l.length - 1 : Nat) : Int) = ((l.getLast hl).toNat : Int) := by
 rw [bt_ba, List.getD_eq_getElem?_getD, List.getLast_eq_getElem, List.getElem?_eq_getElem (by have := List.length_pos_iff.2 hl; omega)]
 rfl
theorem progLabel (l : List UInt8) (h : l.length ≤ 1099511627776) : Ev (fun k => host_label.f k (ba l)) (label8 l) := by
 have hgo := progLabel_go l [] (by simpa using h)
 have stop : Ev (fun k => host_label.j0 k (ba l) true) false := by
  refine Ev.step (fun k => by rw [host_label.j0]) ?_
  exact Ev.if_pos rfl (Ev.now _)
 unfold host_label.f
 rw [ba_list, ba_size']
 by_cases h0 : l = []
 ·refine Ev.if_pos h0 ?_
  rw [show label8 l = false from by simp [label8, h0]]; exact stop
 ·refine Ev.if_neg h0 ?_
  have hpos := List.length_pos_iff.2 h0
  by_cases h1 : (l.length : Int) > 63
  ·refine Ev.if_pos h1 ?_
   rw [show label8 l = false from by unfold label8; rw [decide_eq_false (by omega), Bool.false_and]]; exact stop
  ·refine Ev.if_neg h1 (Ev.if_pos (by omega) ?_)
   obtain ⟨c, q, rfl⟩ : ∃ c q, l = c :: q := by cases l with | nil => exact absurd rfl h0 | cons c q => exact ⟨c, q, rfl⟩
   simp only [bt_zero]
   have e45 : ∀ c : UInt8, ((c.toNat : Int) = 45) ↔ c = 45 := fun c => by simpa using c_eq c 45 (by omega)
   by_cases h2 : c = 45
   ·refine Ev.if_pos ((e45 c).2 h2) ?_
    rw [show label8 (c :: q) = false from by simp [label8, h2]]; exact stop
   ·refine Ev.if_neg (fun h => h2 ((e45 c).1 h)) ?_
    have hw : wrap64 (((c :: q).length : Int) - 1) = (((c :: q).length - 1 : Nat) : Int) := by rw [wrap_ok] <;> omega
    rw [hw, bt_last (c :: q) h0]
    refine Ev.if_pos (by omega) (Ev.if_pos (by omega) ?_)
    refine Ev.step (fun k => by rw [host_label.j0]) ?_
    by_cases h3 : (c :: q).getLast h0 = 45
    ·refine Ev.if_pos (by simpa using (e45 _).2 h3) ?_
     rw [show label8 (c :: q) = false from by
      unfold label8
      rw [decide_eq_false (fun h => h.2.2.2 (by rw [List.getLast?_eq_some_getLast h0, h3])), Bool.false_and]]
     exact Ev.now _
    ·refine Ev.if_neg (by simpa using fun h => h3 ((e45 _).1 h)) ?_
     rw [show label8 (c :: q) = (c :: q).all letter8 from by
      unfold label8
      rw [decide_eq_true ⟨h0, by omega, by simpa using h2, by rw [List.getLast?_eq_some_getLast h0]; simpa using h3⟩, Bool.true_and]]
     simpa using hgo
theorem labelsE : ∀ xs : List (List UInt8), (∀ x ∈ xs, x.length ≤ 1099511627776) → Ev (fun k => labelsM k (xs.map ba)) (xs.all label8)
 | [], _ => Ev.now _
 | x :: xs, h => by
  simp only [List.map_cons, labelsM]
  refine Ev.bind (progLabel x (h x (by simp))) ?_
  by_cases hx : label8 x = true
  ·refine Ev.if_pos hx ?_
   rw [List.all_cons, hx, Bool.true_and]
   exact labelsE xs (fun y hy => h y (List.mem_cons_of_mem _ hy))
  ·refine Ev.if_neg hx ?_
   rw [List.all_cons, show label8 x = false from by simpa using hx, Bool.false_and]
   exact Ev.now _
theorem splitD_size (d : UInt8) : ∀ (l x : List UInt8), x ∈ splitD d l → x.length ≤ l.length
 | [], x, h => by simp [splitD] at h; subst h; simp
 | c :: l, x, h => by
  have ih := splitD_size d l
  rw [splitD] at h
  split at h
  ·rcases List.mem_cons.1 h with rfl | h
   ·simp
   ·have := ih x h; simp; omega
  ·split at h
   ·rename_i e; exact absurd e (splitD_ne d l)
   ·rename_i y r e
    rcases List.mem_cons.1 h with rfl | h
    ·have := ih y (by rw [e]; simp)
     simp; omega
    ·have := ih x (by rw [e]; exact List.mem_cons_of_mem _ h)
     simp; omega
theorem pieces_ba (d : UInt8) (l : List UInt8) : piecesBA d (ba l) = (splitD d l).map ba := by unfold piecesBA; rw [ba_data]; rfl
theorem progHost (l : List UInt8) (h : l.length ≤ 1099511627776) : Ev (fun k => host_Good.f k (ba l)) (host8 l) := by
 unfold host_Good.f host8
 rw [ba_size', pieces_ba]
 by_cases h1 : (l.length : Int) > 253
 ·refine Ev.if_pos h1 ?_
  rw [decide_eq_false (by omega), Bool.false_and]; exact Ev.now _
 ·refine Ev.if_neg h1 ?_
  rw [decide_eq_true (by omega), Bool.true_and]
  exact labelsE _ (fun x hx => by have := splitD_size 46 l x hx; omega)
def splitDC (d : UInt8) (cur : List UInt8) (l : List UInt8) : List (List UInt8) := match splitD d l with | [] => [cur] | x :: r => (cur ++ x) :: r
theorem splitDC_nil (d : UInt8) (cur : List UInt8) : splitDC d cur [] = [cur] := by simp [splitDC, splitD]
theorem splitDC_hit (d : UInt8) (cur l : List UInt8) : splitDC d cur (d :: l) = cur :: splitDC d [] l := by
 simp only [splitDC, splitD, if_pos]
 simp only [List.append_nil, List.nil_append]
 cases h : splitD d l with
 | nil => exact absurd h (splitD_ne d l)
 | cons x r => rfl
theorem splitDC_other (d : UInt8) (cur l : List UInt8) (c : UInt8) (hc : c ≠ d) : splitDC d cur (c :: l) = splitDC d (cur ++ [c]) l := by
 simp only [splitDC, splitD, if_neg hc]
 cases h : splitD d l with
 | nil => exact absurd h (splitD_ne d l)
 | cons x r => simp
theorem splitDC_self (d : UInt8) (l : List UInt8) : splitDC d [] l = splitD d l := by
 simp only [splitDC]
 cases h : splitD d l with
 | nil => exact absurd h (splitD_ne d l)
 | cons x r => rfl
theorem refHost_go : ∀ (q p cur : List UInt8), p.length + cur.length + q.length ≤ 1099511627776 → cur.all letter8 = true →
  Ev (fun k => pursuivantref05_Good.l0 k (ba (p ++ cur ++ q)) (p.length : Int) ((p ++ cur).length : Int)) ((splitDC 46 cur q).all label8) := by
 have e45 : ∀ c : UInt8, ((c.toNat : Int) = 45) ↔ c = 45 := fun c => by simpa using c_eq c 45 (by omega)
 have cut : ∀ (p cur q : List UInt8) (R : Bool), p.length + cur.length + q.length ≤ 1099511627776 → cur.all letter8 = true →
   (Ev (fun k => pursuivantref05_Good.l0 k (ba (p ++ cur ++ q)) (wrap64 (((p ++ cur).length : Int) + 1)) (wrap64 (((p ++ cur).length : Int) + 1))) R) →
   Ev (fun k => pursuivantref05_Good.j1 k (ba (p ++ cur ++ q)) (p.length : Int) ((p ++ cur).length : Int) false) (label8 cur && R) := by
  intro p cur q R h hc hn
  refine Ev.step (fun k => by rw [pursuivantref05_Good.j1]) ?_
  refine Ev.if_neg (by simp) ?_
  by_cases h0 : cur = []
  ·subst h0
   refine Ev.if_pos (by simp) ?_
   rw [show label8 [] = false from by simp [label8], Bool.false_and]; exact Ev.now _
  ·have hpos := List.length_pos_iff.2 h0
   refine Ev.if_neg (by (first | omega | (simp only [ba_size', List.length_append, List.length_cons, List.length_nil]; omega) | (simp; omega) | (simp; done))) ?_
   have hw : wrap64 (((p ++ cur).length : Int) - (p.length : Int)) = (cur.length : Int) := by rw [wrap_ok] <;> (first | omega | (simp only [ba_size', List.length_append, List.length_cons, List.length_nil]; omega) | (simp; omega) | (simp; done))
   rw [hw]
   by_cases h1 : (cur.length : Int) > 63
   ·refine Ev.if_pos h1 ?_
    rw [show label8 cur = false from by unfold label8; rw [decide_eq_false (by omega), Bool.false_and], Bool.false_and]; exact Ev.now _
   ·refine Ev.if_neg h1 (Ev.if_pos (by omega) (Ev.if_pos (by (first | omega | (simp only [ba_size', List.length_append, List.length_cons, List.length_nil]; omega) | (simp; omega) | (simp; done))) ?_))
    obtain ⟨c, r, rfl⟩ : ∃ c r, cur = c :: r := by cases cur with | nil => exact absurd rfl h0 | cons c r => exact ⟨c, r, rfl⟩
    have hb : bt (ba (p ++ c :: r ++ q)) (p.length : Int) = (c.toNat : Int) := by rw [List.append_assoc, List.cons_append, bt_mid]
    rw [hb]
    by_cases h2 : c = 45
    ·refine Ev.if_pos ((e45 c).2 h2) ?_
     rw [show label8 (c :: r) = false from by simp [label8, h2], Bool.false_and]; exact Ev.now _
    ·refine Ev.if_neg (fun h => h2 ((e45 c).1 h)) ?_
     have h' := h
     simp only [List.length_cons] at h'
     have hw2 : wrap64 (((p ++ c :: r).length : Int) - 1) = (((p ++ (c :: r).dropLast).length : Nat) : Int) := by
      rw [wrap_ok] <;> simp [List.length_append] <;> omega
     rw [hw2]
     have hb2 : bt (ba (p ++ c :: r ++ q)) (((p ++ (c :: r).dropLast).length : Nat) : Int) = (((c :: r).getLast h0).toNat : Int) := by
      have e : p ++ c :: r ++ q = (p ++ (c :: r).dropLast) ++ (c :: r).getLast h0 :: q := by
       conv => lhs; rw [← List.dropLast_concat_getLast h0]
       simp
      rw [e, bt_mid]
     refine Ev.if_pos (by omega) (Ev.if_pos (by simp; omega) ?_)
     rw [hb2]
     by_cases h3 : (c :: r).getLast h0 = 45
     ·refine Ev.if_pos ((e45 _).2 h3) ?_
      rw [show label8 (c :: r) = false from by
       unfold label8
       rw [decide_eq_false (fun h => h.2.2.2 (by rw [List.getLast?_eq_some_getLast h0, h3])), Bool.false_and], Bool.false_and]
      exact Ev.now _
     ·refine Ev.if_neg (fun h => h3 ((e45 _).1 h)) ?_
      rw [show label8 (c :: r) = true from by
       unfold label8
       rw [decide_eq_true ⟨h0, by omega, by simpa using h2, by rw [List.getLast?_eq_some_getLast h0]; simpa using h3⟩, hc]; rfl, Bool.true_and]
      exact hn
 intro q
 induction q with
 | nil =>
  intro p cur h hc
  simp only [List.length_nil] at h
  refine Ev.step (fun k => by rw [pursuivantref05_Good.l0]) ?_
  refine Ev.if_pos (by (first | omega | (simp only [ba_size', List.length_append, List.length_cons, List.length_nil]; omega) | (simp; omega) | (simp; done))) (Ev.if_neg (by (first | omega | (simp only [ba_size', List.length_append, List.length_cons, List.length_nil]; omega) | (simp; omega) | (simp; done))) ?_)
  have := cut p cur [] true (by (first | omega | (simp only [ba_size', List.length_append, List.length_cons, List.length_nil]; omega) | (simp; omega) | (simp; done))) hc (by
   refine Ev.step (fun k => by rw [pursuivantref05_Good.l0]) ?_
   refine Ev.if_neg ?_ (Ev.now _)
   rw [wrap_nat _ (by (first | omega | (simp only [ba_size', List.length_append, List.length_cons, List.length_nil]; omega) | (simp; omega) | (simp; done)))]; (first | omega | (simp only [ba_size', List.length_append, List.length_cons, List.length_nil]; omega) | (simp; omega) | (simp; done)))
  rw [splitDC_nil, List.all_cons, List.all_nil]
  exact this
 | cons c q ih =>
  intro p cur h hc
  simp only [List.length_cons] at h
  refine Ev.step (fun k => by rw [pursuivantref05_Good.l0]) ?_
  refine Ev.if_pos (by (first | omega | (simp only [ba_size', List.length_append, List.length_cons, List.length_nil]; omega) | (simp; omega) | (simp; done))) (Ev.if_pos (by (first | omega | (simp only [ba_size', List.length_append, List.length_cons, List.length_nil]; omega) | (simp; omega) | (simp; done))) (Ev.if_pos (by omega) ?_))
  simp only [bt_mid]
  have hw := wrap_nat (p ++ cur).length (by (first | omega | (simp only [ba_size', List.length_append, List.length_cons, List.length_nil]; omega) | (simp; omega) | (simp; done)))
  by_cases h46 : c = 46
  ·subst h46
   rw [show (((46 : UInt8).toNat : Int) != 46) = false from by decide, splitDC_hit, List.all_cons]
   refine cut p cur (46 :: q) _ (by (first | omega | (simp only [ba_size', List.length_append, List.length_cons, List.length_nil]; omega) | (simp; omega) | (simp; done))) hc ?_
   rw [hw]
   have := ih (p ++ cur ++ [46]) [] (by (first | omega | (simp only [ba_size', List.length_append, List.length_cons, List.length_nil]; omega) | (simp; omega) | (simp; done))) rfl
   simpa [Nat.add_assoc] using this
  ·rw [show ((c.toNat : Int) != 46) = true from by simp only [bne_iff_ne]; exact fun h => h46 ((c_eq c 46 (by omega)).1 h)]
   refine Ev.step (fun k => by rw [pursuivantref05_Good.j1]) ?_
   refine Ev.if_pos rfl (Ev.if_pos (by omega) (Ev.if_pos (by (first | omega | (simp only [ba_size', List.length_append, List.length_cons, List.length_nil]; omega) | (simp; omega) | (simp; done))) ?_))
   simp only [bt_mid, refLetter, Option.bind_some, hw]
   by_cases hl : letter8 c = true
   ·refine Ev.if_pos hl ?_
    rw [splitDC_other _ _ _ _ h46]
    have := ih p (cur ++ [c]) (by (first | omega | (simp only [ba_size', List.length_append, List.length_cons, List.length_nil]; omega) | (simp; omega) | (simp; done))) (by simp [hc, hl])
    simpa [Nat.add_assoc] using this
   ·refine Ev.if_neg hl ?_
    have hf : (splitDC 46 cur (c :: q)).all label8 = false := by
     rw [splitDC_other _ _ _ _ h46]
     unfold splitDC
     split
     ·simp [label8, hl]
     ·simp [label8, hl]
    rw [hf]; exact Ev.now _
theorem refHost (l : List UInt8) (h : l.length ≤ 1099511627776) : Ev (fun k => pursuivantref05_Good.f k (ba l)) (host8 l) := by
 unfold pursuivantref05_Good.f host8
 rw [ba_size']
 by_cases h1 : (l.length : Int) > 253
 ·refine Ev.if_pos h1 ?_
  rw [decide_eq_false (by omega), Bool.false_and]; exact Ev.now _
 ·refine Ev.if_neg h1 ?_
  rw [decide_eq_true (by omega), Bool.true_and]
  have := refHost_go l [] [] (by simpa using h) rfl
  rw [splitDC_self] at this
  simpa using this
end Go.Proofs.YtoaleclnilbjcaaGreatDoor.Hand
