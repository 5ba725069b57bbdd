/- ascii.Number and its reference: the number that digits make, at most so much. Condition: at most 2^40 bytes. -/
import Derived.Test.YtfibkgmbgdaeoaaGreatDoorFA1
import Derived.Test.YtfibkgmbgdaeoaaGreatDoorFP1
import Derived.Test.YtfibkgmbgdaeoaaGreatDoorPlain
namespace Go.Proofs.YtfibkgmbgdaeoaaGreatDoor.Hand
open Go.RowKit Go.Proofs.YtfibkgmbgdaeoaaGreatDoorW.PrintWords Go.Proofs.YtfibkgmbgdaeoaaGreatDoorW.PrintLast Go.Proofs.YtfibkgmbgdaeoaaGreatDoorW.PrintMore
set_option linter.unusedVariables false
set_option linter.unusedSimpArgs false

def dig8 (c : UInt8) : Bool := decide (48 ≤ c.toNat ∧ c.toNat ≤ 57)
def valF (n : Nat) (l : List UInt8) : Nat := l.foldl (fun n c => 10 * n + (c.toNat - 48)) n
def val8 (l : List UInt8) : Nat := valF 0 l
theorem val8_snoc (l : List UInt8) (c : UInt8) : val8 (l ++ [c]) = 10 * val8 l + (c.toNat - 48) := by simp [val8, valF]
theorem valF_cons (n : Nat) (c : UInt8) (l : List UInt8) : valF n (c :: l) = valF (10 * n + (c.toNat - 48)) l := by unfold valF; rw [List.foldl_cons]
theorem valF_ge : ∀ (l : List UInt8) (n : Nat), n * 10 ^ l.length ≤ valF n l
 | [], n => by simp [valF]
 | c :: l, n => by
  rw [valF_cons]
  refine Nat.le_trans ?_ (valF_ge l _)
  rw [List.length_cons, Nat.pow_succ, Nat.mul_comm (10 ^ l.length) 10, ← Nat.mul_assoc, Nat.mul_comm n 10]
  exact Nat.mul_le_mul_right _ (by omega)
theorem valF_lt : ∀ (l : List UInt8) (n : Nat), l.all dig8 = true → valF n l < (n + 1) * 10 ^ l.length
 | [], n, _ => by simp [valF]
 | c :: l, n, h => by
  rw [List.all_cons, Bool.and_eq_true] at h
  have hc : 48 ≤ c.toNat ∧ c.toNat ≤ 57 := of_decide_eq_true h.1
  rw [valF_cons]
  refine Nat.lt_of_lt_of_le (valF_lt l _ h.2) ?_
  rw [List.length_cons, Nat.pow_succ, Nat.mul_comm (10 ^ l.length) 10, ← Nat.mul_assoc]
  exact Nat.mul_le_mul_right _ (by omega)
theorem val8_lt (l : List UInt8) (h : l.all dig8 = true) : val8 l < 10 ^ l.length := by simpa [val8] using valF_lt l 0 h
def noughts (l : List UInt8) : List UInt8 := l.dropWhile (· == 48)
theorem val8_noughts : ∀ l : List UInt8, val8 (noughts l) = val8 l
 | [] => rfl
 | c :: l => by
  unfold noughts
  rw [List.dropWhile_cons]
  split
  ·rename_i h
   obtain rfl : c = 48 := by simpa using h
   exact val8_noughts l
  ·rfl
theorem noughts_all (l : List UInt8) (h : l.all dig8 = true) : (noughts l).all dig8 = true :=
 List.all_eq_true.2 fun c hc => List.all_eq_true.1 h c ((List.dropWhile_sublist _).subset hc)
theorem noughts_length (l : List UInt8) : (noughts l).length ≤ l.length := (List.dropWhile_sublist _).length_le
theorem noughts_drop : ∀ l : List UInt8, noughts l = l.drop (l.length - (noughts l).length)
 | [] => rfl
 | c :: l => by
  have h := noughts_length l
  unfold noughts at h ⊢
  rw [List.dropWhile_cons]
  split
  ·conv => lhs; rw [show List.dropWhile (fun x => x == 48) l = noughts l from rfl, noughts_drop l]
   rw [List.length_cons, Nat.succ_sub h, List.drop_succ_cons]; rfl
  ·simp
theorem noughts_snoc (l : List UInt8) (c : UInt8) : noughts (l ++ [c]) = if noughts l = [] ∧ c = 48 then [] else noughts l ++ [c] := by
 unfold noughts
 rw [List.dropWhile_append]
 by_cases h : l.dropWhile (fun x => x == 48) = []
 ·by_cases hc : c = 48
  ·simp [h, hc]
  ·simp [h, hc]
 ·have hi : (l.dropWhile (fun x => x == 48)).isEmpty = false := by simpa using h
  rw [hi]; simp [h]
theorem noughts_ge (l : List UInt8) (h : l.all dig8 = true) (n : Nat) (hn : n < (noughts l).length) : 10 ^ n ≤ val8 l := by
 rw [← val8_noughts]
 have ha := noughts_all l h
 cases e : noughts l with
 | nil => rw [e] at hn; simp at hn
 | cons c r =>
  rw [e] at hn ha
  rw [List.all_cons, Bool.and_eq_true] at ha
  have hc : 48 ≤ c.toNat ∧ c.toNat ≤ 57 := of_decide_eq_true ha.1
  have hne : c.toNat ≠ 48 := by
   intro e48
   have := List.head?_dropWhile_not (· == (48 : UInt8)) l
   unfold noughts at e
   rw [e] at this
   simp at this
   exact this (UInt8.toNat_inj.1 (by simpa using e48))
  unfold val8
  rw [valF_cons]
  refine Nat.le_trans ?_ (valF_ge r _)
  rw [List.length_cons] at hn
  have h1 : 10 ^ n ≤ 10 ^ r.length := Nat.pow_le_pow_right (by omega) (by omega)
  refine Nat.le_trans h1 ?_
  calc 10 ^ r.length = 1 * 10 ^ r.length := by simp
   _ ≤ _ := Nat.mul_le_mul_right _ (by omega)
theorem val8_sig (l : List UInt8) (h : l.all dig8 = true) (n : Nat) (hn : (noughts l).length ≤ n) : val8 l < 10 ^ n := by
 rw [← val8_noughts]
 exact Nat.lt_of_lt_of_le (val8_lt _ (noughts_all l h)) (Nat.pow_le_pow_right (by omega) hn)
def num8 (l : List UInt8) (m : Nat) : Int × Bool := if l.all dig8 = true then (((min (val8 l) m : Nat) : Int), !l.isEmpty) else (0, false)
theorem dig8_true {c : UInt8} (h : dig8 c = true) : ((((c.toNat : Int) - 48) % 256) = ((c.toNat - 48 : Nat) : Int)) ∧ ¬(c.toNat : Int) < 48 ∧ ¬(c.toNat : Int) > 57 ∧ c.toNat - 48 ≤ 9 := by
 have := of_decide_eq_true h
 omega
theorem tdiv10 (m d : Nat) (hd : d ≤ 9) : (d ≤ m → Int.tdiv ((m : Int) - d) 10 = (((m - d) / 10 : Nat) : Int)) ∧ (m < d → Int.tdiv ((m : Int) - d) 10 = 0) := by
 constructor
 ·intro h
  rw [Int.tdiv_eq_ediv_of_nonneg (by omega)]; omega
 ·intro h
  obtain ⟨e, he, he9⟩ : ∃ e : Nat, (m : Int) - d = -(e : Int) ∧ e ≤ 9 := ⟨d - m, by omega, by omega⟩
  rw [he, Int.neg_tdiv, Int.tdiv_eq_ediv_of_nonneg (by omega)]; omega
theorem num_step (m v n d : Nat) (T : Int) (hm : m ≤ 9223372036854775807) (hn : n = min v m) (hd : d ≤ 9) (t1 : d ≤ m → T = (((m - d) / 10 : Nat) : Int)) (t2 : m < d → T = 0) :
  wrap64 T = T ∧ ((n : Int) > T → min (10 * v + d) m = m) ∧ (¬(n : Int) > T → mn (wrap64 (wrap64 (10 * (n : Int)) + (d : Int))) (m : Int) = ((min (10 * v + d) m : Nat) : Int)) := by
 by_cases h : d ≤ m
 ·have e := t1 h
  clear t1 t2
  subst e
  refine ⟨wrap_ok _ (by omega) (by omega), fun h1 => by omega, fun h1 => ?_⟩
  rw [wrap_ok (10 * (n : Int)) (by omega) (by omega), wrap_ok (10 * (n : Int) + (d : Int)) (by omega) (by omega)]
  unfold mn
  split <;> omega
 ·have e := t2 (by omega)
  clear t1 t2
  subst e
  refine ⟨wrap_ok _ (by omega) (by omega), fun h1 => by omega, fun h1 => ?_⟩
  rw [wrap_ok (10 * (n : Int)) (by omega) (by omega), wrap_ok (10 * (n : Int) + (d : Int)) (by omega) (by omega)]
  unfold mn
  split <;> omega
theorem dig8_false {c : UInt8} (h : ¬dig8 c = true) : (c.toNat : Int) < 48 ∨ (¬(c.toNat : Int) < 48 ∧ (c.toNat : Int) > 57) := by
 have : ¬(48 ≤ c.toNat ∧ c.toNat ≤ 57) := fun e => h (decide_eq_true e)
 omega
theorem progNumber_go (m : Nat) (hm : m ≤ 9223372036854775807) : ∀ (q p : List UInt8) (n : Nat), p.length + q.length ≤ 1099511627776 → n = min (val8 p) m →
  Ev (fun k => ascii_Number.l0 k (ba (p ++ q)) (m : Int) (n : Int) ((p ++ q).length : Int) (p.length : Int)) (if q.all dig8 = true then (((min (val8 (p ++ q)) m : Nat) : Int), !(p ++ q).isEmpty) else (0, false)) := by
 intro q
 induction q with
 | nil =>
  intro p n h hn
  refine Ev.step (fun k => by rw [ascii_Number.l0]) ?_
  refine Ev.if_neg (by (first | omega | (simp only [ba_size', List.length_append, List.length_cons, List.length_nil]; omega) | (simp; omega) | (simp; done))) ?_
  rw [ba_list, List.append_nil, List.all_nil, if_pos rfl, ← hn, show (p != ([] : List UInt8)) = !p.isEmpty from by cases p <;> rfl]
  exact Ev.now _
 | cons c q ih =>
  intro p n h hn
  simp only [List.length_cons] at h
  refine Ev.step (fun k => by rw [ascii_Number.l0]) ?_
  refine Ev.if_pos (by (first | omega | (simp only [ba_size', List.length_append, List.length_cons, List.length_nil]; omega) | (simp; omega) | (simp; done))) (Ev.if_pos (by omega) (Ev.if_pos (by (first | omega | (simp only [ba_size', List.length_append, List.length_cons, List.length_nil]; omega) | (simp; omega) | (simp; done))) ?_))
  simp only [bt_mid]
  by_cases hc : dig8 c = true
  ·obtain ⟨h1, h2, h3, h4⟩ := dig8_true hc
   refine Ev.if_neg h2 ?_
   rw [decide_eq_false h3]
   refine Ev.step (fun k => by rw [ascii_Number.j1]) ?_
   refine Ev.if_neg (by simp) (Ev.if_pos (by omega) (Ev.if_pos (by (first | omega | (simp only [ba_size', List.length_append, List.length_cons, List.length_nil]; omega) | (simp; omega) | (simp; done))) ?_))
   have hs := val8_snoc p c
   have hn' := fun n' hn' => ih (p ++ [c]) n' (by (first | omega | (simp only [ba_size', List.length_append, List.length_cons, List.length_nil]; omega) | (simp; omega) | (simp; done))) hn'
   rw [List.append_assoc, List.singleton_append, show (p ++ [c]).length = p.length + 1 from by simp, hs] at hn'
   simp only [bt_mid, h1, wrap_nat _ (show p.length < 9223372036854775807 by omega)]
   obtain ⟨t1, t2⟩ := tdiv10 m (c.toNat - 48) h4
   rw [wrap_ok ((m : Int) - ((c.toNat - 48 : Nat) : Int)) (by omega) (by omega)]
   obtain ⟨hw, ha, hb⟩ := num_step m (val8 p) n _ _ hm hn h4 t1 t2
   rw [hw]
   simp only [List.all_cons, hc, Bool.true_and]
   by_cases hg : (n : Int) > Int.tdiv ((m : Int) - ((c.toNat - 48 : Nat) : Int)) 10
   ·exact Ev.if_pos hg (hn' m (ha hg).symm)
   ·refine Ev.if_neg hg ?_
    rw [hb hg]
    exact hn' _ rfl
  ·have hres : (if (c :: q).all dig8 = true then (((min (val8 (p ++ c :: q)) m : Nat) : Int), !(p ++ c :: q).isEmpty) else (0, false)) = ((0, false) : Int × Bool) := if_neg (by simp [hc])
   rw [hres]
   rcases dig8_false hc with h1 | ⟨h1, h2⟩
   ·refine Ev.if_pos h1 ?_
    refine Ev.step (fun k => by rw [ascii_Number.j1]) ?_
    exact Ev.if_pos rfl (Ev.now _)
   ·refine Ev.if_neg h1 ?_
    rw [decide_eq_true h2]
    refine Ev.step (fun k => by rw [ascii_Number.j1]) ?_
    exact Ev.if_pos rfl (Ev.now _)
theorem progNumber (l : List UInt8) (m : Nat) (h : l.length ≤ 1099511627776) (hm : m ≤ 9223372036854775807) : Ev (fun k => ascii_Number.f k (ba l) (m : Int)) (num8 l m) := by
 have := progNumber_go m hm l [] 0 (by simpa using h) (by simp [val8, valF])
 unfold ascii_Number.f num8
 simpa using this
theorem u64_ok (n : Int) (h : 0 ≤ n) (h1 : n < 18446744073709551616) : IntKind.u64.wrap n = n := by
 simp [IntKind.wrap, IntKind.bits, IntKind.signed]; omega
theorem refTop_go : ∀ (q p : List UInt8), p.length + q.length ≤ 19 → (p ++ q).all dig8 = true →
  Ev (fun k => pursuivantref04_top.l0 k (ba (p ++ q)) (val8 p : Int) (p.length : Int)) ((min (val8 (p ++ q)) 9223372036854775807 : Nat) : Int) := by
 intro q
 induction q with
 | nil =>
  intro p h ha
  refine Ev.step (fun k => by rw [pursuivantref04_top.l0]) ?_
  refine Ev.if_neg (by (first | omega | (simp only [ba_size', List.length_append, List.length_cons, List.length_nil]; omega) | (simp; omega) | (simp; done))) ?_
  rw [List.append_nil]
  by_cases hg : (val8 p : Int) > 9223372036854775807
  ·refine Ev.if_pos hg ?_
   rw [show ((min (val8 p) 9223372036854775807 : Nat) : Int) = 9223372036854775807 from by omega]
   exact Ev.now _
  ·refine Ev.if_neg hg ?_
   rw [wrap_ok _ (by omega) (by omega), show ((min (val8 p) 9223372036854775807 : Nat) : Int) = (val8 p : Int) from by omega]
   exact Ev.now _
 | cons c q ih =>
  intro p h ha
  simp only [List.length_cons] at h
  refine Ev.step (fun k => by rw [pursuivantref04_top.l0]) ?_
  refine Ev.if_pos (by (first | omega | (simp only [ba_size', List.length_append, List.length_cons, List.length_nil]; omega) | (simp; omega) | (simp; done))) (Ev.if_pos (by omega) ?_)
  have hc : dig8 c = true := List.all_eq_true.1 ha c (by simp)
  obtain ⟨h1, h2, h3, h4⟩ := dig8_true hc
  have hp : p.all dig8 = true := List.all_eq_true.2 fun d hd => List.all_eq_true.1 ha d (by simp [hd])
  have hv := val8_sig p hp 18 (Nat.le_trans (noughts_length p) (by omega))
  have hn' := ih (p ++ [c]) (by (first | omega | (simp only [ba_size', List.length_append, List.length_cons, List.length_nil]; omega) | (simp; omega) | (simp; done))) (by rw [List.append_assoc, List.singleton_append]; exact ha)
  rw [List.append_assoc, List.singleton_append, show (p ++ [c]).length = p.length + 1 from by simp, val8_snoc] at hn'
  simp only [bt_mid, h1, wrap_nat _ (show p.length < 9223372036854775807 by omega)]
  rw [u64_ok (10 * (val8 p : Int)) (by omega) (by omega), u64_ok _ (by omega) (by omega)]
  have e : 10 * (val8 p : Int) + ((c.toNat - 48 : Nat) : Int) = ((10 * val8 p + (c.toNat - 48) : Nat) : Int) := by omega
  rw [e]
  exact hn'
theorem refTop (l : List UInt8) (h : l.length ≤ 19) (ha : l.all dig8 = true) : Ev (fun k => pursuivantref04_top.f k (ba l)) ((min (val8 l) 9223372036854775807 : Nat) : Int) := by
 have := refTop_go l [] (by simpa using h) (by simpa using ha)
 unfold pursuivantref04_top.f
 simpa [val8, valF] using this
theorem refNumber_end (m : Nat) (hm : m ≤ 9223372036854775807) (p : List UInt8) (n : Int) (h : p.length ≤ 1099511627776) (ha : p.all dig8 = true) (hn : (noughts p).length ≤ 18 → n = (val8 p : Int)) :
  Ev (fun k => if ((noughts p).length : Int) = 19 then (pursuivantref04_Number.j3 k (ba p) (m : Int) n ((noughts p).length : Int) (decide (((ba p).size : Int) ≥ 19))) else (pursuivantref04_Number.j3 k (ba p) (m : Int) n ((noughts p).length : Int) false)) (((min (val8 p) m : Nat) : Int), !p.isEmpty) := by
 have he : decide (((ba p).size : Int) > 0) = !p.isEmpty := by cases p <;> simp <;> omega
 have hL := noughts_length p
 by_cases h19 : (noughts p).length = 19
 ·refine Ev.if_pos (by omega) ?_
  rw [decide_eq_true (by rw [ba_size']; omega)]
  refine Ev.step (fun k => by rw [pursuivantref04_Number.j3]) ?_
  have hw : wrap64 (((ba p).size : Int) - 19) = ((p.length - 19 : Nat) : Int) := by rw [ba_size', wrap_ok] <;> omega
  have hx : (ba p).extract ((p.length - 19 : Nat) : Int).toNat (ba p).size = ba (noughts p) := by
   rw [Int.toNat_natCast, ba_extract, ba_size', noughts_drop p, h19, List.take_of_length_le (by rw [List.length_drop]; omega)]
  rw [hw, hx]
  refine Ev.if_pos rfl (Ev.if_pos (by omega) (Ev.if_pos (by rw [ba_size']; omega) ?_))
  refine Ev.bind (refTop _ (by omega) (noughts_all p ha)) ?_
  rw [he, val8_noughts]
  refine Ev.if_neg (by omega) ?_
  by_cases hg : ((min (val8 p) 9223372036854775807 : Nat) : Int) > (m : Int)
  ·refine Ev.if_pos hg ?_
   rw [show min (val8 p) m = m from by omega]; exact Ev.now _
  ·refine Ev.if_neg hg ?_
   rw [show min (val8 p) m = min (val8 p) 9223372036854775807 from by omega]; exact Ev.now _
 ·refine Ev.if_neg (by omega) ?_
  refine Ev.step (fun k => by rw [pursuivantref04_Number.j3]) ?_
  refine Ev.if_neg (by simp) ?_
  rw [he]
  by_cases hg : ((noughts p).length : Int) > 19
  ·have := noughts_ge p ha 19 (by omega)
   refine Ev.if_pos hg ?_
   rw [show min (val8 p) m = m from by omega]; exact Ev.now _
  ·refine Ev.if_neg hg ?_
   obtain rfl := hn (by omega)
   by_cases hq : (val8 p : Int) > (m : Int)
   ·refine Ev.if_pos hq ?_
    rw [show min (val8 p) m = m from by omega]; exact Ev.now _
   ·refine Ev.if_neg hq ?_
    rw [show min (val8 p) m = val8 p from by omega]; exact Ev.now _
theorem refNumber_go (m : Nat) (hm : m ≤ 9223372036854775807) : ∀ (q p : List UInt8) (n : Int), p.length + q.length ≤ 1099511627776 → p.all dig8 = true → ((noughts p).length ≤ 18 → n = (val8 p : Int)) →
  Ev (fun k => pursuivantref04_Number.l0 k (ba (p ++ q)) (m : Int) n ((noughts p).length : Int) (p.length : Int)) (if q.all dig8 = true then (((min (val8 (p ++ q)) m : Nat) : Int), !(p ++ q).isEmpty) else (0, false)) := by
 intro q
 induction q with
 | nil =>
  intro p n h ha hn
  refine Ev.step (fun k => by rw [pursuivantref04_Number.l0]) ?_
  refine Ev.if_neg (by (first | omega | (simp only [ba_size', List.length_append, List.length_cons, List.length_nil]; omega) | (simp; omega) | (simp; done))) ?_
  rw [List.append_nil, List.all_nil, if_pos rfl]
  exact refNumber_end m hm p n (by simpa using h) ha hn
 | cons c q ih =>
  intro p n h ha hn
  simp only [List.length_cons] at h
  refine Ev.step (fun k => by rw [pursuivantref04_Number.l0]) ?_
  refine Ev.if_pos (by (first | omega | (simp only [ba_size', List.length_append, List.length_cons, List.length_nil]; omega) | (simp; omega) | (simp; done))) (Ev.if_pos (by omega) ?_)
  simp only [bt_mid]
  by_cases hc : dig8 c = true
  ·obtain ⟨h1, h2, h3, h4⟩ := dig8_true hc
   refine Ev.if_neg h2 ?_
   rw [decide_eq_false h3]
   refine Ev.step (fun k => by rw [pursuivantref04_Number.j1]) ?_
   refine Ev.if_neg (by simp) ?_
   have hL := noughts_length p
   have ha' : (p ++ [c]).all dig8 = true := by simp [ha, hc]
   have hn' := fun n' hn' => ih (p ++ [c]) n' (by (first | omega | (simp only [ba_size', List.length_append, List.length_cons, List.length_nil]; omega) | (simp; omega) | (simp; done))) ha' hn'
   have hsn := noughts_snoc p c
   rw [List.append_assoc, List.singleton_append, show (p ++ [c]).length = p.length + 1 from by simp, val8_snoc] at hn'
   have hres : (if (c :: q).all dig8 = true then (((min (val8 (p ++ c :: q)) m : Nat) : Int), !(p ++ c :: q).isEmpty) else (0, false)) = (if q.all dig8 = true then (((min (val8 (p ++ c :: q)) m : Nat) : Int), !(p ++ c :: q).isEmpty) else ((0, false) : Int × Bool)) := by rw [List.all_cons, hc, Bool.true_and]
   rw [hres]
   have hw := wrap_nat _ (show p.length < 9223372036854775807 by omega)
   have go : ¬(noughts p = [] ∧ c = 48) → Ev (fun k => pursuivantref04_Number.j2 k (ba (p ++ c :: q)) (m : Int) n ((noughts p).length : Int) (p.length : Int) true) (if q.all dig8 = true then (((min (val8 (p ++ c :: q)) m : Nat) : Int), !(p ++ c :: q).isEmpty) else ((0, false) : Int × Bool)) := by
    intro hne
    rw [if_neg hne] at hsn
    rw [hsn, show (noughts p ++ [c]).length = (noughts p).length + 1 from by simp] at hn'
    refine Ev.step (fun k => by rw [pursuivantref04_Number.j2]) ?_
    refine Ev.if_pos rfl ?_
    simp only [bt_mid, h1, hw, wrap_nat _ (show (noughts p).length < 9223372036854775807 by omega)]
    by_cases h18 : (noughts p).length + 1 ≤ 18
    ·refine Ev.if_pos (by omega) (Ev.if_pos (by omega) (Ev.if_pos (by (first | omega | (simp only [ba_size', List.length_append, List.length_cons, List.length_nil]; omega) | (simp; omega) | (simp; done))) ?_))
     have hv := val8_sig p ha 17 (by omega)
     obtain rfl := hn (by omega)
     rw [wrap_ok (10 * (val8 p : Int)) (by omega) (by omega), wrap_ok _ (by omega) (by omega)]
     exact hn' _ (fun _ => by omega)
    ·refine Ev.if_neg (by omega) (hn' _ (fun h => by omega))
   by_cases h0 : noughts p = []
   ·refine Ev.if_neg (by rw [h0]; simp) (Ev.if_pos (by omega) (Ev.if_pos (by (first | omega | (simp only [ba_size', List.length_append, List.length_cons, List.length_nil]; omega) | (simp; omega) | (simp; done))) ?_))
    simp only [bt_mid]
    by_cases h48 : c = 48
    ·subst h48
     rw [decide_eq_false (by decide)]
     rw [if_pos ⟨h0, rfl⟩] at hsn
     rw [hsn] at hn'
     refine Ev.step (fun k => by rw [pursuivantref04_Number.j2]) ?_
     refine Ev.if_neg (by simp) ?_
     obtain rfl := hn (by rw [h0]; simp)
     have hv := val8_sig p ha 0 (by rw [h0]; simp)
     simp only [bt_mid, h1, hw]
     refine Ev.if_pos (by rw [h0]; simp) (Ev.if_pos (by omega) (Ev.if_pos (by (first | omega | (simp only [ba_size', List.length_append, List.length_cons, List.length_nil]; omega) | (simp; omega) | (simp; done))) ?_))
     rw [wrap_ok (10 * (val8 p : Int)) (by omega) (by omega), wrap_ok _ (by omega) (by omega), h0]
     exact hn' _ (fun _ => by omega)
    ·have hgt : (c.toNat : Int) > 48 := by
      have : c.toNat ≠ 48 := fun e => h48 (UInt8.toNat_inj.1 (by simpa using e))
      omega
     rw [decide_eq_true hgt]
     exact go (fun e => h48 e.2)
   ·refine Ev.if_pos ?_ (go (fun e => h0 e.1))
    have := List.length_pos_iff.2 h0
    omega
  ·have hres : (if (c :: q).all dig8 = true then (((min (val8 (p ++ c :: q)) m : Nat) : Int), !(p ++ c :: q).isEmpty) else (0, false)) = ((0, false) : Int × Bool) := if_neg (by simp [hc])
   rw [hres]
   rcases dig8_false hc with h1 | ⟨h1, h2⟩
   ·refine Ev.if_pos h1 ?_
    refine Ev.step (fun k => by rw [pursuivantref04_Number.j1]) ?_
    exact Ev.if_pos rfl (Ev.now _)
   ·refine Ev.if_neg h1 ?_
    rw [decide_eq_true h2]
    refine Ev.step (fun k => by rw [pursuivantref04_Number.j1]) ?_
    exact Ev.if_pos rfl (Ev.now _)
theorem refNumber (l : List UInt8) (m : Nat) (h : l.length ≤ 1099511627776) (hm : m ≤ 9223372036854775807) : Ev (fun k => pursuivantref04_Number.f k (ba l) (m : Int)) (num8 l m) := by
 have := refNumber_go m hm l [] 0 (by simpa using h) rfl (by simp [val8, valF])
 unfold pursuivantref04_Number.f num8
 simpa [noughts] using this
end Go.Proofs.YtfibkgmbgdaeoaaGreatDoor.Hand
