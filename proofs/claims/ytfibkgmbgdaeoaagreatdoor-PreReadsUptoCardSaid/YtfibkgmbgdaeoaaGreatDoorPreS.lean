/- What the document's Read and Lets say; the law PreReads in plain Lean. Condition: at most 2^20 bytes of bulk. -/
import Derived.Test.YtfibkgmbgdaeoaaGreatDoorPreQ
import Derived.Test.YtfibkgmbgdaeoaaGreatDoorFYQ1
namespace Go.Proofs.YtfibkgmbgdaeoaaGreatDoor.Hand
open Go.RowKit Go.Proofs.YtfibkgmbgdaeoaaGreatDoorW.PrintWords Go.Proofs.YtfibkgmbgdaeoaaGreatDoorW.PrintLast Go.Proofs.YtfibkgmbgdaeoaaGreatDoorW.PrintMore
set_option linter.unusedVariables false
set_option linter.unusedSimpArgs false

theorem refListB (s : ByteArray) (h : s.size ≤ 1099511627776) : Ev (fun k => pursuivantref04_List.f k s) (listBA s) := by
 obtain ⟨l, rfl⟩ := ba_of s
 rw [listBA_ba]
 exact refList l (by simpa using h)
theorem refTokB (x : ByteArray) (h : x.size ≤ 1099511627776) : Ev (fun k => pursuivantref04_Token.f k x) (tokB x) := by
 obtain ⟨l, rfl⟩ := ba_of x
 unfold tokB
 rw [ba_data]
 exact refToken l (by simpa using h)
theorem refLowB (x : ByteArray) (h : x.size ≤ 1099511627776) : Ev (fun k => pursuivantref04_Lower.f k x) (lowBA x) := by
 obtain ⟨l, rfl⟩ := ba_of x
 rw [lowBA_ba]
 exact refLowerE l (by simpa using h)
def noR : List ByteArray × List ByteArray × Int × Bool := ([], [], 0, false)
theorem refRead_l1 (st : Int) (l : List Hd) (body : ByteArray) (hs : hdrSum l ≤ 1048576) (ms : List ByteArray) : ∀ (q p : List ByteArray), (p ++ q).length ≤ 1099511627776 → (∀ x ∈ q, x.size ≤ 1099511627776) →
  Ev (fun k => pursuivantref14_Read.l1 k (p ++ q) (p.length : Int) st l body 0 ms (p.map lowBA) 5) (if q.all tokB = true then (ms, (p ++ q).map lowBA, ageOf (getBA acma l), true) else noR) := by
 intro q
 induction q with
 | nil =>
  intro p hl hq
  rw [List.append_nil] at *
  have hz := getBA_size acma l
  refine Ev.step (fun k => by rw [pursuivantref14_Read.l1]) ?_
  refine Ev.if_neg (by simp) ?_
  have e := refGet l acma (by omega) (by simp [acma, ByteArray.size])
  refine Ev.bind e ?_
  obtain ⟨s, hs2⟩ := ba_of (getBA acma l)
  have e2 := refNumber s 86400 (by have := hz; rw [hs2, ba_size'] at this; omega) (by omega)
  have ea : ageOf (getBA acma l) = if (num8 s 86400).2 = true then (num8 s 86400).1 else 5 := by unfold ageOf; rw [hs2, ba_data]
  rw [hs2] at ea ⊢
  rw [ea]
  rw [if_pos (show ([] : List ByteArray).all tokB = true from rfl)]
  refine Ev.bind e2 ?_
  by_cases c : (num8 s 86400).2 = true
  ·rw [show (if (num8 s 86400).2 = true then (num8 s 86400).1 else 5) = (num8 s 86400).1 from if_pos c]
   exact Ev.if_pos c (Ev.now _)
  ·rw [show (if (num8 s 86400).2 = true then (num8 s 86400).1 else 5) = 5 from if_neg c]
   exact Ev.if_neg c (Ev.now _)
 | cons x q ih =>
  intro p hl hq
  have hpl : p.length < (p ++ x :: q).length := by simp
  have hx := hq x (by simp)
  refine Ev.step (fun k => by rw [pursuivantref14_Read.l1]) ?_
  refine Ev.if_pos (by omega) (Ev.if_pos (by omega) ?_)
  rw [rdOf_mid, wrap_nat _ (by omega)]
  refine Ev.bind (refTokB x hx) ?_
  by_cases c : tokB x = true
  ·have e : (x :: q).all tokB = q.all tokB := by rw [List.all_cons, c, Bool.true_and]
   rw [e]
   refine Ev.if_pos c (Ev.bind (refLowB x hx) (Ev.if_pos (by rw [List.length_map]; omega) ?_))
   have hn := ih (p ++ [x]) (by simpa using hl) (fun y hy => hq y (by simp [hy]))
   simpa using hn
  ·have e : (x :: q).all tokB = false := by rw [List.all_cons, Bool.eq_false_iff.2 c, Bool.false_and]
   rw [e]
   exact Ev.if_neg c (Ev.now _)
theorem refRead_l0 (st : Int) (l : List Hd) (body hd : ByteArray) (R : List ByteArray × List ByteArray × Int × Bool) (ms : List ByteArray)
  (hR : Ev (fun k => (pursuivantref04_List.f k hd).bind fun t => pursuivantref14_Read.l1 k t 0 st l body 0 ms ([] : List ByteArray) 5) R) : ∀ (q p : List ByteArray), ms = p ++ q → (p ++ q).length ≤ 1099511627776 → (∀ x ∈ q, x.size ≤ 1099511627776) →
  Ev (fun k => pursuivantref14_Read.l0 k hd (p.length : Int) st l body 0 ms 5) (if q.all tokB = true then R else noR) := by
 intro q
 induction q with
 | nil =>
  intro p he hl hq
  rw [List.append_nil] at *
  refine Ev.step (fun k => by rw [pursuivantref14_Read.l0]) ?_
  exact Ev.if_neg (by rw [he]; simp) hR
 | cons x q ih =>
  intro p he hl hq
  have hpl : p.length < ms.length := by rw [he]; simp
  rw [← he] at hl
  have hx := hq x (by simp)
  have er : rdOf ByteArray.empty ms (p.length : Int) = x := by rw [he]; exact rdOf_mid p q x
  refine Ev.step (fun k => by rw [pursuivantref14_Read.l0]) ?_
  refine Ev.if_pos (by omega) (Ev.if_pos (by omega) ?_)
  rw [er, wrap_nat _ (by omega)]
  refine Ev.bind (refTokB x hx) ?_
  by_cases c : tokB x = true
  ·have e : (x :: q).all tokB = q.all tokB := by rw [List.all_cons, c, Bool.true_and]
   rw [e]
   refine Ev.if_pos c ?_
   have hn := ih (p ++ [x]) (by rw [he]; simp) (by rw [List.append_assoc, List.singleton_append, ← he]; exact hl) (fun y hy => hq y (by simp [hy]))
   simpa using hn
  ·have e : (x :: q).all tokB = false := by rw [List.all_cons, Bool.eq_false_iff.2 c, Bool.false_and]
   rw [e]
   exact Ev.if_neg c (Ev.now _)
theorem status_iff (st : Int) (h0 : -9223372036854775808 ≤ st) (h1 : st ≤ 9223372036854775807) : wrap64 (Int.tdiv st 100) = 2 ↔ 200 ≤ st ∧ st ≤ 299 := by
 by_cases hn : 0 ≤ st
 ·rw [Int.tdiv_eq_ediv_of_nonneg hn, wrap_ok _ (by omega) (by omega)]
  omega
 ·have e : Int.tdiv st 100 = -((-st) / 100) := by
   rw [← Int.tdiv_eq_ediv_of_nonneg (by omega), Int.neg_tdiv, Int.neg_neg]
  rw [e, wrap_ok _ (by omega) (by omega)]
  omega
theorem refRead (st : Int) (l : List Hd) (body frm : ByteArray) (cred : Int) (hs : hdrSum l ≤ 1048576) (h0 : -9223372036854775808 ≤ st) (h1 : st ≤ 9223372036854775807) : Ev (fun k => pursuivantref14_Read.f k st l body frm cred) (readB st l frm cred) := by
 have z1 := getBA_size acam l
 have z2 := getBA_size acah l
 have e1 := refGet l acam (by omega) (by simp [acam, ByteArray.size])
 have e2 := refGet l acah (by omega) (by simp [acah, ByteArray.size])
 have hno : Ev (fun k => pursuivantref14_Read.j0 k true st l body 0) noR := by
  refine Ev.step (fun k => by rw [pursuivantref14_Read.j0]) ?_
  exact Ev.if_pos rfl (Ev.now _)
 unfold pursuivantref14_Read.f readB readOk
 by_cases c : 200 ≤ st ∧ st ≤ 299
 ·rw [decide_eq_true c.1, decide_eq_true c.2, Bool.true_and, Bool.true_and]
  refine Ev.if_pos ((status_iff st h0 h1).2 c) (Ev.bind (refCheck l frm cred (by omega)) ?_)
  by_cases c3 : chk l frm cred = true
  ·rw [c3, Bool.true_and, Bool.not_true]
   refine Ev.step (fun k => by rw [pursuivantref14_Read.j0]) ?_
   refine Ev.if_neg (by simp) (Ev.bind e1 (Ev.bind e2 (Ev.bind (refListB (getBA acam l) (by omega)) ?_)))
   have m1 := listBA_length (getBA acam l)
   have m2 := listBA_length (getBA acah l)
   have hl1 := refRead_l1 st l body hs (listBA (getBA acam l)) (listBA (getBA acah l)) [] (by simp; omega) (fun x hx => by have := listBA_mem hx; omega)
   have hl0 := refRead_l0 st l body (getBA acah l) _ (listBA (getBA acam l)) (Ev.bind (refListB _ (by omega)) hl1) (listBA (getBA acam l)) [] rfl (by simp; omega) (fun x hx => by have := listBA_mem hx; omega)
   rw [List.nil_append] at hl0
   have et : ∀ (a b : Bool) (X : List ByteArray × List ByteArray × Int × Bool), (if (a && b) = true then X else ([], [], 0, false)) = (if a = true then (if b = true then X else noR) else noR) := fun a b X => by cases a <;> cases b <;> rfl
   rw [et]
   exact hl0
  ·rw [Bool.eq_false_iff.2 c3, Bool.false_and, Bool.false_and]
   exact hno
 ·have e : (decide (200 ≤ st) && decide (st ≤ 299) && chk l frm cred && (listBA (getBA acam l)).all tokB && (listBA (getBA acah l)).all tokB) = false := by
   have : (decide (200 ≤ st) && decide (st ≤ 299)) = false := by
    rw [Bool.eq_false_iff]
    intro h
    simp only [Bool.and_eq_true, decide_eq_true_iff] at h
    exact c h
   rw [this]; rfl
  rw [e]
  exact Ev.if_neg (fun h => c ((status_iff st h0 h1).1 h)) hno

theorem refAmong_g (x : ByteArray) : ∀ (q p : List ByteArray), (p ++ q).length ≤ 1099511627776 → Ev (fun k => pursuivantref14_among.l0 k x (p ++ q) (p.length : Int)) (hasB q x) := by
 intro q
 induction q with
 | nil =>
  intro p hl
  refine Ev.step (fun k => by rw [pursuivantref14_among.l0]) ?_
  exact Ev.if_neg (by simp) (Ev.now _)
 | cons y q ih =>
  intro p hl
  have hpl : p.length < (p ++ y :: q).length := by simp
  refine Ev.step (fun k => by rw [pursuivantref14_among.l0]) ?_
  refine Ev.if_pos (by omega) (Ev.if_pos (by omega) ?_)
  rw [rdOf_mid, wrap_nat _ (by omega)]
  by_cases c : y.toList = x.toList
  ·have e : hasB (y :: q) x = true := by unfold hasB; rw [List.any_cons, decide_eq_true c.symm]; rfl
   rw [e]
   exact Ev.if_pos c (Ev.now _)
  ·have e : hasB (y :: q) x = hasB q x := by unfold hasB; rw [List.any_cons, decide_eq_false (fun h => c h.symm), Bool.false_or]
   rw [e]
   have hn := ih (p ++ [y]) (by simpa using hl)
   exact Ev.if_neg c (by simpa using hn)
theorem refAmong14 (x : ByteArray) (l : List ByteArray) (h : l.length ≤ 1099511627776) : Ev (fun k => pursuivantref14_among.f k x l) (hasB l x) := refAmong_g x l [] h
theorem refLets_l0 (m h : List ByteArray) (age cred : Int) (hh : h.length ≤ 1048577) : ∀ (q p : List ByteArray), (p ++ q).length ≤ 1099511627776 →
  Ev (fun k => pursuivantref14_Answer_Lets.l0 k (p ++ q) cred (p.length : Int) m h age) (!(q.any (missB h (decide (cred ≠ 3) && hasB h starB)))) := by
 intro q
 induction q with
 | nil =>
  intro p hl
  refine Ev.step (fun k => by rw [pursuivantref14_Answer_Lets.l0]) ?_
  exact Ev.if_neg (by simp) (Ev.now _)
 | cons x q ih =>
  intro p hl
  have hpl : p.length < (p ++ x :: q).length := by simp
  have hn := ih (p ++ [x]) (by simpa using hl)
  rw [List.append_assoc, List.singleton_append, show (p ++ [x]).length = p.length + 1 from by simp] at hn
  refine Ev.step (fun k => by rw [pursuivantref14_Answer_Lets.l0]) ?_
  refine Ev.if_pos (by omega) (Ev.if_pos (by omega) ?_)
  rw [rdOf_mid, wrap_nat _ (by omega)]
  refine Ev.bind (refAmong14 x h (by omega)) ?_
  rw [List.any_cons]
  have hm : missB h (decide (cred ≠ 3) && hasB h starB) x = (!hasB h x && (!(decide (cred ≠ 3) && hasB h starB) || (x.toList == secretB.toList))) := rfl
  rw [hm]
  by_cases c1 : hasB h x = true
  ·rw [c1]
   exact Ev.if_pos rfl hn
  ·rw [Bool.eq_false_iff.2 c1]
   refine Ev.if_neg (by simp) ?_
   by_cases c2 : cred = 3
   ·rw [decide_eq_false (show ¬cred ≠ 3 by omega)]
    exact Ev.if_pos c2 (Ev.now _)
   ·refine Ev.if_neg c2 ?_
    have es : secretB.toList = [97, 117, 116, 104, 111, 114, 105, 122, 97, 116, 105, 111, 110] := by decide +kernel
    by_cases c3 : x.toList = secretB.toList
    ·rw [beq_iff_eq.2 c3, Bool.or_true]
     exact Ev.if_pos (by rw [c3]; exact es) (Ev.now _)
    ·rw [beq_eq_false_iff_ne.2 c3, Bool.or_false, decide_eq_true c2, Bool.true_and]
     refine Ev.if_neg (by rw [← es]; exact c3) (Ev.bind (refAmong14 starB h (by omega)) ?_)
     by_cases c4 : hasB h starB = true
     ·rw [c4, decide_eq_true c2, Bool.true_and] at hn
      rw [c4]
      exact Ev.if_pos rfl hn
     ·rw [Bool.eq_false_iff.2 c4]
      exact Ev.if_neg (by simp) (Ev.now _)
theorem refLets (m h : List ByteArray) (age : Int) (method : Tx) (names : List ByteArray) (cred : Int) (h1 : m.length ≤ 1048577) (h2 : h.length ≤ 1048577) (h3 : names.length ≤ 1048577) : Ev (fun k => pursuivantref14_Answer_Lets.f k m h age (ba method) names cred) (letsB m h (ba method) names cred) := by
 have hl := refLets_l0 m h age cred h2 names [] (by simp; omega)
 have hj : Ev (fun k => pursuivantref14_Answer_Lets.j0 k names cred false m h age) (!(names.any (missB h (decide (cred ≠ 3) && hasB h starB)))) := by
  refine Ev.step (fun k => by rw [pursuivantref14_Answer_Lets.j0]) ?_
  exact Ev.if_neg (by simp) hl
 have ht : Ev (fun k => pursuivantref14_Answer_Lets.j0 k names cred true m h age) false := by
  refine Ev.step (fun k => by rw [pursuivantref14_Answer_Lets.j0]) ?_
  exact Ev.if_pos rfl (Ev.now _)
 unfold pursuivantref14_Answer_Lets.f letsB
 rw [simpleB_8]
 refine Ev.bind (refSimple method) ?_
 by_cases c1 : simple8 method = true
 ·rw [c1, Bool.true_or, Bool.true_or, Bool.true_and]
  exact Ev.if_pos rfl hj
 ·rw [Bool.eq_false_iff.2 c1, Bool.false_or]
  refine Ev.if_neg (by simp) (Ev.bind (refAmong14 (ba method) m (by omega)) ?_)
  by_cases c2 : hasB m (ba method) = true
  ·rw [c2, Bool.true_or, Bool.true_and]
   exact Ev.if_pos rfl hj
  ·rw [Bool.eq_false_iff.2 c2, Bool.false_or]
   refine Ev.if_neg (by simp) ?_
   by_cases c3 : cred = 3
   ·rw [decide_eq_false (show ¬cred ≠ 3 by omega), Bool.false_and, Bool.false_and]
    exact Ev.if_pos c3 ht
   ·refine Ev.if_neg c3 (Ev.bind (refAmong14 starB m (by omega)) ?_)
    rw [decide_eq_true c3, Bool.true_and] at *
    cases hasB m starB with
    | true => exact hj
    | false => exact ht
theorem preReads_true (st : Int) (l : List Hd) (body frm : ByteArray) (m : Tx) (names : List ByteArray) (cred : Int) (hs : hdrSum l ≤ 1048576) (hn : names.length ≤ 1048576) (h0 : -9223372036854775808 ≤ st) (h1 : st ≤ 9223372036854775807) : Ev (fun k => pursuivantlaw14_PreReads.f k st l body frm (ba m) names cred) true := by
 have hs' : hdrSum (l.take 30) ≤ 1048576 := Nat.le_trans (hdrSum_take l 30) hs
 obtain ⟨r1, r2⟩ := readB_len st (l.take 30) frm cred hs'
 have hn' : (names.take 12).length ≤ 1048577 := by rw [List.length_take]; omega
 unfold pursuivantlaw14_PreReads.f pursuivantlaw14_PreReadsN.f
 refine Ev.some_bind (fun _ => few14 _) (Ev.some_bind (fun _ => progRead _ _ _ _ _ hs') (Ev.bind (refRead _ _ _ _ _ hs' h0 h1) (Ev.bind awake14 (Ev.if_pos rfl (Ev.if_pos (by simp) ?_)))))
 generalize readB st (l.take 30) frm cred = b at *
 have hS : ∀ xs : List ByteArray, xs.length ≤ 1048577 → Ev (fun k => pursuivantref04_Same.f k xs xs) true := by
  intro xs hx
  have := refSame (xs.map (·.data.toList)) (by rw [List.length_map]; omega)
  rw [map_ba] at this
  exact this
 refine Ev.bind (hS _ r1) (Ev.if_pos rfl (Ev.bind (hS _ r2) (Ev.if_pos rfl (Ev.if_pos rfl (Ev.some_bind (fun _ => progLets _ _ _ _ _ _ r1 r2) (Ev.bind (refLets _ _ _ m _ cred r1 r2 hn') ?_))))))
 have e : (letsB b.1 b.2.1 (ba m) (names.take 12) cred == letsB b.1 b.2.1 (ba m) (names.take 12) cred) = true := by simp
 rw [e]
 exact Ev.now _
theorem preReads_pure (x0 : S30) (x1 : ByteArray) (x2 : ByteArray) (x3 : List ByteArray) (x4 : Int) (hb : sz30 x0 + (fun s : ByteArray => s.size + 1) x1 + (fun s : ByteArray => s.size + 1) x2 + (fun l => (l.map (fun s : ByteArray => s.size + 1)).sum + 1) x3 + (fun _ => 1) x4 ≤ 1048576) (hw0 : wf30 x0) (hw1 : (fun _ => True) x1) (hw2 : (fun _ => True) x2) (hw3 : (fun l => ∀ x ∈ l, (fun _ => True) x) x3) (hw4 : (fun n => (Lit.int .i64 n).wf = true) x4) : ∃ k, pursuivantlaw14_PreReads.f k x0.f0 x0.f1 x0.f2 x1 x2 x3 x4 = some true := by
 obtain ⟨m, rfl⟩ := ba_of x2
 simp only [sz30, hdrSum_sz] at hb
 have hx : x3.length ≤ (x3.map fun s : ByteArray => s.size + 1).sum := by
  clear hb hw3
  induction x3 with
  | nil => simp
  | cons y r ih => rw [List.map_cons, List.sum_cons, List.length_cons]; omega
 have hwf : (Lit.int .i64 x0.f0).wf = true := hw0.1
 have h64 : -9223372036854775808 ≤ x0.f0 ∧ x0.f0 ≤ 9223372036854775807 := by
  simp [Lit.wf] at hwf
  rwa [show IntKind.i64.min = -9223372036854775808 from rfl] at hwf
 exact (preReads_true x0.f0 x0.f1 x0.f2 x1 m x3 x4 (by omega) (by omega) h64.1 h64.2).rounds
end Go.Proofs.YtfibkgmbgdaeoaaGreatDoor.Hand
