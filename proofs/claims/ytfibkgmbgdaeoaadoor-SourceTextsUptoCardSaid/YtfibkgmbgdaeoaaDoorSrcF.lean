/- What package source and its reference compute, over lists of bytes: which may be. Conditions: at most 2^30 bytes a part. -/
import Derived.Test.YtfibkgmbgdaeoaaDoorSrcP
import Derived.Test.YtfibkgmbgdaeoaaDoorSrcG
import Derived.Test.YtfibkgmbgdaeoaaDoorSrcS
namespace Go.Proofs.YtfibkgmbgdaeoaaDoor.Hand
open Go.RowKit Go.Proofs.YtfibkgmbgdaeoaaDoorW.PrintWords Go.Proofs.YtfibkgmbgdaeoaaDoorW.PrintLast Go.Proofs.YtfibkgmbgdaeoaaDoorW.PrintMore
set_option linter.unusedVariables false
set_option linter.unusedSimpArgs false

theorem u8x_all {F G : UInt8 → Option Bool → Option Bool} (h : (List.range 256).all (fun n => [none, some true, some false].all fun X => decide (F (UInt8.ofNat n) X = G (UInt8.ofNat n) X)) = true) : ∀ c X, F c X = G c X := by
 intro c X
 have := u8_all (P := fun c => [none, some true, some false].all fun X => decide (F c X = G c X)) h c
 rw [List.all_eq_true] at this
 exact of_decide_eq_true (this X (by rcases X with _ | _ | _ <;> simp))
set_option maxRecDepth 100000 in
set_option maxHeartbeats 4000000 in
theorem progNonce_go : ∀ (q p : List UInt8), p.length + q.length ≤ 1099511627776 →
  Ev (fun k => source_random.l0 k (ba (p ++ q)) ((p ++ q).length : Int) (p.length : Int)) (q.all nonceC && !(p ++ q).isEmpty) := by
 intro q
 induction q with
 | nil =>
  intro p h
  refine Ev.step (fun k => by rw [source_random.l0]) ?_
  refine Ev.if_neg (by (first | omega | (simp only [ba_size', List.length_append, List.length_cons, List.length_nil]; omega) | (simp; omega) | (simp; done))) ?_
  rw [ba_list, show (p ++ [] != ([] : List UInt8)) = ([].all nonceC && !(p ++ []).isEmpty) from by cases p <;> simp]
  exact Ev.now _
 | cons c q ih =>
  intro p h
  simp only [List.length_cons] at h
  refine Ev.step (fun k => by rw [source_random.l0]) ?_
  refine Ev.if_pos (by (first | omega | (simp only [ba_size', List.length_append, List.length_cons, List.length_nil]; omega) | (simp; omega) | (simp; done))) (Ev.if_pos (by omega) (Ev.if_pos (by (first | omega | (simp only [ba_size', List.length_append, List.length_cons, List.length_nil]; omega) | (simp; omega) | (simp; done))) ?_))
  simp only [bt_mid, wrap_nat _ (show p.length < 9223372036854775807 by omega)]
  have hn := ih (p ++ [c]) (by (first | omega | (simp only [ba_size', List.length_append, List.length_cons, List.length_nil]; omega) | (simp; omega) | (simp; done)))
  rw [List.append_assoc, List.singleton_append, show (p ++ [c]).length = p.length + 1 from by simp] at hn
  refine Ev.congr (f := fun k => if nonceC c = true then source_random.l0 k (ba (p ++ c :: q)) ((p ++ c :: q).length : Int) ((p.length + 1 : Nat) : Int) else some false) (fun k => ?_) ?_
  ·generalize source_random.l0 k (ba (p ++ c :: q)) ((p ++ c :: q).length : Int) ((p.length + 1 : Nat) : Int) = X
   clear hn ih h
   revert X c
   exact u8x_all (by decide +kernel)
  ·rw [List.all_cons]
   refine Ev.ite (fun d => ?_) (fun d => ?_)
   ·rw [d, Bool.true_and]; exact hn
   ·rw [show nonceC c = false from by simpa using d, Bool.false_and, Bool.false_and]; exact Ev.now _
theorem nonce11_eq (l : List UInt8) : nonce11 l = (l.all nonceC && !l.isEmpty) := by unfold nonce11; cases l <;> simp
theorem progNonce (l : List UInt8) (h : l.length ≤ 1099511627776) : Ev (fun k => source_random.f k (ba l)) (nonce11 l) := by
 have := progNonce_go l [] (by simpa using h)
 unfold source_random.f
 rw [nonce11_eq, ba_size']
 simpa using this
set_option maxRecDepth 100000 in
set_option maxHeartbeats 4000000 in
theorem refNonce_go : ∀ (q p : List UInt8), p.length + q.length ≤ 1099511627776 →
  Ev (fun k => pursuivantref11_nonce.l0 k (ba (p ++ q)) (p.length : Int)) (q.all nonceC && !(p ++ q).isEmpty) := by
 intro q
 induction q with
 | nil =>
  intro p h
  refine Ev.step (fun k => by rw [pursuivantref11_nonce.l0]) ?_
  refine Ev.if_neg (by (first | omega | (simp only [ba_size', List.length_append, List.length_cons, List.length_nil]; omega) | (simp; omega) | (simp; done))) ?_
  exact Ev.congr (fun k => by rw [ba_size']; congr 1; cases p <;> simp <;> omega) (Ev.now _)
 | cons c q ih =>
  intro p h
  simp only [List.length_cons] at h
  refine Ev.step (fun k => by rw [pursuivantref11_nonce.l0]) ?_
  refine Ev.if_pos (by (first | omega | (simp only [ba_size', List.length_append, List.length_cons, List.length_nil]; omega) | (simp; omega) | (simp; done))) (Ev.if_pos (by omega) ?_)
  simp only [bt_mid, wrap_nat _ (show p.length < 9223372036854775807 by omega)]
  have hn := ih (p ++ [c]) (by (first | omega | (simp only [ba_size', List.length_append, List.length_cons, List.length_nil]; omega) | (simp; omega) | (simp; done)))
  rw [List.append_assoc, List.singleton_append, show (p ++ [c]).length = p.length + 1 from by simp] at hn
  refine Ev.congr (f := fun k => if nonceC c = true then pursuivantref11_nonce.l0 k (ba (p ++ c :: q)) ((p.length + 1 : Nat) : Int) else some false) (fun k => ?_) ?_
  ·generalize pursuivantref11_nonce.l0 k (ba (p ++ c :: q)) ((p.length + 1 : Nat) : Int) = X
   clear hn ih h
   revert X c
   exact u8x_all (by decide +kernel)
  ·rw [List.all_cons]
   refine Ev.ite (fun d => ?_) (fun d => ?_)
   ·rw [d, Bool.true_and]; exact hn
   ·rw [show nonceC c = false from by simpa using d, Bool.false_and, Bool.false_and]; exact Ev.now _
theorem refNonce (l : List UInt8) (h : l.length ≤ 1099511627776) : Ev (fun k => pursuivantref11_nonce.f k (ba l)) (nonce11 l) := by
 have := refNonce_go l [] (by simpa using h)
 unfold pursuivantref11_nonce.f
 rw [nonce11_eq]
 simpa using this

def pathU (P : List UInt8) : U8 := ⟨[104, 116, 116, 112], [], [97], 0, P, false, [], false, []⟩
theorem pathU_good (P : List UInt8) : (pathU P).good = (path11 P && decide (P.length ≤ 1016)) := by
 have hl : (pathU P).bare.text.length = 8 + P.length := by simp [pathU, U8.bare, U8.text, portT]; omega
 have hd : def8 [104, 116, 116, 112] = 80 := by decide
 have hh : host8 [97] = true := by decide
 unfold U8.good path11
 rw [hl]
 simp only [pathU, hd, hh]
 rw [show decide ((80 : Int) ≠ 0 ∧ (0 : Int) ≤ 0 ∧ (0 : Int) ≤ 65535 ∧ (0 : Int) ≠ 80) = true from by decide, show decide (8 + P.length ≤ 1024) = decide (P.length ≤ 1016) from by congr 1; simp only [eq_iff_iff]; omega]
 rw [Bool.eq_iff_iff]
 simp [and_assoc]
 exact fun _ _ => decide_eq_true_iff
theorem pathU_small (P : List UInt8) (h : P.length ≤ 1099511627) : (pathU P).Small := ⟨by simp [pathU], by simp [pathU], by simp [pathU], h, by simp [pathU], by simp [pathU]⟩
theorem progPathU (P : List UInt8) (h : P.length ≤ 1099511627) : Ev (fun k => url_Good.f k (⟨#[104, 116, 116, 112]⟩ : ByteArray) (⟨#[]⟩ : ByteArray) (⟨#[97]⟩ : ByteArray) 0 (ba P) false (⟨#[]⟩ : ByteArray) false (⟨#[]⟩ : ByteArray)) (path11 P && decide (P.length ≤ 1016)) := by
 rw [← pathU_good]; exact progGood (pathU P) (pathU_small P h)
theorem refPathU (P : List UInt8) (h : P.length ≤ 1099511627) : Ev (fun k => pursuivantref06_Good.f k (⟨#[104, 116, 116, 112]⟩ : ByteArray) (⟨#[]⟩ : ByteArray) (⟨#[97]⟩ : ByteArray) 0 (ba P) false (⟨#[]⟩ : ByteArray) false (⟨#[]⟩ : ByteArray)) (path11 P && decide (P.length ≤ 1016)) := by
 rw [← pathU_good]; exact refGoodU (pathU P) (pathU_small P h)
theorem path11_cons (c : UInt8) (r : List UInt8) : path11 (c :: r) = (decide (c = 47) && r.all (ok8 bad1)) := by
 unfold path11
 rw [List.head?_cons, List.all_cons]
 by_cases h : c = 47
 ·subst h; rw [show ok8 bad1 47 = true from by decide]; simp
 ·rw [decide_eq_false (show ¬(some c = some 47) from fun e => h (Option.some.inj e)), decide_eq_false h]; simp
theorem slash_ba (l : List UInt8) : (⟨#[47]⟩ : ByteArray) ++ ba l = ba (47 :: l) := ba_app [47] l
theorem c47 (a : UInt8) : ((a.toNat : Int) = 47) ↔ a = 47 := c_eq a 47 (by omega)
theorem progLong : ∀ (n : Nat) (l : List UInt8), l.length ≤ n → n ≤ 1099511627 → Ev (fun k => source_long.l0 k (ba l)) (path11 l) := by
 intro n
 induction n with
 | zero =>
  intro l h _
  obtain rfl : l = [] := List.eq_nil_of_length_eq_zero (by omega)
  refine Ev.step (fun k => by rw [source_long.l0]) ?_
  exact Ev.if_neg (by simp) (by rw [ba_list, show path11 [] = (([] : List UInt8) == [47]) from by decide]; exact Ev.now _)
 | succ n ih =>
  intro l h hn
  refine Ev.step (fun k => by rw [source_long.l0]) ?_
  rw [ba_size']
  refine Ev.ite (fun c => ?_) (fun c => ?_)
  ·obtain ⟨a, r, rfl⟩ : ∃ a r, l = a :: r := by cases l with | nil => simp at c | cons a r => exact ⟨a, r, rfl⟩
   simp only [List.length_cons] at h c
   obtain ⟨m, hm, hm2, hm3⟩ : ∃ m : Nat, mn (((a :: r).length : Nat) : Int) 500 = ((m + 1 : Nat) : Int) ∧ 1 ≤ m ∧ m ≤ r.length ∧ m ≤ 499 := by
    unfold mn
    simp only [List.length_cons]
    by_cases g : (500 : Int) < ((r.length + 1 : Nat) : Int)
    ·exact ⟨499, by rw [if_pos g]; rfl, by omega, by omega, by omega⟩
    ·exact ⟨r.length, by rw [if_neg g], by omega, by omega, by omega⟩
   rw [hm]
   simp only [Int.toNat_natCast]
   have e1 : (ba (a :: r)).extract 1 (m + 1) = ba (r.take m) := by rw [ba_extract]; simp
   have e2 : (ba (a :: r)).extract (m + 1) (a :: r).length = ba (r.drop m) := by rw [ba_extract, List.length_cons, List.drop_succ_cons, List.take_of_length_le (by rw [List.length_drop]; omega)]
   rw [e1, e2]
   have lt : (r.take m).length = m := by rw [List.length_take]; omega
   have ld : (r.drop m).length = r.length - m := List.length_drop
   refine Ev.if_pos (by omega) (Ev.if_pos (by simp only [List.length_cons]; omega) (Ev.if_pos (by rw [ba_size']; omega) ?_))
   simp only [slash_ba]
   have hb := progPathU (47 :: r.take m) (by simp only [List.length_cons]; omega)
   rw [path11_cons, decide_eq_true (show (47 :: r.take m).length ≤ 1016 by simp only [List.length_cons]; omega), Bool.and_true, decide_eq_true rfl, Bool.true_and] at hb
   refine Ev.bind hb ?_
   have ht := ih (47 :: r.drop m) (by simp only [List.length_cons]; omega) (by omega)
   rw [path11_cons, decide_eq_true rfl, Bool.true_and] at ht
   have hs : r.all (ok8 bad1) = ((r.take m).all (ok8 bad1) && (r.drop m).all (ok8 bad1)) := by rw [← List.all_append, List.take_append_drop]
   rw [path11_cons, hs]
   refine Ev.ite (fun d => ?_) (fun d => ?_)
   ·rw [d, Bool.true_and]
    refine Ev.if_pos (by simp only [List.length_cons]; omega) ?_
    rw [bt_zero]
    refine Ev.ite (fun g => ?_) (fun g => ?_)
    ·rw [decide_eq_true ((c47 a).1 g), Bool.true_and]
     exact Ev.if_pos (by omega) (Ev.if_pos (by rw [ba_size']; omega) ht)
    ·rw [decide_eq_false (fun e => g ((c47 a).2 e)), Bool.false_and]; exact Ev.now _
   ·rw [show (r.take m).all (ok8 bad1) = false from by simpa using d, Bool.false_and, Bool.and_false]; exact Ev.now _
  ·rw [ba_list, show (l == [47]) = path11 l from by
    match l, c with
    | [], _ => decide
    | [a], _ => rw [path11_cons]; by_cases g : a = 47 <;> simp [g]
    | a :: b :: r, c => exfalso; simp only [List.length_cons] at c; omega]
   exact Ev.now _
theorem refPath_go : ∀ (q p : List UInt8), p.length + q.length ≤ 1099511627776 →
  Ev (fun k => pursuivantref11_path.l0 k (ba (p ++ q)) (p.length : Int)) (q.all (ok8 bad1) && decide ((p ++ q).head? = some 47)) := by
 intro q
 induction q with
 | nil =>
  intro p h
  refine Ev.step (fun k => by rw [pursuivantref11_path.l0]) ?_
  refine Ev.if_neg (by (first | omega | (simp only [ba_size', List.length_append, List.length_cons, List.length_nil]; omega) | (simp; omega) | (simp; done))) ?_
  simp only [ba_list, ba_size', List.append_nil, List.all_nil, Bool.true_and]
  cases p with
  | nil => exact Ev.if_pos rfl (Ev.now _)
  | cons a p =>
   refine Ev.if_neg (by simp) (Ev.if_pos (by simp only [List.length_cons]; omega) ?_)
   rw [bt_zero, show ((a.toNat : Int) == 47) = decide ((a :: p).head? = some 47) from by
    rw [List.head?_cons, Bool.eq_iff_iff, beq_iff_eq, decide_eq_true_iff]
    exact ⟨fun g => by rw [(c47 a).1 g], fun g => (c47 a).2 (Option.some.inj g)⟩]
   exact Ev.now _
 | cons c q ih =>
  intro p h
  simp only [List.length_cons] at h
  refine Ev.step (fun k => by rw [pursuivantref11_path.l0]) ?_
  have hw := wrap_nat p.length (by omega)
  rw [hw]
  simp only [Int.toNat_natCast, ba_size']
  have e1 : (ba (p ++ c :: q)).extract p.length (p.length + 1) = ba [c] := by rw [ba_extract]; simp
  rw [e1]
  refine Ev.if_pos (by (first | omega | (simp only [ba_size', List.length_append, List.length_cons, List.length_nil]; omega) | (simp; omega) | (simp; done))) (Ev.if_pos (by omega) (Ev.if_pos (by omega) (Ev.if_pos (by (first | omega | (simp only [ba_size', List.length_append, List.length_cons, List.length_nil]; omega) | (simp; omega) | (simp; done))) (Ev.if_pos (by simp) ?_))))
  simp only [slash_ba]
  have hb := refPathU [47, c] (by simp)
  rw [path11_cons, decide_eq_true rfl, Bool.true_and, show decide (([47, c] : List UInt8).length ≤ 1016) = true from by simp, Bool.and_true, show [c].all (ok8 bad1) = ok8 bad1 c from by simp] at hb
  refine Ev.bind hb ?_
  have hn := ih (p ++ [c]) (by (first | omega | (simp only [ba_size', List.length_append, List.length_cons, List.length_nil]; omega) | (simp; omega) | (simp; done)))
  rw [List.append_assoc, List.singleton_append, show (p ++ [c]).length = p.length + 1 from by simp] at hn
  rw [List.all_cons]
  refine Ev.ite (fun d => ?_) (fun d => ?_)
  ·rw [d, Bool.true_and]; exact hn
  ·rw [show ok8 bad1 c = false from by simpa using d, Bool.false_and, Bool.false_and]; exact Ev.now _
theorem refPath11 (l : List UInt8) (h : l.length ≤ 1099511627776) : Ev (fun k => pursuivantref11_path.f k (ba l)) (path11 l) := by
 have := refPath_go l [] (by simpa using h)
 unfold pursuivantref11_path.f path11
 rw [Bool.and_comm]
 simpa using this
end Go.Proofs.YtfibkgmbgdaeoaaDoor.Hand
