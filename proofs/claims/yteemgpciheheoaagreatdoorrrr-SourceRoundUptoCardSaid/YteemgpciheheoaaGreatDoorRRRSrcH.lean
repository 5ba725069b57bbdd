/- What package source and its reference compute, over lists of bytes: which may be. Conditions: at most 2^30 bytes a part. -/
import Derived.Test.YteemgpciheheoaaGreatDoorRRRSrcP
import Derived.Test.YteemgpciheheoaaGreatDoorRRRSrcG
import Derived.Test.YteemgpciheheoaaGreatDoorRRRSrcS
namespace Go.Proofs.YteemgpciheheoaaGreatDoorRRR.Hand
open Go.RowKit Go.Proofs.YteemgpciheheoaaGreatDoorRRRW.PrintWords Go.Proofs.YteemgpciheheoaaGreatDoorRRRW.PrintLast Go.Proofs.YteemgpciheheoaaGreatDoorRRRW.PrintMore
set_option linter.unusedVariables false
set_option linter.unusedSimpArgs false

theorem u8x_all {F G : UInt8 → Option Bool → Option Bool} (h : (List.range 256).all (fun n => [none, some true, some false].all fun X => decide (F (UInt8.ofNat n) X = G (UInt8.ofNat n) X)) = true) : ∀ c X, F c X = G c X := by
 intro c X
 have := u8_all (P := fun c => [none, some true, some false].all fun X => decide (F c X = G c X)) h c
 rw [List.all_eq_true] at this
 exact of_decide_eq_true (this X (by rcases X with _ | _ | _ <;> simp))
set_option maxRecDepth 100000 in
set_option maxHeartbeats 4000000 in
theorem progNonce_go : ∀ (q p : List UInt8), p.length + q.length ≤ 1099511627776 →
  Ev (fun k => source_random.l0 k (ba (p ++ q)) ((p ++ q).length : Int) (p.length : Int)) (q.all nonceC && !(p ++ q).isEmpty) := by
 intro q
 induction q with
 | nil =>
  intro p h
  refine Ev.step (fun k => by rw [source_random.l0]) ?_
  refine Ev.if_neg (by (first | omega | (simp only [ba_size', List.length_append, List.length_cons, List.length_nil]; omega) | (simp; omega) | (simp; done))) ?_
  rw [ba_list, show (p ++ [] != ([] : List UInt8)) = ([].all nonceC && !(p ++ []).isEmpty) from by cases p <;> simp]
  exact Ev.now _
 | cons c q ih =>
  intro p h
  simp only [List.length_cons] at h
  refine Ev.step (fun k => by rw [source_random.l0]) ?_
  refine Ev.if_pos (by (first | omega | (simp only [ba_size', List.length_append, List.length_cons, List.length_nil]; omega) | (simp; omega) | (simp; done))) (Ev.if_pos (by omega) (Ev.if_pos (by (first | omega | (simp only [ba_size', List.length_append, List.length_cons, List.length_nil]; omega) | (simp; omega) | (simp; done))) ?_))
  simp only [bt_mid, wrap_nat _ (show p.length < 9223372036854775807 by omega)]
  have hn := ih (p ++ [c]) (by (first | omega | (simp only [ba_size', List.length_append, List.length_cons, List.length_nil]; omega) | (simp; omega) | (simp; done)))
  rw [List.append_assoc, List.singleton_append, show (p ++ [c]).length = p.length + 1 from by simp] at hn
  refine Ev.congr (f := fun k => if nonceC c = true then source_random.l0 k (ba (p ++ c :: q)) ((p ++ c :: q).length : Int) ((p.length + 1 : Nat) : Int) else some false) (fun k => ?_) ?_
  ·generalize source_random.l0 k (ba (p ++ c :: q)) ((p ++ c :: q).length : Int) ((p.length + 1 : Nat) : Int) = X
   clear hn ih h
   revert X c
   exact u8x_all (by decide +kernel)
  ·rw [List.all_cons]
   refine Ev.ite (fun d => ?_) (fun d => ?_)
   ·rw [d, Bool.true_and]; exact hn
   ·rw [show nonceC c = false from by simpa using d, Bool.false_and, Bool.false_and]; exact Ev.now _
theorem nonce11_eq (l : List UInt8) : nonce11 l = (l.all nonceC && !l.isEmpty) := by unfold nonce11; cases l <;> simp
theorem progNonce (l : List UInt8) (h : l.length ≤ 1099511627776) : Ev (fun k => source_random.f k (ba l)) (nonce11 l) := by
 have := progNonce_go l [] (by simpa using h)
 unfold source_random.f
 rw [nonce11_eq, ba_size']
 simpa using this
def pathU (P : List UInt8) : U8 := ⟨[104, 116, 116, 112], [], [97], 0, P, false, [], false, []⟩
theorem pathU_good (P : List UInt8) : (pathU P).good = (path11 P && decide (P.length ≤ 1016)) := by
 have hl : (pathU P).bare.text.length = 8 + P.length := by simp [pathU, U8.bare, U8.text, portT]; omega
 have hd : def8 [104, 116, 116, 112] = 80 := by decide
 have hh : host8 [97] = true := by decide
 unfold U8.good path11
 rw [hl]
 simp only [pathU, hd, hh]
 rw [show decide ((80 : Int) ≠ 0 ∧ (0 : Int) ≤ 0 ∧ (0 : Int) ≤ 65535 ∧ (0 : Int) ≠ 80) = true from by decide, show decide (8 + P.length ≤ 1024) = decide (P.length ≤ 1016) from by congr 1; simp only [eq_iff_iff]; omega]
 rw [Bool.eq_iff_iff]
 simp [and_assoc]
 exact fun _ _ => decide_eq_true_iff
theorem pathU_small (P : List UInt8) (h : P.length ≤ 1099511627) : (pathU P).Small := ⟨by simp [pathU], by simp [pathU], by simp [pathU], h, by simp [pathU], by simp [pathU]⟩
theorem progPathU (P : List UInt8) (h : P.length ≤ 1099511627) : Ev (fun k => url_Good.f k (⟨#[104, 116, 116, 112]⟩ : ByteArray) (⟨#[]⟩ : ByteArray) (⟨#[97]⟩ : ByteArray) 0 (ba P) false (⟨#[]⟩ : ByteArray) false (⟨#[]⟩ : ByteArray)) (path11 P && decide (P.length ≤ 1016)) := by
 rw [← pathU_good]; exact progGood (pathU P) (pathU_small P h)
theorem path11_cons (c : UInt8) (r : List UInt8) : path11 (c :: r) = (decide (c = 47) && r.all (ok8 bad1)) := by
 unfold path11
 rw [List.head?_cons, List.all_cons]
 by_cases h : c = 47
 ·subst h; rw [show ok8 bad1 47 = true from by decide]; simp
 ·rw [decide_eq_false (show ¬(some c = some 47) from fun e => h (Option.some.inj e)), decide_eq_false h]; simp
theorem slash_ba (l : List UInt8) : (⟨#[47]⟩ : ByteArray) ++ ba l = ba (47 :: l) := ba_app [47] l
theorem c47 (a : UInt8) : ((a.toNat : Int) = 47) ↔ a = 47 := c_eq a 47 (by omega)
theorem progLong : ∀ (n : Nat) (l : List UInt8), l.length ≤ n → n ≤ 1099511627 → Ev (fun k => source_long.l0 k (ba l)) (path11 l) := by
 intro n
 induction n with
 | zero =>
  intro l h _
  obtain rfl : l = [] := List.eq_nil_of_length_eq_zero (by omega)
  refine Ev.step (fun k => by rw [source_long.l0]) ?_
  exact Ev.if_neg (by simp) (by rw [ba_list, show path11 [] = (([] : List UInt8) == [47]) from by decide]; exact Ev.now _)
 | succ n ih =>
  intro l h hn
  refine Ev.step (fun k => by rw [source_long.l0]) ?_
  rw [ba_size']
  refine Ev.ite (fun c => ?_) (fun c => ?_)
  ·obtain ⟨a, r, rfl⟩ : ∃ a r, l = a :: r := by cases l with | nil => simp at c | cons a r => exact ⟨a, r, rfl⟩
   simp only [List.length_cons] at h c
   obtain ⟨m, hm, hm2, hm3⟩ : ∃ m : Nat, mn (((a :: r).length : Nat) : Int) 500 = ((m + 1 : Nat) : Int) ∧ 1 ≤ m ∧ m ≤ r.length ∧ m ≤ 499 := by
    unfold mn
    simp only [List.length_cons]
    by_cases g : (500 : Int) < ((r.length + 1 : Nat) : Int)
    ·exact ⟨499, by rw [if_pos g]; rfl, by omega, by omega, by omega⟩
    ·exact ⟨r.length, by rw [if_neg g], by omega, by omega, by omega⟩
   rw [hm]
   simp only [Int.toNat_natCast]
   have e1 : (ba (a :: r)).extract 1 (m + 1) = ba (r.take m) := by rw [ba_extract]; simp
   have e2 : (ba (a :: r)).extract (m + 1) (a :: r).length = ba (r.drop m) := by rw [ba_extract, List.length_cons, List.drop_succ_cons, List.take_of_length_le (by rw [List.length_drop]; omega)]
   rw [e1, e2]
   have lt : (r.take m).length = m := by rw [List.length_take]; omega
   have ld : (r.drop m).length = r.length - m := List.length_drop
   refine Ev.if_pos (by omega) (Ev.if_pos (by simp only [List.length_cons]; omega) (Ev.if_pos (by rw [ba_size']; omega) ?_))
   simp only [slash_ba]
   have hb := progPathU (47 :: r.take m) (by simp only [List.length_cons]; omega)
   rw [path11_cons, decide_eq_true (show (47 :: r.take m).length ≤ 1016 by simp only [List.length_cons]; omega), Bool.and_true, decide_eq_true rfl, Bool.true_and] at hb
   refine Ev.bind hb ?_
   have ht := ih (47 :: r.drop m) (by simp only [List.length_cons]; omega) (by omega)
   rw [path11_cons, decide_eq_true rfl, Bool.true_and] at ht
   have hs : r.all (ok8 bad1) = ((r.take m).all (ok8 bad1) && (r.drop m).all (ok8 bad1)) := by rw [← List.all_append, List.take_append_drop]
   rw [path11_cons, hs]
   refine Ev.ite (fun d => ?_) (fun d => ?_)
   ·rw [d, Bool.true_and]
    refine Ev.if_pos (by simp only [List.length_cons]; omega) ?_
    rw [bt_zero]
    refine Ev.ite (fun g => ?_) (fun g => ?_)
    ·rw [decide_eq_true ((c47 a).1 g), Bool.true_and]
     exact Ev.if_pos (by omega) (Ev.if_pos (by rw [ba_size']; omega) ht)
    ·rw [decide_eq_false (fun e => g ((c47 a).2 e)), Bool.false_and]; exact Ev.now _
   ·rw [show (r.take m).all (ok8 bad1) = false from by simpa using d, Bool.false_and, Bool.and_false]; exact Ev.now _
  ·rw [ba_list, show (l == [47]) = path11 l from by
    match l, c with
    | [], _ => decide
    | [a], _ => rw [path11_cons]; by_cases g : a = 47 <;> simp [g]
    | a :: b :: r, c => exfalso; simp only [List.length_cons] at c; omega]
   exact Ev.now _
end Go.Proofs.YteemgpciheheoaaGreatDoorRRR.Hand

/- Package source over lists of bytes: which may be, their texts, the source of a word. Conditions: at most 2^26 bytes a part. -/
namespace Go.Proofs.YteemgpciheheoaaGreatDoorRRR.Hand
open Go.RowKit Go.Proofs.YteemgpciheheoaaGreatDoorRRRW.PrintWords Go.Proofs.YteemgpciheheoaaGreatDoorRRRW.PrintLast Go.Proofs.YteemgpciheheoaaGreatDoorRRRW.PrintMore
set_option linter.unusedVariables false
set_option linter.unusedSimpArgs false

structure Src8.Small (x : Src8) : Prop where
 sc : x.sc.length ≤ 109951162
 ho : x.ho.length ≤ 109951162
 pa : x.pa.length ≤ 109951162
 no : x.no.length ≤ 109951162
 po : -9223372036854775808 ≤ x.po ∧ x.po ≤ 9223372036854775807
theorem beqNil (l : List UInt8) : (l == ([] : List UInt8)) = decide (l = []) := by cases l <;> simp
theorem progPlace (x : Src8) (hs : x.Small) : Ev (fun k => source_place.f k x.ki (ba x.sc) x.sub (ba x.ho) x.po (ba x.pa) (ba x.no)) x.host := by
 obtain ⟨ki, sc, sub, ho, po, pa, no⟩ := x
 obtain ⟨h1, h2, h3, h4, h5⟩ := hs
 simp only at h1 h2 h3 h4 h5 ⊢
 unfold source_place.f Src8.host
 simp only [ba_list]
 have stop : ∀ {b : Bool}, b = false → Ev (fun k => source_place.j0 k true ki (ba sc) sub (ba ho) po (ba pa) (ba no)) b := by
  rintro b rfl
  refine Ev.step (fun k => by rw [source_place.j0]) ?_
  exact Ev.if_pos rfl (Ev.now _)
 have tail : Ev (fun k => if no = [] then (host_Good.f k (ba ho)).bind fun t => source_place.j0 k (!t) ki (ba sc) sub (ba ho) po (ba pa) (ba no) else source_place.j0 k true ki (ba sc) sub (ba ho) po (ba pa) (ba no)) (host8 ho && ((decide (pa = []) || path11 pa) && decide (no = []))) := by
  refine Ev.ite (fun c => ?_) (fun c => stop (by rw [decide_eq_false c]; simp))
  rw [decide_eq_true c, Bool.and_true]
  refine Ev.bind (progHost ho (by omega)) ?_
  cases hh : host8 ho
  ·exact stop rfl
  ·rw [Bool.true_and]
   refine Ev.step (fun k => by rw [source_place.j0]) ?_
   simp only [Bool.not_true, ba_list]
   refine Ev.if_neg (by simp) (Ev.ite (fun d => ?_) (fun d => ?_))
   ·rw [decide_eq_true d]; exact Ev.now _
   ·rw [decide_eq_false d, Bool.false_or]
    refine Ev.bind (progPathU pa (by omega)) (Ev.ite (fun e => ?_) (fun e => ?_))
    ·rw [Bool.and_eq_true] at e
     rw [e.1]; exact Ev.now _
    ·unfold source_long.f
     exact Ev.bind (progLong _ pa (Nat.le_refl _) (by omega)) (Ev.now _)
 have port : Ev (fun k => if po < -1 then source_place.j0 k true ki (ba sc) sub (ba ho) po (ba pa) (ba no) else if po > 65535 then source_place.j0 k true ki (ba sc) sub (ba ho) po (ba pa) (ba no) else if no = [] then (host_Good.f k (ba ho)).bind fun t => source_place.j0 k (!t) ki (ba sc) sub (ba ho) po (ba pa) (ba no) else source_place.j0 k true ki (ba sc) sub (ba ho) po (ba pa) (ba no)) (host8 ho && (decide (-1 ≤ po ∧ po ≤ 65535) && ((decide (pa = []) || path11 pa) && decide (no = [])))) := by
  refine Ev.ite (fun c => stop ?_) (fun c => Ev.ite (fun d => stop ?_) (fun d => ?_))
  ·rw [decide_eq_false (show ¬(-1 ≤ po ∧ po ≤ 65535) by omega)]; simp
  ·rw [decide_eq_false (show ¬(-1 ≤ po ∧ po ≤ 65535) by omega)]; simp
  ·rw [decide_eq_true (show -1 ≤ po ∧ po ≤ 65535 by omega), Bool.true_and]; exact tail
 refine Ev.ite (fun c => ?_) (fun c => ?_)
 ·rw [decide_eq_true (show sc = [] ∨ def8 sc ≠ 0 from .inl c), Bool.true_and]; exact port
 ·refine Ev.some_bind (fun _ => progDef sc) (Ev.ite (fun d => stop ?_) (fun d => ?_))
  ·rw [decide_eq_false (show ¬(sc = [] ∨ def8 sc ≠ 0) by rintro (e | e); exact c e; exact e d), Bool.false_and]
  ·rw [decide_eq_true (show sc = [] ∨ def8 sc ≠ 0 from .inr d), Bool.true_and]; exact port
theorem def_pos (l : List UInt8) : decide (def8 l > 0) = decide (def8 l ≠ 0) := by
 rcases def8_nat l with h | h | h <;> rw [h] <;> decide
theorem progGoodS (x : Src8) (hs : x.Small) : Ev (fun k => source_Good.f k x.ki (ba x.sc) x.sub (ba x.ho) x.po (ba x.pa) (ba x.no)) x.good := by
 have hp := progPlace x hs
 obtain ⟨ki, sc, sub, ho, po, pa, no⟩ := x
 obtain ⟨h1, h2, h3, h4, h5⟩ := hs
 simp only at h1 h2 h3 h4 h5 hp ⊢
 unfold source_Good.f Src8.good
 simp only [Src8.mk.injEq]
 have yes : (ki = 1 ∨ ki = 2) → Ev (fun k => source_Good.j0 k ki true ki (ba sc) sub (ba ho) po (ba pa) (ba no)) (decide (True ∧ sc = [] ∧ sub = false ∧ ho = [] ∧ po = 0 ∧ pa = [] ∧ no = [])) := by
  intro _
  refine Ev.step (fun k => by rw [source_Good.j0]) ?_
  refine Ev.if_pos rfl (Ev.some_bind (fun _ => rfl) ?_)
  simp only [ba_list, beqNil]
  rw [show (decide (sc = []) && (!sub && (decide (ho = []) && (po == 0 && (decide (pa = []) && decide (no = [])))))) = decide (True ∧ sc = [] ∧ sub = false ∧ ho = [] ∧ po = 0 ∧ pa = [] ∧ no = []) from by rw [Bool.eq_iff_iff]; simp]
  exact Ev.now _
 have no' : ki ≠ 1 → ki ≠ 2 → Ev (fun k => source_Good.j0 k ki false ki (ba sc) sub (ba ho) po (ba pa) (ba no)) (if ki = 3 then decide (ki = 3 ∧ True ∧ sub = false ∧ ho = [] ∧ po = 0 ∧ pa = [] ∧ no = []) && decide (def8 sc ≠ 0) else if ki = 5 then decide (ki = 5 ∧ sc = [] ∧ sub = false ∧ ho = [] ∧ po = 0 ∧ pa = [] ∧ True) && nonce11 no else if ki = 4 then (Src8.mk ki sc sub ho po pa no).host else false) := by
  intro n1 n2
  refine Ev.step (fun k => by rw [source_Good.j0]) ?_
  simp only [ba_list, beqNil]
  refine Ev.if_neg (by simp) (Ev.ite (fun c3 => ?_) (fun c3 => ?_))
  ·rw [if_pos c3]
   have e : (!sub && (decide (ho = []) && (po == 0 && (decide (pa = []) && decide (no = []))))) = decide (ki = 3 ∧ True ∧ sub = false ∧ ho = [] ∧ po = 0 ∧ pa = [] ∧ no = []) := by rw [Bool.eq_iff_iff]; simp [c3]
   rw [e]
   refine Ev.ite (fun d => ?_) (fun d => ?_)
   ·rw [d, Bool.true_and, ← def_pos]
    exact Ev.some_bind (fun _ => progDef sc) (Ev.now _)
   ·rw [show decide (ki = 3 ∧ True ∧ sub = false ∧ ho = [] ∧ po = 0 ∧ pa = [] ∧ no = []) = false from by simpa using d, Bool.false_and]; exact Ev.now _
  ·rw [if_neg c3]
   refine Ev.ite (fun c5 => ?_) (fun c5 => ?_)
   ·rw [if_pos c5]
    have e : (decide (sc = []) && (!sub && (decide (ho = []) && (po == 0 && decide (pa = []))))) = decide (ki = 5 ∧ sc = [] ∧ sub = false ∧ ho = [] ∧ po = 0 ∧ pa = [] ∧ True) := by rw [Bool.eq_iff_iff]; simp [c5]
    rw [e]
    refine Ev.ite (fun d => ?_) (fun d => ?_)
    ·rw [d, Bool.true_and]
     exact Ev.bind (progNonce no (by omega)) (Ev.now _)
    ·rw [show decide (ki = 5 ∧ sc = [] ∧ sub = false ∧ ho = [] ∧ po = 0 ∧ pa = [] ∧ True) = false from by simpa using d, Bool.false_and]; exact Ev.now _
   ·rw [if_neg c5]
    refine Ev.ite (fun c4 => ?_) (fun c4 => ?_)
    ·rw [if_pos c4]; exact Ev.bind hp (Ev.now _)
    ·rw [if_neg c4]; exact Ev.now _
 refine Ev.ite (fun c => ?_) (fun c => ?_)
 ·rw [if_pos (.inl c), show (ki == 1) = true from by simp [c]]; exact yes (.inl c)
 ·by_cases d : ki = 2
  ·rw [if_pos (.inr d), show (ki == 2) = true from by simp [d]]; exact yes (.inr d)
  ·rw [if_neg (show ¬(ki = 1 ∨ ki = 2) by rintro (e | e); exact c e; exact d e), show (ki == 2) = false from by simp [d]]; exact no' c d
end Go.Proofs.YteemgpciheheoaaGreatDoorRRR.Hand
