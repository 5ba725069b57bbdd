/- Sources: what the reference's Parse computes, over lists of bytes. Condition: at most 2^26 bytes. -/
import Derived.Test.YteemgpciheheoaaGreatDoorRRRSrcI
import Derived.Test.YteemgpciheheoaaGreatDoorRRRFT1
namespace Go.Proofs.YteemgpciheheoaaGreatDoorRRR.Hand
open Go.RowKit Go.Proofs.YteemgpciheheoaaGreatDoorRRRW.PrintWords Go.Proofs.YteemgpciheheoaaGreatDoorRRRW.PrintLast Go.Proofs.YteemgpciheheoaaGreatDoorRRRW.PrintMore
set_option linter.unusedVariables false
set_option linter.unusedSimpArgs false

theorem finR (x : Src8) (hs : x.Small) : Ev (fun k => (pursuivantref11_Good.f k x.ki (ba x.sc) x.sub (ba x.ho) x.po (ba x.pa) (ba x.no)).bind fun t => if t = true then some (x.ki, ba x.sc, x.sub, ba x.ho, x.po, ba x.pa, ba x.no, true) else some (0, (⟨#[]⟩ : ByteArray), false, (⟨#[]⟩ : ByteArray), 0, (⟨#[]⟩ : ByteArray), (⟨#[]⟩ : ByteArray), false)) (Src8.tup (if x.good = true then (x, true) else (Src8.no_, false))) := by
 refine Ev.bind (refGoodS x hs) (Ev.ite (fun c => ?_) (fun c => ?_))
 ·rw [if_pos c]; exact Ev.now _
 ·rw [if_neg c]; exact Ev.now _
theorem l2exit (sc h pa : List UInt8) (po n : Int) (h1 : sc.length ≤ 109951162) (h2 : h.length ≤ 109951162) (h3 : pa.length ≤ 109951162) (hp : -1 ≤ po ∧ po ≤ 65535) (hn : ¬n < (h.length : Int)) :
  Ev (fun k => pursuivantref11_Parse.l2 k (ba h) n 4 (ba sc) false (⟨#[]⟩ : ByteArray) po (ba pa) (⟨#[]⟩ : ByteArray)) (Src8.tup (if (Src8.mk 4 sc (sub11 h).2 (sub11 h).1 po pa []).good = true then (Src8.mk 4 sc (sub11 h).2 (sub11 h).1 po pa [], true) else (Src8.no_, false))) := by
 have sm : ∀ ho sub, ho.length ≤ 109951162 → (Src8.mk 4 sc sub ho po pa []).Small := fun ho sub hh => ⟨h1, hh, h3, by simp, by simp only; omega⟩
 have jf : sub11 h = (h, false) → Ev (fun k => pursuivantref11_Parse.j6 k (ba h) false 4 (ba sc) false (⟨#[]⟩ : ByteArray) po (ba pa) (⟨#[]⟩ : ByteArray)) (Src8.tup (if (Src8.mk 4 sc (sub11 h).2 (sub11 h).1 po pa []).good = true then (Src8.mk 4 sc (sub11 h).2 (sub11 h).1 po pa [], true) else (Src8.no_, false))) := by
  intro e
  rw [e]
  refine Ev.step (fun k => by rw [pursuivantref11_Parse.j6]) ?_
  exact Ev.if_neg (by simp) (finR _ (sm h false h2))
 refine Ev.step (fun k => by rw [pursuivantref11_Parse.l2]) ?_
 rw [ba_size']
 refine Ev.if_neg hn ?_
 match h, h2, jf with
 | [], _, jf => exact Ev.if_neg (by simp) (jf rfl)
 | [a], _, jf => exact Ev.if_neg (by simp) (jf (by unfold sub11; rw [if_neg (show ¬([42, 46] : List UInt8).isPrefixOf [a] = true by simp [List.isPrefixOf])]))
 | a :: b :: r, h2, jf =>
  simp only [List.length_cons] at h2 ⊢
  have e : (ba (a :: b :: r)).extract 0 2 = ba [a, b] := by rw [ba_extract]; rfl
  refine Ev.if_pos (by omega) (Ev.if_pos (by omega) (Ev.if_pos (by omega) ?_))
  rw [e, ba_list]
  by_cases c : a = 42 ∧ b = 46
  ·obtain ⟨rfl, rfl⟩ := c
   have es : sub11 (42 :: 46 :: r) = (r, true) := by unfold sub11; rw [if_pos (by simp [List.isPrefixOf])]; rfl
   rw [es, show ([42, 46] == ([42, 46] : List UInt8)) = true from rfl]
   refine Ev.step (fun k => by rw [pursuivantref11_Parse.j6]) ?_
   have e2 : (ba (42 :: 46 :: r)).extract 2 (ba (42 :: 46 :: r)).size = ba r := by rw [ba_extract, ba_size']; simp
   simp only [e2]
   exact Ev.if_pos (by trivial) (Ev.if_pos (by (first | omega | (simp only [ba_size', List.length_append, List.length_cons, List.length_nil]; omega) | (simp; omega) | (simp; done))) (finR _ (sm r true (by omega))))
  ·rw [show ([a, b] == ([42, 46] : List UInt8)) = false from by
    rw [beq_eq_false_iff_ne]
    intro h
    simp only [List.cons.injEq, and_true] at h
    exact c h]
   refine jf ?_
   unfold sub11
   rw [if_neg]
   intro h
   simp only [List.isPrefixOf, Bool.and_true, Bool.and_eq_true, beq_iff_eq] at h
   exact c ⟨h.1.symm, h.2.symm⟩
def fin11 (sc t pa : List UInt8) : Src8 × Bool := match port11 (Lib.cut t [58]).2.2 (Lib.cut t [58]).2.1 with
 | none => (Src8.no_, false)
 | some p => if (Src8.mk 4 sc (sub11 (Lib.cut t [58]).1).2 (sub11 (Lib.cut t [58]).1).1 p pa []).good = true then (Src8.mk 4 sc (sub11 (Lib.cut t [58]).1).2 (sub11 (Lib.cut t [58]).1).1 p pa [], true) else (Src8.no_, false)
theorem c58 (a : UInt8) : ((a.toNat : Int) = 58) ↔ a = 58 := c_eq a 58 (by omega)
theorem l2go (sc pa : List UInt8) (h1 : sc.length ≤ 109951162) (h3 : pa.length ≤ 109951162) : ∀ (q p : List UInt8), p.length + q.length ≤ 109951162 → 58 ∉ p →
  Ev (fun k => pursuivantref11_Parse.l2 k (ba (p ++ q)) (p.length : Int) 4 (ba sc) false (⟨#[]⟩ : ByteArray) 0 (ba pa) (⟨#[]⟩ : ByteArray)) (Src8.tup (fin11 sc (p ++ q) pa)) := by
 intro q
 induction q with
 | nil =>
  intro p h hp
  unfold fin11
  rw [List.append_nil, cut1_miss 58 p hp]
  simp only [port11, Bool.false_eq_true, if_false]
  exact l2exit sc p pa 0 _ h1 (by simpa using h) h3 (by omega) (by omega)
 | cons c q ih =>
  intro p h hp
  simp only [List.length_cons] at h
  by_cases d : c = 58
  ·subst d
   have hb := port8_bd q
   refine Ev.step (fun k => by rw [pursuivantref11_Parse.l2]) ?_
   have hw := wrap_nat p.length (by omega)
   rw [hw]
   simp only [bt_mid, Int.toNat_natCast, ba_size']
   have e1 : (ba (p ++ 58 :: q)).extract (p.length + 1) (p ++ 58 :: q).length = ba q := by
    rw [ba_extract, show p ++ 58 :: q = (p ++ [58]) ++ q from by simp, List.drop_left' (by simp), List.take_of_length_le (by simp; omega)]
   have e2 : (ba (p ++ 58 :: q)).extract 0 p.length = ba p := by rw [ba_extract]; simp
   rw [e1, e2]
   unfold fin11
   rw [cut1_hit 58 p q hp]
   simp only [port11, if_true]
   refine Ev.if_pos (by (first | omega | (simp only [ba_size', List.length_append, List.length_cons, List.length_nil]; omega) | (simp; omega) | (simp; done))) (Ev.if_pos (by omega) (Ev.if_pos rfl (Ev.if_pos (by omega) (Ev.if_pos (by (first | omega | (simp only [ba_size', List.length_append, List.length_cons, List.length_nil]; omega) | (simp; omega) | (simp; done))) ?_))))
   refine Ev.bind (refPort q (by omega)) ?_
   simp only [ba_list]
   refine Ev.ite (fun f => ?_) (fun f => ?_)
   ·rw [if_pos f]
    exact Ev.if_pos (by (first | omega | (simp only [ba_size', List.length_append, List.length_cons, List.length_nil]; omega) | (simp; omega) | (simp; done))) (l2exit sc p pa (-1) _ h1 (by omega) h3 (by omega) (by omega))
   ·rw [if_neg f]
    refine Ev.ite (fun g => ?_) (fun g => ?_)
    ·rw [if_pos g]
     exact Ev.if_pos (by (first | omega | (simp only [ba_size', List.length_append, List.length_cons, List.length_nil]; omega) | (simp; omega) | (simp; done))) (l2exit sc p pa (port8 q).1 _ h1 (by omega) h3 (by omega) (by omega))
    ·rw [if_neg g]; exact Ev.now _
  ·refine Ev.step (fun k => by rw [pursuivantref11_Parse.l2]) ?_
   simp only [bt_mid, wrap_nat p.length (show p.length < 9223372036854775807 by omega), ba_size']
   refine Ev.if_pos (by (first | omega | (simp only [ba_size', List.length_append, List.length_cons, List.length_nil]; omega) | (simp; omega) | (simp; done))) (Ev.if_pos (by omega) (Ev.if_neg (fun e => d ((c58 c).1 e)) ?_))
   have hn := ih (p ++ [c]) (by (first | omega | (simp only [ba_size', List.length_append, List.length_cons, List.length_nil]; omega) | (simp; omega) | (simp; done))) (by simp only [List.mem_append, List.mem_singleton]; rintro (e | e); exact hp e; exact d e.symm)
   rw [List.append_assoc, List.singleton_append, show (p ++ [c]).length = p.length + 1 from by simp] at hn
   exact hn
theorem fin11_low (sc t pa : List UInt8) : fin11 sc (t.map low8) pa = (match port11 (Lib.cut t [58]).2.2 (Lib.cut t [58]).2.1 with
   | none => (Src8.no_, false)
   | some p => if (Src8.mk 4 sc (sub11 ((Lib.cut t [58]).1.map low8)).2 (sub11 ((Lib.cut t [58]).1.map low8)).1 p pa []).good = true then (Src8.mk 4 sc (sub11 ((Lib.cut t [58]).1.map low8)).2 (sub11 ((Lib.cut t [58]).1.map low8)).1 p pa [], true) else (Src8.no_, false)) := by
 unfold fin11
 rw [cut_low]
 simp only [port11_low]
theorem l1go (sc : List UInt8) (h1 : sc.length ≤ 109951162) : ∀ (q p : List UInt8), p.length + q.length ≤ 109951162 → 47 ∉ p →
  Ev (fun k => pursuivantref11_Parse.l1 k (ba (p ++ q)) (p.length : Int) 4 (ba sc) false (⟨#[]⟩ : ByteArray) 0 (⟨#[]⟩ : ByteArray) (⟨#[]⟩ : ByteArray)) (Src8.tup (fin11 sc ((til [47] (p ++ q)).map low8) (aft [47] (p ++ q)))) := by
 have stop : ∀ (p b : List UInt8), p.length + b.length ≤ 109951162 → 47 ∉ p → (b = [] ∨ ∃ c r, b = c :: r ∧ ([47] : List UInt8).contains c = true) →
   Ev (fun k => pursuivantref11_Parse.j4 k (ba (p ++ b)) (p.length : Int) 4 (ba sc) false (⟨#[]⟩ : ByteArray) 0 (⟨#[]⟩ : ByteArray) (⟨#[]⟩ : ByteArray)) (Src8.tup (fin11 sc ((til [47] (p ++ b)).map low8) (aft [47] (p ++ b)))) := by
  intro p b h hp hb
  have t := til_app [47] p b (not_st (by intro d hd; rw [List.mem_singleton.1 hd]; exact hp)) hb
  rw [t.1, t.2]
  refine Ev.step (fun k => by rw [pursuivantref11_Parse.j4]) ?_
  simp only [Int.toNat_natCast, ba_size']
  have e1 : (ba (p ++ b)).extract 0 p.length = ba p := by rw [ba_extract]; simp
  have e2 : (ba (p ++ b)).extract p.length (p ++ b).length = ba b := by rw [ba_extract]; simp
  rw [e1, e2]
  refine Ev.if_pos (by omega) (Ev.if_pos (by (first | omega | (simp only [ba_size', List.length_append, List.length_cons, List.length_nil]; omega) | (simp; omega) | (simp; done))) (Ev.bind (refLowerE p (by omega)) ?_))
  have := l2go sc b h1 (by omega) (p.map low8) [] (by simp; omega) (by simp)
  simpa using this
 intro q
 induction q with
 | nil =>
  intro p h hp
  refine Ev.step (fun k => by rw [pursuivantref11_Parse.l1]) ?_
  refine Ev.if_neg (by (first | omega | (simp only [ba_size', List.length_append, List.length_cons, List.length_nil]; omega) | (simp; omega) | (simp; done))) ?_
  exact stop p [] h hp (.inl rfl)
 | cons c q ih =>
  intro p h hp
  simp only [List.length_cons] at h
  refine Ev.step (fun k => by rw [pursuivantref11_Parse.l1]) ?_
  simp only [bt_mid, wrap_nat p.length (show p.length < 9223372036854775807 by omega), ba_size']
  refine Ev.if_pos (by (first | omega | (simp only [ba_size', List.length_append, List.length_cons, List.length_nil]; omega) | (simp; omega) | (simp; done))) (Ev.if_pos (by omega) (Ev.ite (fun d => ?_) (fun d => ?_)))
  ·exact stop p (c :: q) (by simp only [List.length_cons]; omega) hp (.inr ⟨c, q, rfl, by rw [(c47 c).1 d]; rfl⟩)
  ·have hn := ih (p ++ [c]) (by (first | omega | (simp only [ba_size', List.length_append, List.length_cons, List.length_nil]; omega) | (simp; omega) | (simp; done))) (by simp only [List.mem_append, List.mem_singleton]; rintro (e | e); exact hp e; exact d ((c47 c).2 e.symm))
   rw [List.append_assoc, List.singleton_append, show (p ++ [c]).length = p.length + 1 from by simp] at hn
   exact hn
theorem hosted8_fin (s : List UInt8) : hosted8 s = fin11 (scut s).1 ((til [47] (scut s).2).map low8) (aft [47] (scut s).2) := by rw [fin11_low]; rfl
theorem rHosted (s : List UInt8) (h : s.length ≤ 109951162) : Ev (fun k => pursuivantref11_Parse.j1 k (ba s) false) (Src8.tup (hosted8 s)) := by
 have hfin : ∀ sc r : List UInt8, sc.length ≤ 109951162 → r.length ≤ 109951162 → ∀ y : List ByteArray, Ev (fun k => pursuivantref11_Parse.l0 k (ba r) y 2 2 4 (ba sc) false (⟨#[]⟩ : ByteArray) 0 (⟨#[]⟩ : ByteArray) (⟨#[]⟩ : ByteArray)) (Src8.tup (fin11 sc ((til [47] r).map low8) (aft [47] r))) := by
  intro sc r h1 h2 y
  refine Ev.step (fun k => by rw [pursuivantref11_Parse.l0]) ?_
  refine Ev.if_neg (by omega) ?_
  exact l1go sc h1 r [] (by simpa using h2) (by simp)
 have rd0 : rdOf ByteArray.empty [(⟨#[104, 116, 116, 112, 115, 58, 47, 47]⟩ : ByteArray), (⟨#[104, 116, 116, 112, 58, 47, 47]⟩ : ByteArray)] 0 = ba [104, 116, 116, 112, 115, 58, 47, 47] := rfl
 have rd1 : rdOf ByteArray.empty [(⟨#[104, 116, 116, 112, 115, 58, 47, 47]⟩ : ByteArray), (⟨#[104, 116, 116, 112, 58, 47, 47]⟩ : ByteArray)] 1 = ba [104, 116, 116, 112, 58, 47, 47] := rfl
 have w1 : wrap64 (0 + 1) = 1 := by decide +kernel
 have w2 : wrap64 (1 + 1) = 2 := by decide +kernel
 have w5 : wrap64 (((8 : Nat) : Int) - 3) = 5 := by decide +kernel
 have w4 : wrap64 (((7 : Nat) : Int) - 3) = 4 := by decide +kernel
 have lr : ([(⟨#[104, 116, 116, 112, 115, 58, 47, 47]⟩ : ByteArray), (⟨#[104, 116, 116, 112, 58, 47, 47]⟩ : ByteArray)] : List ByteArray).length = 2 := rfl
 -- the second word
 have s1 : ∀ sc r : List UInt8, sc.length ≤ 109951162 → r.length ≤ 109951162 → Ev (fun k => pursuivantref11_Parse.l0 k (ba r) [(⟨#[104, 116, 116, 112, 115, 58, 47, 47]⟩ : ByteArray), (⟨#[104, 116, 116, 112, 58, 47, 47]⟩ : ByteArray)] 2 1 4 (ba sc) false (⟨#[]⟩ : ByteArray) 0 (⟨#[]⟩ : ByteArray) (⟨#[]⟩ : ByteArray))
   (Src8.tup (if (r.take 7).map low8 = [104, 116, 116, 112, 58, 47, 47] ∧ sc = [] then fin11 [104, 116, 116, 112] ((til [47] (r.drop 7)).map low8) (aft [47] (r.drop 7)) else fin11 sc ((til [47] r).map low8) (aft [47] r))) := by
  intro sc r h1 h2
  have hf := hfin sc r h1 h2 [(⟨#[104, 116, 116, 112, 115, 58, 47, 47]⟩ : ByteArray), (⟨#[104, 116, 116, 112, 58, 47, 47]⟩ : ByteArray)]
  refine Ev.step (fun k => by rw [pursuivantref11_Parse.l0]) ?_
  simp only [rd1, w2, lr, ba_size', ba_list, List.length_cons, List.length_nil, w4]
  refine Ev.if_pos (by omega) (Ev.if_pos (by omega) (Ev.if_pos (by omega) (Ev.ite (fun c => ?_) (fun c => ?_))))
  ·have e1 : (ba r).extract 0 7 = ba (r.take 7) := by rw [ba_extract]; rfl
   have e2 : (ba r).extract 7 r.length = ba (r.drop 7) := by rw [ba_extract, List.take_of_length_le (by rw [List.length_drop]; omega)]
   refine Ev.if_pos (by omega) (Ev.if_pos (by omega) ?_)
   rw [show 0 + 1 + 1 + 1 + 1 + 1 + 1 + 1 = 7 from rfl, e1, e2]
   refine Ev.bind (refLowerE (r.take 7) (by rw [List.length_take]; omega)) ?_
   rw [ba_list]
   refine Ev.ite (fun d => ?_) (fun d => ?_)
   ·refine Ev.ite (fun f => ?_) (fun f => ?_)
    ·rw [if_pos ⟨d, f⟩]
     refine Ev.if_pos (by decide) (Ev.if_pos (by decide) ?_)
     exact hfin [104, 116, 116, 112] (r.drop 7) (by simp) (by rw [List.length_drop]; omega) _
    ·rw [if_neg (fun g => f g.2)]; exact hf
   ·rw [if_neg (fun g => d g.1)]; exact hf
  ·rw [if_neg]
   ·exact hf
   ·rintro ⟨g, _⟩
    have := congrArg List.length g
    rw [List.length_map, List.length_take] at this
    simp only [List.length_cons, List.length_nil] at this
    omega
 refine Ev.step (fun k => by rw [pursuivantref11_Parse.j1]) ?_
 refine Ev.if_neg (by simp) (Ev.some_bind (fun _ => rfl) ?_)
 rw [hosted8_fin, ← rcut_same]
 refine Ev.step (fun k => by rw [pursuivantref11_Parse.l0]) ?_
 simp only [rd0, w1, lr, ba_size', ba_list, List.length_cons, List.length_nil, w5]
 have s10 := s1 [] s (by simp) h
 refine Ev.if_pos (by omega) (Ev.if_pos (by omega) (Ev.if_pos (by omega) ?_))
 have nxt : ¬(s.take 8).map low8 = [104, 116, 116, 112, 115, 58, 47, 47] → Ev (fun k => pursuivantref11_Parse.l0 k (ba s) [(⟨#[104, 116, 116, 112, 115, 58, 47, 47]⟩ : ByteArray), (⟨#[104, 116, 116, 112, 58, 47, 47]⟩ : ByteArray)] 2 1 4 (⟨#[]⟩ : ByteArray) false (⟨#[]⟩ : ByteArray) 0 (⟨#[]⟩ : ByteArray) (⟨#[]⟩ : ByteArray))
   (Src8.tup (fin11 (rcut s).1 ((til [47] (rcut s).2).map low8) (aft [47] (rcut s).2))) := by
  intro n8
  by_cases g : (s.take 7).map low8 = [104, 116, 116, 112, 58, 47, 47]
  ·rw [show rcut s = ([104, 116, 116, 112], s.drop 7) from by unfold rcut; rw [if_neg n8, if_pos g]]
   rw [if_pos ⟨g, rfl⟩] at s10
   exact s10
  ·rw [show rcut s = ([], s) from by unfold rcut; rw [if_neg n8, if_neg g]]
   rw [if_neg (fun e => g e.1)] at s10
   exact s10
 refine Ev.ite (fun c => ?_) (fun c => ?_)
 ·have e1 : (ba s).extract 0 8 = ba (s.take 8) := by rw [ba_extract]; rfl
  have e2 : (ba s).extract 8 s.length = ba (s.drop 8) := by rw [ba_extract, List.take_of_length_le (by rw [List.length_drop]; omega)]
  refine Ev.if_pos (by omega) (Ev.if_pos (by omega) ?_)
  rw [show 0 + 1 + 1 + 1 + 1 + 1 + 1 + 1 + 1 = 8 from rfl, e1, e2]
  refine Ev.bind (refLowerE (s.take 8) (by rw [List.length_take]; omega)) ?_
  rw [ba_list]
  refine Ev.ite (fun d => ?_) (fun d => nxt d)
  rw [show rcut s = ([104, 116, 116, 112, 115], s.drop 8) from by unfold rcut; rw [if_pos d]]
  refine Ev.if_pos (by rw [lit0, ba_list]) (Ev.if_pos (by decide) (Ev.if_pos (by decide) ?_))
  have s2 := s1 [104, 116, 116, 112, 115] (s.drop 8) (by simp) (by rw [List.length_drop]; omega)
  rw [if_neg (fun e => by cases e.2)] at s2
  exact s2
 ·refine nxt (fun g => ?_)
  have := congrArg List.length g
  rw [List.length_map, List.length_take] at this
  simp only [List.length_cons, List.length_nil] at this
  omega
theorem refParse11 (s : List UInt8) (h : s.length ≤ 109951162) : Ev (fun k => pursuivantref11_Parse.f k (ba s)) (Src8.tup (parse11 s)) := by
 rw [← ref11_same]
 unfold pursuivantref11_Parse.f ref11
 refine Ev.bind (refLowerE s (by omega)) ?_
 simp only [ba_list]
 refine Ev.ite (fun c1 => ?_) (fun c1 => ?_)
 ·rw [if_pos (show s.map low8 = self11 from c1)]; exact Ev.now _
 rw [if_neg (show ¬s.map low8 = self11 from c1)]
 refine Ev.ite (fun c2 => ?_) (fun c2 => ?_)
 ·rw [if_pos c2]; exact Ev.now _
 rw [if_neg c2]
 have yes : (s.map low8 = [104, 116, 116, 112, 58] ∨ s.map low8 = [104, 116, 116, 112, 115, 58]) → Ev (fun k => pursuivantref11_Parse.j0 k (ba s) (ba (s.map low8)) true) (Src8.tup (Src8.mk 3 (s.map low8).dropLast false [] 0 [] [], true)) := by
  intro e
  have hl : 1 ≤ (s.map low8).length := by rcases e with e | e <;> rw [e] <;> simp
  have hm : (s.map low8).length = s.length := List.length_map _
  refine Ev.step (fun k => by rw [pursuivantref11_Parse.j0]) ?_
  rw [ba_size']
  have hw : wrap64 (((s.map low8).length : Int) - 1) = (((s.map low8).length - 1 : Nat) : Int) := by rw [wrap_ok] <;> omega
  rw [hw, Int.toNat_natCast, ba_extract, List.drop_zero, Nat.sub_zero, ← List.dropLast_eq_take]
  exact Ev.if_pos rfl (Ev.if_pos (by omega) (Ev.if_pos (by omega) (Ev.now _)))
 have no : ¬(s.map low8 = [104, 116, 116, 112, 58] ∨ s.map low8 = [104, 116, 116, 112, 115, 58]) → Ev (fun k => pursuivantref11_Parse.j0 k (ba s) (ba (s.map low8)) false) (Src8.tup (if s.length > 8 ∧ (s.map low8).take 7 = nonceP ∧ s.getLast? = some 39 then
   (if nonce11 ((s.take (s.length - 1)).drop 7) = true then (⟨5, [], false, [], 0, [], (s.take (s.length - 1)).drop 7⟩, true) else (Src8.no_, false)) else hosted8 s)) := by
  intro _
  have hr := rHosted s h
  refine Ev.step (fun k => by rw [pursuivantref11_Parse.j0]) ?_
  simp only [ba_size', List.length_map]
  refine Ev.if_neg (by simp) (Ev.ite (fun a => ?_) (fun a => ?_))
  ·have hne : s ≠ [] := by rintro rfl; simp at a
   have hw : wrap64 ((s.length : Int) - 1) = ((s.length - 1 : Nat) : Int) := by rw [wrap_ok] <;> omega
   have e1 : (ba (s.map low8)).extract 0 7 = ba ((s.map low8).take 7) := by rw [ba_extract]; rfl
   rw [hw, e1, ba_list]
   refine Ev.if_pos (by omega) (Ev.if_pos (by omega) (Ev.ite (fun b => ?_) (fun b => ?_)))
   ·rw [bt_last s hne]
    refine Ev.if_pos (by omega) (Ev.if_pos (by omega) ?_)
    by_cases d : s.getLast hne = 39
    ·rw [d, if_pos ⟨by omega, b, by rw [List.getLast?_eq_some_getLast hne, d]⟩, show (((39 : UInt8).toNat : Int) == 39) = true from by decide]
     refine Ev.step (fun k => by rw [pursuivantref11_Parse.j1]) ?_
     rw [ba_size', hw]
     simp only [Int.toNat_natCast]
     have e2 : (ba s).extract 7 (s.length - 1) = ba ((s.take (s.length - 1)).drop 7) := by rw [ba_extract, List.drop_take]
     rw [e2]
     have sm : (Src8.mk 5 [] false [] 0 [] ((s.take (s.length - 1)).drop 7)).Small := ⟨by simp, by simp, by simp, by simp only [List.length_drop, List.length_take]; omega, by simp⟩
     have hg : (Src8.mk 5 [] false [] 0 [] ((s.take (s.length - 1)).drop 7)).good = nonce11 ((s.take (s.length - 1)).drop 7) := by simp [Src8.good]
     have hf := finR _ sm
     rw [hg] at hf
     exact Ev.if_pos (by trivial) (Ev.if_pos (by omega) (Ev.if_pos (by omega) hf))
    ·rw [if_neg (by rintro ⟨_, _, e⟩; rw [List.getLast?_eq_some_getLast hne] at e; exact d (Option.some.inj e)), show (((s.getLast hne).toNat : Int) == 39) = false from by
      rw [beq_eq_false_iff_ne]; exact fun e => d ((c_eq _ 39 (by omega)).1 e)]
     exact hr
   ·rw [if_neg (fun e => b e.2.1)]; exact hr
  ·rw [if_neg (fun e => a (by omega))]; exact hr
 refine Ev.ite (fun c3 => ?_) (fun c3 => ?_)
 ·rw [if_pos (.inl c3)]; exact yes (.inl c3)
 ·by_cases c4 : s.map low8 = [104, 116, 116, 112, 115, 58]
  ·rw [if_pos (.inr c4), c4, show ([104, 116, 116, 112, 115, 58] == ([104, 116, 116, 112, 115, 58] : List UInt8)) = true from rfl, ← c4]; exact yes (.inr c4)
  ·rw [if_neg (by rintro (e | e); exact c3 e; exact c4 e), show (s.map low8 == ([104, 116, 116, 112, 115, 58] : List UInt8)) = false from beq_eq_false_iff_ne.mpr c4]
   exact no (by rintro (e | e); exact c3 e; exact c4 e)
end Go.Proofs.YteemgpciheheoaaGreatDoorRRR.Hand
