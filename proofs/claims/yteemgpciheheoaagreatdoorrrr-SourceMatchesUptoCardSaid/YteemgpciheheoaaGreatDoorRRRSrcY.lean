/- The law SourceMatches in plain Lean: the package and the reference agree on what stands for a URL. Condition: at most 2^20 bytes of bulk. -/
import Derived.Test.YteemgpciheheoaaGreatDoorRRRSrcK
import Derived.Test.YteemgpciheheoaaGreatDoorRRRFMT1
import Derived.Test.YteemgpciheheoaaGreatDoorRRRUrlL
namespace Go.Proofs.YteemgpciheheoaaGreatDoorRRR.Hand
open Go.RowKit Go.Proofs.YteemgpciheheoaaGreatDoorRRRW.PrintWords Go.Proofs.YteemgpciheheoaaGreatDoorRRRW.PrintLast Go.Proofs.YteemgpciheheoaaGreatDoorRRRW.PrintMore
set_option linter.unusedVariables false
set_option linter.unusedSimpArgs false

theorem goesR (a b : List UInt8) : pursuivantref11_Goes.f (ba a) (ba b) = some (goes8 a b) := by
 unfold pursuivantref11_Goes.f goes8
 simp only [ba_list]
 by_cases h : a = b
 ·rw [if_pos h, decide_eq_true (.inl h)]
 ·rw [if_neg h]
  by_cases g : a = http8
  ·rw [if_pos g]
   congr 1
   rw [Bool.eq_iff_iff, beq_iff_eq, decide_eq_true_iff]
   exact ⟨fun e => .inr ⟨g, e⟩, fun e => (e.resolve_left h).2⟩
  ·rw [if_neg g, decide_eq_false (fun e => by rcases e with e | e; exact h e; exact g e.1)]
theorem suffix1 (l : List UInt8) (d : UInt8) : Lib.hasSuffix l [d] = decide (l.getLast? = some d) := by
 rw [Bool.eq_iff_iff, decide_eq_true_iff]
 unfold Lib.hasSuffix
 rw [List.isSuffixOf_iff_suffix]
 constructor
 ·rintro ⟨p, rfl⟩; simp
 ·intro h
  have hn : l ≠ [] := by rintro rfl; cases h
  rw [List.getLast?_eq_some_getLast hn] at h
  exact ⟨l.dropLast, by rw [← Option.some.inj h, List.dropLast_concat_getLast]⟩
theorem tailR (x : Src8) (u : U8) (mv : Bool) : refTail (ba x.pa) (ba u.pa) mv = (mv || (decide (x.pa = []) || x.path u)) := by
 unfold refTail Src8.path
 simp only [ba_size', ba_eq, ba_list]
 cases mv
 ·simp only [Bool.false_or]
  by_cases c : x.pa = []
  ·rw [c]; simp
  ·have hp := List.length_pos_iff.2 c
   rw [decide_eq_false (show ¬x.pa.length = 0 by omega), decide_eq_false c, Bool.false_or, Bool.false_or, show ((x.pa.length : Int) - 1) = ((x.pa.length - 1 : Nat) : Int) from by omega, bt_last x.pa c, suffix1, List.getLast?_eq_some_getLast c]
   have he : (ba u.pa).extract 0 x.pa.length = ba (u.pa.take x.pa.length) := by rw [ba_extract]; rfl
   rw [he, ba_list]
   have hb : (((x.pa.getLast c).toNat : Int) == 47) = decide (x.pa.getLast c = 47) := by
    rw [Bool.eq_iff_iff, beq_iff_eq, decide_eq_true_iff]; exact c47 _
   rw [hb]
   by_cases d : x.pa.getLast c = 47
   ·rw [d, if_pos (by simp)]
    unfold Lib.hasPrefix
    rw [Bool.eq_iff_iff]
    simp only [decide_true, Bool.true_and, Bool.or_eq_true, Bool.and_eq_true, decide_eq_true_eq, beq_iff_eq, List.isPrefixOf_iff_prefix]
    constructor
    ·rintro (e | ⟨_, e⟩)
     ·rw [e]; exact List.prefix_refl _
     ·rw [← e]; exact List.take_prefix _ _
    ·intro e
     by_cases f : x.pa.length < u.pa.length
     ·exact .inr ⟨f, (List.prefix_iff_eq_take.1 e).symm⟩
     ·exact .inl (e.eq_of_length_le (by omega))
   ·rw [decide_eq_false d, if_neg (by simpa using d)]
    simp only [Bool.false_and, Bool.or_false]
    rw [Bool.eq_iff_iff, decide_eq_true_iff, decide_eq_true_iff]
    exact ⟨fun e => e.symm, fun e => e.symm⟩
 ·simp
theorem matchR (x : Src8) (u : U8) (o : O8) (mv : Bool) (hx : x.Small) (hu : u.Sm) (hg : u.good = true) :
  Ev (fun k => pursuivantref11_Match.f k x.ki (ba x.sc) x.sub (ba x.ho) x.po (ba x.pa) (ba x.no) (ba u.sc) (ba u.us) (ba u.ho) u.po (ba u.pa) u.hq (ba u.qu) u.hf (ba u.fr) (ba o.sc) (ba o.ho) o.po mv) (x.match8 u o mv) := by
 have ho : ofU u = ⟨u.sc, u.ho, u.port⟩ := by unfold ofU; rw [if_pos hg]
 unfold pursuivantref11_Match.f Src8.match8
 refine Ev.bind (refOf u hu.small) ?_
 simp only
 by_cases c1 : x.ki = 1
 ·rw [if_neg (show ¬x.ki = 2 by omega), if_neg (show ¬x.ki = 5 by omega), if_neg (show ¬x.ki = 3 by omega), if_pos c1]
  refine Ev.if_pos c1 (Ev.bind (refSameO (ofU u) o (ofU_len hu)) ?_)
  unfold refOwn own8
  rw [show (⟨#[104, 116, 116, 112]⟩ : ByteArray) = ba http8 from rfl, show (⟨#[104, 116, 116, 112, 115]⟩ : ByteArray) = ba https8 from rfl]
  simp only [ba_eq]
  rw [ho]
  simp only
  rw [show decide (u.ho = o.ho ∧ o.sc = http8 ∧ o.po = 80 ∧ u.sc = https8 ∧ u.port = 443) = decide (u.ho = o.ho ∧ o.sc = http8 ∧ u.sc = https8 ∧ o.po = 80 ∧ u.port = 443) from by
   rw [Bool.eq_iff_iff, decide_eq_true_iff, decide_eq_true_iff]
   exact ⟨fun ⟨a, b, c, d, e⟩ => ⟨a, b, d, c, e⟩, fun ⟨a, b, c, d, e⟩ => ⟨a, b, d, c, e⟩⟩]
  exact Ev.now _
 refine Ev.if_neg c1 ?_
 by_cases c2 : x.ki = 2
 ·rw [if_pos c2]; exact Ev.if_pos c2 (Ev.now _)
 rw [if_neg c2]
 refine Ev.if_neg c2 ?_
 by_cases c3 : x.ki = 3
 ·rw [if_neg (show ¬x.ki = 5 by omega), if_pos c3]
  refine Ev.if_pos c3 ?_
  rw [goesR]; exact Ev.now _
 refine Ev.if_neg c3 ?_
 by_cases c5 : x.ki = 5
 ·rw [if_pos c5]; exact Ev.if_pos c5 (Ev.now _)
 rw [if_neg c5, if_neg c3, if_neg c1]
 refine Ev.if_neg c5 ?_
 have hS : (if (ba x.sc).toList = [] then ba o.sc else ba x.sc) = ba (if x.sc = [] then o.sc else x.sc) := by
  rw [ba_list]; split <;> rfl
 rw [hS]
 have hT : Ev (fun k => refThere k x.sub (ba x.ho) (ba u.ho)) (x.there u) := by
  unfold refThere Src8.there
  refine Ev.ite (fun d => ?_) (fun d => ?_)
  ·rw [if_pos d]; exact refUnder u.ho x.ho (by have := hu.ho; omega) (by have := hx.ho; omega)
  ·rw [if_neg d]
   simp only [ba_list]
   rw [show (u.ho == x.ho) = decide (u.ho = x.ho) from by rw [Bool.eq_iff_iff, beq_iff_eq, decide_eq_true_iff]]
   exact Ev.now _
 refine Ev.some_bind (fun _ => goesR _ _) (Ev.ite (fun d => ?_) (fun d => ?_))
 ·rw [d, Bool.true_and]
  refine Ev.bind hT (Ev.ite (fun e => ?_) (fun e => ?_))
  ·rw [e, Bool.true_and]
   refine Ev.some_bind (fun _ => refDef u.sc) ?_
   have hP : refPo11 x.po (ofU u).po (def8 u.sc) (ba u.sc) = x.port u := by
    unfold refPo11 Src8.port
    rw [ho, show (⟨#[104, 116, 116, 112, 115]⟩ : ByteArray) = ba https8 from rfl]
    simp only [ba_eq]
    rw [Bool.eq_iff_iff, decide_eq_true_iff, decide_eq_true_iff]
    exact ⟨fun h => by rcases h with h | h | h | h; exact .inl h; exact .inr (.inr (.inl h)); exact .inr (.inl h); exact .inr (.inr (.inr h)),
     fun h => by rcases h with h | h | h | h; exact .inl h; exact .inr (.inr (.inl h)); exact .inr (.inl h); exact .inr (.inr (.inr h))⟩
   rw [hP]
   refine Ev.ite (fun f => ?_) (fun f => ?_)
   ·rw [f, Bool.true_and, tailR]
    exact Ev.if_pos (by rw [ba_size']; have := hx.pa; omega) (Ev.if_pos (by rw [ba_size']; have := hu.pa; omega) (Ev.now _))
   ·rw [show x.port u = false from by simpa using f, Bool.false_and]; exact Ev.now _
  ·rw [show x.there u = false from by simpa using e, Bool.false_and]; exact Ev.now _
 ·rw [show goes8 (if x.sc = [] then o.sc else x.sc) u.sc = false from by simpa using d, Bool.false_and]; exact Ev.now _
theorem wf_i64' {n : Int} (h : (Lit.int .i64 n).wf = true) : -9223372036854775808 ≤ n ∧ n ≤ 9223372036854775807 := by
 simp [Lit.wf] at h
 rwa [show IntKind.i64.min = -9223372036854775808 from rfl] at h
theorem cutM (x : Src8) (hp : x.pa.length ≤ 1099511627776) (hn : x.no.length ≤ 1099511627776) : pursuivantlaw11_cut.f x.ki (ba x.sc) x.sub (ba x.ho) x.po (ba x.pa) (ba x.no) = some (x.ki, ba x.sc, x.sub, ba x.ho, x.po, ba (short11 x.pa), ba (short11 x.no)) := by
 unfold pursuivantlaw11_cut.f
 rw [shortP _ hp, Option.bind_some, shortP _ hn, Option.bind_some]
theorem sourceMatches_pure (x0 : S23) (x1 : S30) (x2 : S32) (x3 : Bool) (hb : sz23 x0 + sz30 x1 + sz32 x2 + (fun _ => 1) x3 ≤ 1048576) (hw0 : wf23 x0) (hw1 : wf30 x1) (hw2 : wf32 x2) (hw3 : (fun _ => True) x3) :
  ∃ k, pursuivantlaw11_SourceMatches.f k (x0.f0) (x0.f1) (x0.f2) (x0.f3) (x0.f4) (x0.f5) (x0.f6) (x1.f0) (x1.f1) (x1.f2) (x1.f3) (x1.f4) (x1.f5) (x1.f6) (x1.f7) (x1.f8) (x2.f0) (x2.f1) (x2.f2) x3 = some true := by
 obtain ⟨ki, sc, sub, hos, po, pa, no⟩ := x0
 obtain ⟨usc, uus, uho, upo, upa, uhq, uqu, uhf, ufr⟩ := x1
 obtain ⟨osc, oho, opo⟩ := x2
 have wpo := wf_i64' hw0.2.2.2.2.1
 have wop := wf_i64' hw2.2.2
 obtain ⟨sc, rfl⟩ := ba_of sc
 obtain ⟨hos, rfl⟩ := ba_of hos
 obtain ⟨pa, rfl⟩ := ba_of pa
 obtain ⟨no, rfl⟩ := ba_of no
 obtain ⟨usc, rfl⟩ := ba_of usc
 obtain ⟨uus, rfl⟩ := ba_of uus
 obtain ⟨uho, rfl⟩ := ba_of uho
 obtain ⟨upa, rfl⟩ := ba_of upa
 obtain ⟨uqu, rfl⟩ := ba_of uqu
 obtain ⟨ufr, rfl⟩ := ba_of ufr
 obtain ⟨osc, rfl⟩ := ba_of osc
 obtain ⟨oho, rfl⟩ := ba_of oho
 simp only [sz23, sz30, sz32, ba_size'] at hb
 simp only at wpo wop ⊢
 clear hw0 hw1 hw2
 have hp := short11_len pa
 have hn := short11_len no
 have sy : (Src8.mk ki sc sub hos po (short11 pa) (short11 no)).Small := ⟨by simp only; omega, by simp only; omega, by simp only; omega, by simp only; omega, wpo⟩
 have su : (U8.mk usc uus uho upo upa uhq uqu uhf ufr).Sm := ⟨by simp only; omega, by simp only; omega, by simp only; omega, by simp only; omega, by simp only; omega, by simp only; omega⟩
 have so : (O8.mk osc oho opo).Small := ⟨by simp only; omega, by simp only; omega, wop⟩
 have hc := cutM ⟨ki, sc, sub, hos, po, pa, no⟩ (by simp only; omega) (by simp only; omega)
 refine Ev.get' (?_ : Ev (fun k => pursuivantlaw11_SourceMatches.f k ki (ba sc) sub (ba hos) po (ba pa) (ba no) (ba usc) (ba uus) (ba uho) upo (ba upa) uhq (ba uqu) uhf (ba ufr) (ba osc) (ba oho) opo x3) true)
 have jt : Ev (fun k => pursuivantlaw11_SourceMatches.j0 k x3 true ki (ba sc) sub (ba hos) po (ba pa) (ba no) (ba usc) (ba uus) (ba uho) upo (ba upa) uhq (ba uqu) uhf (ba ufr) (ba osc) (ba oho) opo) true := by
  refine Ev.step (fun k => by rw [pursuivantlaw11_SourceMatches.j0]) ?_
  exact Ev.if_pos rfl (Ev.bind awake11 (Ev.now _))
 unfold pursuivantlaw11_SourceMatches.f
 refine Ev.some_bind (fun _ => hc) (Ev.bind (refGoodS _ sy) (Ev.ite (fun _ => ?_) (fun _ => jt)))
 refine Ev.bind (refGoodU _ su.small) (Ev.ite (fun d => ?_) (fun _ => jt))
 refine Ev.bind (refGoodO _ so) ?_
 cases ho : (O8.mk osc oho opo).good with
 | false => exact jt
 | true =>
  refine Ev.step (fun k => by rw [pursuivantlaw11_SourceMatches.j0]) ?_
  refine Ev.if_neg (by simp) (Ev.bind awake11 (Ev.if_pos rfl (Ev.some_bind (fun _ => hc) (Ev.bind (matchP _ _ ⟨osc, oho, opo⟩ x3 sy su) (Ev.some_bind (fun _ => hc) (Ev.bind (matchR _ _ ⟨osc, oho, opo⟩ x3 sy su d) ?_))))))
  simpa using Ev.now _
end Go.Proofs.YteemgpciheheoaaGreatDoorRRR.Hand
