/- The law SourceRound in plain Lean: a source comes back of its text; what stands for a URL stands for it when it has moved. Condition: at most 2^20 bytes of bulk. -/
import Derived.Test.YteemgpciheheoaaGreatDoorRRRSrcK
import Derived.Test.YteemgpciheheoaaGreatDoorRRRFRD2
import Derived.Test.YteemgpciheheoaaGreatDoorRRRUrlL
namespace Go.Proofs.YteemgpciheheoaaGreatDoorRRR.Hand
open Go.RowKit Go.Proofs.YteemgpciheheoaaGreatDoorRRRW.PrintWords Go.Proofs.YteemgpciheheoaaGreatDoorRRRW.PrintLast Go.Proofs.YteemgpciheheoaaGreatDoorRRRW.PrintMore
set_option linter.unusedVariables false
set_option linter.unusedSimpArgs false

theorem match8_moved {x : Src8} {u : U8} {o : O8} (h : x.match8 u o false = true) : x.match8 u o true = true := by
 unfold Src8.match8 at *
 split
 ·rfl
 ·rename_i c; rw [if_neg c] at h
  split
  ·rename_i c; rw [if_pos c] at h; exact h
  ·rename_i c; rw [if_neg c] at h
   split
   ·rename_i c; rw [if_pos c] at h; exact h
   ·rename_i c; rw [if_neg c] at h
    split
    ·rename_i c; rw [if_pos c] at h; exact h
    ·rename_i c; rw [if_neg c] at h
     simp only [Bool.and_eq_true] at h ⊢
     exact ⟨h.1, h.2.1, h.2.2.1, rfl⟩
theorem match8_host {x : Src8} {u : U8} {o : O8} (h4 : x.ki = 4) (hs : x.sub = false) (h : x.match8 u o true = true) : u.ho = x.ho := by
 unfold Src8.match8 at h
 rw [h4] at h
 simp only [show ¬((4 : Int) = 2) by omega, show ¬((4 : Int) = 5) by omega, show ¬((4 : Int) = 3) by omega, show ¬((4 : Int) = 1) by omega, if_false, Bool.and_eq_true] at h
 have := h.2.1
 unfold Src8.there at this
 rw [hs] at this
 simpa using this
theorem wf_i64 {n : Int} (h : (Lit.int .i64 n).wf = true) : -9223372036854775808 ≤ n ∧ n ≤ 9223372036854775807 := by
 simp [Lit.wf] at h
 rwa [show IntKind.i64.min = -9223372036854775808 from rfl] at h
theorem cutP (x : Src8) (hp : x.pa.length ≤ 1099511627776) (hn : x.no.length ≤ 1099511627776) : pursuivantlaw11_cut.f x.ki (ba x.sc) x.sub (ba x.ho) x.po (ba x.pa) (ba x.no) = some (x.ki, ba x.sc, x.sub, ba x.ho, x.po, ba (short11 x.pa), ba (short11 x.no)) := by
 unfold pursuivantlaw11_cut.f
 rw [shortP _ hp, Option.bind_some, shortP _ hn, Option.bind_some]
theorem text11_len (x : Src8) (hp : -9223372036854775808 ≤ x.po ∧ x.po ≤ 9223372036854775807) : x.text.length ≤ x.sc.length + x.ho.length + x.pa.length + x.no.length + 200 := by
 have := portS_len x.po hp
 have h1 : (if x.sc = [] then ([] : List UInt8) else x.sc ++ [58, 47, 47]).length ≤ x.sc.length + 3 := by split <;> simp
 have h2 : (if x.sub = true then ([42, 46] : List UInt8) else []).length ≤ 2 := by split <;> simp
 unfold Src8.text Src8.long
 split
 ·split
  ·simp
  ·split
   ·simp
   ·split
    ·simp; omega
    ·split
     ·simp; omega
     ·simp only [List.length_append]; omega
 ·simp
theorem round_j2 (x : Src8) (u : U8) (o : O8) (near far : Bool) (hu : u.Sm) (ho : o.Small) (h2 : x.ki = 2 → near = true) (h1 : x.ki = 1 → near = far ∧ (near = false → (ofU u).same o = false)) :
  Ev (fun k => pursuivantlaw11_SourceRound.j2 k near far false (ba u.sc) (ba u.us) (ba u.ho) u.po (ba u.pa) u.hq (ba u.qu) u.hf (ba u.fr) (ba o.sc) (ba o.ho) o.po x.ki (ba x.sc) x.sub (ba x.ho) x.po (ba x.pa) (ba x.no)) true := by
 refine Ev.step (fun k => by rw [pursuivantlaw11_SourceRound.j2]) ?_
 refine Ev.if_neg (by simp) (Ev.bind awake11 (Ev.if_pos rfl (Ev.ite (fun c => ?_) (fun c => Ev.ite (fun d => ?_) (fun d => Ev.now _)))))
 ·exact Ev.if_pos (h2 c) (Ev.if_neg (by omega) (Ev.now _))
 ·obtain ⟨e, f⟩ := h1 d
  refine Ev.if_pos (by rw [e]; simp) (Ev.ite (fun g => Ev.now _) (fun g => ?_))
  refine Ev.bind (refOf u hu.small) (Ev.bind (refSameO (ofU u) o (ofU_len hu)) ?_)
  rw [f (by simpa using g)]
  exact Ev.now _
theorem sourceRound_pure (x0 : S23) (x1 : S30) (x2 : S32) (hb : sz23 x0 + sz30 x1 + sz32 x2 ≤ 1048576) (hw0 : wf23 x0) (hw1 : wf30 x1) (hw2 : wf32 x2) :
  ∃ k, pursuivantlaw11_SourceRound.f k (x0.f0) (x0.f1) (x0.f2) (x0.f3) (x0.f4) (x0.f5) (x0.f6) (x1.f0) (x1.f1) (x1.f2) (x1.f3) (x1.f4) (x1.f5) (x1.f6) (x1.f7) (x1.f8) (x2.f0) (x2.f1) (x2.f2) = some true := by
 obtain ⟨ki, sc, sub, hos, po, pa, no⟩ := x0
 obtain ⟨usc, uus, uho, upo, upa, uhq, uqu, uhf, ufr⟩ := x1
 obtain ⟨osc, oho, opo⟩ := x2
 have wpo := wf_i64 hw0.2.2.2.2.1
 have wop := wf_i64 hw2.2.2
 obtain ⟨sc, rfl⟩ := ba_of sc
 obtain ⟨hos, rfl⟩ := ba_of hos
 obtain ⟨pa, rfl⟩ := ba_of pa
 obtain ⟨no, rfl⟩ := ba_of no
 obtain ⟨usc, rfl⟩ := ba_of usc
 obtain ⟨uus, rfl⟩ := ba_of uus
 obtain ⟨uho, rfl⟩ := ba_of uho
 obtain ⟨upa, rfl⟩ := ba_of upa
 obtain ⟨uqu, rfl⟩ := ba_of uqu
 obtain ⟨ufr, rfl⟩ := ba_of ufr
 obtain ⟨osc, rfl⟩ := ba_of osc
 obtain ⟨oho, rfl⟩ := ba_of oho
 simp only [sz23, sz30, sz32, ba_size'] at hb
 simp only at wpo wop ⊢
 clear hw0 hw1 hw2
 have hp := short11_len pa
 have hn := short11_len no
 obtain ⟨y, hy⟩ : ∃ y : Src8, y = ⟨ki, sc, sub, hos, po, short11 pa, short11 no⟩ := ⟨_, rfl⟩
 obtain ⟨u, hu⟩ : ∃ u : U8, u = ⟨usc, uus, uho, upo, upa, uhq, uqu, uhf, ufr⟩ := ⟨_, rfl⟩
 obtain ⟨o, ho⟩ : ∃ o : O8, o = ⟨osc, oho, opo⟩ := ⟨_, rfl⟩
 have sy : y.Small := by rw [hy]; exact ⟨by simp only; omega, by simp only; omega, by simp only; omega, by simp only; omega, wpo⟩
 have su : u.Sm := by rw [hu]; exact ⟨by simp only; omega, by simp only; omega, by simp only; omega, by simp only; omega, by simp only; omega, by simp only; omega⟩
 have so : o.Small := by rw [ho]; exact ⟨by simp only; omega, by simp only; omega, wop⟩
 have hc := cutP ⟨ki, sc, sub, hos, po, pa, no⟩ (by simp only; omega) (by simp only; omega)
 refine Ev.get' (?_ : Ev (fun k => pursuivantlaw11_SourceRound.f k ki (ba sc) sub (ba hos) po (ba pa) (ba no) (ba usc) (ba uus) (ba uho) upo (ba upa) uhq (ba uqu) uhf (ba ufr) (ba osc) (ba oho) opo) true)
 unfold pursuivantlaw11_SourceRound.f
 refine Ev.some_bind (fun _ => hc) ?_
 have e1 : ki = y.ki ∧ sc = y.sc ∧ sub = y.sub ∧ hos = y.ho ∧ po = y.po ∧ short11 pa = y.pa ∧ short11 no = y.no := by rw [hy]; exact ⟨rfl, rfl, rfl, rfl, rfl, rfl, rfl⟩
 have e2 : usc = u.sc ∧ uus = u.us ∧ uho = u.ho ∧ upo = u.po ∧ upa = u.pa ∧ uhq = u.hq ∧ uqu = u.qu ∧ uhf = u.hf ∧ ufr = u.fr := by rw [hu]; exact ⟨rfl, rfl, rfl, rfl, rfl, rfl, rfl, rfl, rfl⟩
 have e3 : osc = o.sc ∧ oho = o.ho ∧ opo = o.po := by rw [ho]; exact ⟨rfl, rfl, rfl⟩
 simp only
 rw [e1.1, e1.2.1, e1.2.2.1, e1.2.2.2.1, e1.2.2.2.2.1, e1.2.2.2.2.2.1, e1.2.2.2.2.2.2, e2.1, e2.2.1, e2.2.2.1, e2.2.2.2.1, e2.2.2.2.2.1, e2.2.2.2.2.2.1, e2.2.2.2.2.2.2.1, e2.2.2.2.2.2.2.2.1, e2.2.2.2.2.2.2.2.2, e3.1, e3.2.1, e3.2.2]
 have hL : y.sc.length + y.ho.length + y.pa.length + y.no.length ≤ 2097152 := by rw [← e1.2.1, ← e1.2.2.2.1, ← e1.2.2.2.2.2.1, ← e1.2.2.2.2.2.2]; omega
 clear hy hu ho e1 e2 e3 hc hb hp hn wpo wop
 refine Ev.bind (progGoodS y sy) (Ev.ite (fun c => ?_) (fun c => ?_))
 ·refine Ev.bind (progTextS y sy) ?_
  have hl : y.text.length ≤ 109951162 := by have := text11_len y sy.po; omega
  have hp := progParse11 y.text hl
  rw [parse11_text y c] at hp
  refine Ev.bind hp (Ev.if_neg (by simp [Src8.tup]) ?_)
  simp only [Src8.tup]
  refine Ev.step (fun k => by rw [pursuivantlaw11_SourceRound.j0]) ?_
  refine Ev.if_neg (by simp) ?_
  have jt : Ev (fun k => pursuivantlaw11_SourceRound.j1 k true (ba u.sc) (ba u.us) (ba u.ho) u.po (ba u.pa) u.hq (ba u.qu) u.hf (ba u.fr) (ba o.sc) (ba o.ho) o.po y.ki (ba y.sc) y.sub (ba y.ho) y.po (ba y.pa) (ba y.no)) true := by
   refine Ev.step (fun k => by rw [pursuivantlaw11_SourceRound.j1]) ?_
   exact Ev.if_pos rfl (Ev.bind awake11 (Ev.now _))
  refine Ev.bind (refGoodU u su.small) (Ev.ite (fun d => ?_) (fun d => jt))
  refine Ev.bind (refGoodO o so) ?_
  cases ho : o.good with
  | false => exact jt
  | true =>
   refine Ev.step (fun k => by rw [pursuivantlaw11_SourceRound.j1]) ?_
   have m1 := matchP y u o false sy su
   have m2 := matchP y u o true sy su
   refine Ev.if_neg (by simp) (Ev.bind m1 (Ev.bind m2 ?_))
   have f2 : ∀ b, y.ki = 2 → y.match8 u o b = true := fun b h => by unfold Src8.match8; rw [if_pos h]
   have f1 : ∀ b, y.ki = 1 → y.match8 u o b = own8 u o := fun b h => by
    unfold Src8.match8
    rw [if_neg (show ¬y.ki = 2 by omega), if_neg (show ¬y.ki = 5 by omega), if_neg (show ¬y.ki = 3 by omega), if_pos h]
   have g1 : y.ki = 1 → y.match8 u o false = y.match8 u o true ∧ (y.match8 u o false = false → (ofU u).same o = false) := fun h => ⟨by rw [f1 _ h, f1 _ h], fun e => by
    rw [f1 _ h] at e
    unfold own8 at e
    rw [Bool.or_eq_false_iff] at e
    exact e.1⟩
   have fin := round_j2 y u o (y.match8 u o false) (y.match8 u o true) su so (f2 false) g1
   refine Ev.ite (fun n => ?_) (fun n => ?_)
   ·have hm := match8_moved n
    refine Ev.if_pos hm (Ev.ite (fun i => Ev.ite (fun j => fin) (fun j => ?_)) (fun i => fin))
    rw [ba_list, ba_list, show (u.ho != y.ho) = false from by rw [match8_host i (by simpa using j) hm]; simp]
    exact fin
   ·refine Ev.ite (fun m => Ev.ite (fun i => Ev.ite (fun j => fin) (fun j => ?_)) (fun i => fin)) (fun m => fin)
    rw [ba_list, ba_list, show (u.ho != y.ho) = false from by rw [match8_host i (by simpa using j) m]; simp]
    exact fin
 ·refine Ev.bind awake11 (Ev.if_pos rfl (Ev.bind (progTextS y sy) ?_))
  rw [ba_list, show y.text = [] from by unfold Src8.text; rw [if_neg c]]
  exact Ev.now _
end Go.Proofs.YteemgpciheheoaaGreatDoorRRR.Hand
