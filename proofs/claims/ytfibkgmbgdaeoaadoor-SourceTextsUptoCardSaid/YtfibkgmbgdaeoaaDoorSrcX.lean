/- The law SourceTexts in plain Lean: whether any source may be, and its text, by the program and by the document. Condition: at most 2^20 bytes of bulk. -/
import Derived.Test.YtfibkgmbgdaeoaaDoorSrcK
import Derived.Test.YtfibkgmbgdaeoaaDoorFTX1
import Derived.Test.YtfibkgmbgdaeoaaDoorOriginS
namespace Go.Proofs.YtfibkgmbgdaeoaaDoor.Hand
open Go.RowKit Go.Proofs.YtfibkgmbgdaeoaaDoorW.PrintWords Go.Proofs.YtfibkgmbgdaeoaaDoorW.PrintLast Go.Proofs.YtfibkgmbgdaeoaaDoorW.PrintMore
set_option linter.unusedVariables false
set_option linter.unusedSimpArgs false

theorem refTextS (x : Src8) (hs : x.Small) : Ev (fun k => pursuivantref11_Text.f k x.ki (ba x.sc) x.sub (ba x.ho) x.po (ba x.pa) (ba x.no)) (ba x.text) := by
 have hg := refGoodS x hs
 have hp : x.good = true → x.ki ≠ 1 → x.ki ≠ 2 → x.ki ≠ 3 → x.ki ≠ 5 → -1 ≤ x.po ∧ x.po ≤ 65535 := by
  intro h a b c d
  unfold Src8.good at h
  rw [if_neg (by omega), if_neg c, if_neg d] at h
  by_cases e : x.ki = 4
  ·rw [if_pos e] at h
   unfold Src8.host at h
   simp only [Bool.and_eq_true, decide_eq_true_iff] at h
   exact h.2.2.1
  ·rw [if_neg e] at h; cases h
 obtain ⟨ki, sc, sub, ho, po, pa, no⟩ := x
 obtain ⟨h1, h2, h3, h4, h5⟩ := hs
 simp only at h1 h2 h3 h4 h5 hg hp ⊢
 have l1 : (⟨#[42, 46]⟩ : ByteArray) = ba [42, 46] := rfl
 have l2 : (⟨#[58, 42]⟩ : ByteArray) = ba [58, 42] := rfl
 have l3 : (⟨#[58]⟩ : ByteArray) = ba [58] := rfl
 have l4 : (⟨#[58, 47, 47]⟩ : ByteArray) = ba [58, 47, 47] := rfl
 have l5 : (⟨#[39, 110, 111, 110, 99, 101, 45]⟩ : ByteArray) = ba nonceP := rfl
 have l6 : (⟨#[39]⟩ : ByteArray) = ba [39] := rfl
 have j1 : -1 ≤ po ∧ po ≤ 65535 → ∀ y : List UInt8, y.length ≤ 1099511627 → Ev (fun k => pursuivantref11_Text.j1 k (ba y) ki (ba sc) sub (ba ho) po (ba pa) (ba no)) (ba (y ++ portS po ++ pa)) := by
  intro hpo y hy
  have hil := itoa_len po h5.1 h5.2
  refine Ev.step (fun k => by rw [pursuivantref11_Text.j1]) ?_
  simp only [l2, l3, ba_app, ba_size']
  unfold portS
  refine Ev.ite (fun c => ?_) (fun c => ?_)
  ·obtain ⟨n, rfl⟩ : ∃ n : Nat, po = (n : Int) := ⟨po.toNat, by omega⟩
   rw [if_neg (by omega), if_pos c]
   rw [itoa_nat] at hil ⊢
   refine Ev.bind (refDigits n (by omega)) ?_
   simp only [ba_app, ba_size']
   refine Ev.if_pos (by omega) (Ev.if_pos (by (first | omega | (simp only [ba_size', List.length_append, List.length_cons, List.length_nil]; omega) | (simp; omega) | (simp; done))) (Ev.if_neg (by omega) (Ev.if_pos (by (first | omega | (simp only [ba_size', List.length_append, List.length_cons, List.length_nil]; omega) | (simp; omega) | (simp; done))) ?_)))
   exact Ev.now _
  ·refine Ev.ite (fun d => ?_) (fun d => ?_)
   ·rw [show (if po = -1 then ([58, 42] : List UInt8) else if po > 0 then 58 :: Lib.itoa po else []) = [58, 42] from if_pos (by omega)]
    exact Ev.if_pos (by (first | omega | (simp only [ba_size', List.length_append, List.length_cons, List.length_nil]; omega) | (simp; omega) | (simp; done))) (Ev.if_pos (by (first | omega | (simp only [ba_size', List.length_append, List.length_cons, List.length_nil]; omega) | (simp; omega) | (simp; done))) (Ev.now _))
   ·rw [show (if po = -1 then ([58, 42] : List UInt8) else if po > 0 then 58 :: Lib.itoa po else []) = [] from by rw [if_neg (by omega), if_neg c], List.append_nil]
    exact Ev.if_pos (by (first | omega | (simp only [ba_size', List.length_append, List.length_cons, List.length_nil]; omega) | (simp; omega) | (simp; done))) (Ev.now _)
 have j0 : -1 ≤ po ∧ po ≤ 65535 → ∀ y : List UInt8, y.length ≤ 600000000 → Ev (fun k => pursuivantref11_Text.j0 k (ba y) ki (ba sc) sub (ba ho) po (ba pa) (ba no)) (ba ((if sc = [] then [] else sc ++ [58, 47, 47]) ++ y ++ portS po ++ pa)) := by
  intro hpo y hy
  refine Ev.step (fun k => by rw [pursuivantref11_Text.j0]) ?_
  simp only [l4, ba_app, ba_size', ba_list]
  refine Ev.ite (fun c => ?_) (fun c => ?_)
  ·rw [if_pos c, List.nil_append]
   exact j1 hpo y (by omega)
  ·rw [if_neg c]
   exact Ev.if_pos (by omega) (Ev.if_pos (by (first | omega | (simp only [ba_size', List.length_append, List.length_cons, List.length_nil]; omega) | (simp; omega) | (simp; done))) (j1 hpo _ (by (first | omega | (simp only [ba_size', List.length_append, List.length_cons, List.length_nil]; omega) | (simp; omega) | (simp; done)))))
 unfold pursuivantref11_Text.f Src8.text
 refine Ev.bind hg (Ev.ite (fun c => ?_) (fun c => ?_))
 ·rw [if_pos c]
  refine Ev.ite (fun c1 => ?_) (fun c1 => ?_)
  ·rw [if_pos c1]; exact Ev.now _
  rw [if_neg c1]
  refine Ev.ite (fun c2 => ?_) (fun c2 => ?_)
  ·rw [if_pos c2]; exact Ev.now _
  rw [if_neg c2]
  refine Ev.ite (fun c3 => ?_) (fun c3 => ?_)
  ·rw [if_pos c3, l3, ba_app, ba_size']
   exact Ev.if_pos (by omega) (Ev.now _)
  rw [if_neg c3]
  refine Ev.ite (fun c5 => ?_) (fun c5 => ?_)
  ·rw [if_pos c5, l5, l6]
   simp only [ba_app, ba_size']
   exact Ev.if_pos (by omega) (Ev.if_pos (by (first | omega | (simp only [ba_size', List.length_append, List.length_cons, List.length_nil]; omega) | (simp; omega) | (simp; done))) (Ev.now _))
  rw [if_neg c5]
  have hpo := hp c c1 c2 c3 c5
  unfold Src8.long
  simp only
  refine Ev.ite (fun d => ?_) (fun d => ?_)
  ·rw [if_pos d, l1, ba_app, ba_size']
   have := j0 hpo ([42, 46] ++ ho) (by (first | omega | (simp only [ba_size', List.length_append, List.length_cons, List.length_nil]; omega) | (simp; omega) | (simp; done)))
   refine Ev.if_pos (by omega) ?_
   simpa only [List.append_assoc] using this
  ·rw [if_neg d, List.append_nil]
   exact j0 hpo ho (by omega)
 ·rw [if_neg c]
  exact Ev.now _
theorem cutP (x : Src8) (hp : x.pa.length ≤ 1099511627776) (hn : x.no.length ≤ 1099511627776) : pursuivantlaw11_cut.f x.ki (ba x.sc) x.sub (ba x.ho) x.po (ba x.pa) (ba x.no) = some (x.ki, ba x.sc, x.sub, ba x.ho, x.po, ba (short11 x.pa), ba (short11 x.no)) := by
 unfold pursuivantlaw11_cut.f
 rw [shortP _ hp, Option.bind_some, shortP _ hn, Option.bind_some]
theorem wf_i64t {n : Int} (h : (Lit.int .i64 n).wf = true) : -9223372036854775808 ≤ n ∧ n ≤ 9223372036854775807 := by
 simp [Lit.wf] at h
 rwa [show IntKind.i64.min = -9223372036854775808 from rfl] at h
theorem sourceTexts_pure (x0 : S23) (hb : sz23 x0 ≤ 1048576) (hw0 : wf23 x0) : ∃ k, pursuivantlaw11_SourceTexts.f k (x0.f0) (x0.f1) (x0.f2) (x0.f3) (x0.f4) (x0.f5) (x0.f6) = some true := by
 obtain ⟨ki, sc, sub, hos, po, pa, no⟩ := x0
 have wpo := wf_i64t hw0.2.2.2.2.1
 obtain ⟨sc, rfl⟩ := ba_of sc
 obtain ⟨hos, rfl⟩ := ba_of hos
 obtain ⟨pa, rfl⟩ := ba_of pa
 obtain ⟨no, rfl⟩ := ba_of no
 simp only [sz23, ba_size'] at hb
 simp only at wpo ⊢
 clear hw0
 have hp := short11_len pa
 have hn := short11_len no
 have sy : Src8.Small ⟨ki, sc, sub, hos, po, short11 pa, short11 no⟩ := ⟨by simp only; omega, by simp only; omega, by simp only; omega, by simp only; omega, wpo⟩
 have hc := cutP ⟨ki, sc, sub, hos, po, pa, no⟩ (by simp only; omega) (by simp only; omega)
 have g1 := progGoodS _ sy
 have g2 := refGoodS _ sy
 have t1 := progTextS _ sy
 have t2 := refTextS _ sy
 refine Ev.rounds (g := fun k => pursuivantlaw11_SourceTexts.f k ki (ba sc) sub (ba hos) po (ba pa) (ba no)) ?_
 unfold pursuivantlaw11_SourceTexts.f
 refine Ev.bind awake11 (Ev.if_pos rfl (Ev.some_bind (fun _ => hc) (Ev.bind g1 (Ev.some_bind (fun _ => hc) (Ev.bind g2 (Ev.if_pos (by simp) (Ev.some_bind (fun _ => hc) (Ev.bind t1 (Ev.some_bind (fun _ => hc) (Ev.bind t2 ?_))))))))))
 have e : ∀ s : ByteArray, (s.toList == s.toList) = true := fun s => by simp
 rw [e]
 exact Ev.now _
end Go.Proofs.YtfibkgmbgdaeoaaDoor.Hand
