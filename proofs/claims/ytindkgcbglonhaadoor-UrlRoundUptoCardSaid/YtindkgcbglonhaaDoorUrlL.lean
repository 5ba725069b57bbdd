/- The law UrlRound in plain Lean: text and parse come back of each other. Conditions: at most 2^20 bytes of bulk. -/
import Derived.Test.YtindkgcbglonhaaDoorUrlA
import Derived.Test.YtindkgcbglonhaaDoorUrlR
namespace Go.Proofs.YtindkgcbglonhaaDoor.Hand
open Go.RowKit Go.Proofs.YtindkgcbglonhaaDoorW.PrintWords Go.Proofs.YtindkgcbglonhaaDoorW.PrintLast Go.Proofs.YtindkgcbglonhaaDoorW.PrintMore
set_option linter.unusedVariables false
set_option linter.unusedSimpArgs false

theorem U8.Good.small {u : U8} (h : u.Good) : u.Small := by
  have h1 := h.all
  have h2 := h.usl
  rw [U8.textLen] at h1
  simp only [U8.bare] at h1
  have hq : u.qu.length ≤ 1024 := by
    rcases h.hq with c | c
    · rw [c] at h1; simp only [qLen, if_true, List.length_cons] at h1; omega
    · rw [c]; simp
  have hf : u.fr.length ≤ 1024 := by
    rcases h.hf with c | c
    · rw [c] at h1; simp only [qLen, if_true, List.length_cons] at h1; omega
    · rw [c]; simp
  constructor <;> omega
theorem U8.Good.len {u : U8} (h : u.Good) : u.text.length ≤ 1153 := by
  have h1 := h.all
  have h2 := h.usl
  have h3 := bare_length u
  split at h3 <;> omega
theorem U8.Good.port {u : U8} (h : u.Good) : u.port > 0 := by
  have h1 := h.po
  unfold U8.port
  split
  · rcases def8_sc h.sc with e | e <;> rw [e] <;> decide
  · omega
theorem U8.textG_good {u : U8} (h : u.good = true) : u.textG = u.text := if_pos h
theorem round_j0 (s : List UInt8) (hs : s.length ≤ 109951162) : Ev (fun k => pursuivantlaw06_UrlRound.j0 k (ba s)) true := by
  refine Ev.step (fun k => by rw [pursuivantlaw06_UrlRound.j0]) ?_
  have hp := progParse s hs
  rcases parse8_cases s with h | ⟨h1, h2, h3⟩
  · rw [h] at hp
    refine Ev.bind hp (Ev.if_neg (by simp only [U8.tup]; split <;> decide) (Ev.bind awake6 (Ev.if_pos rfl ?_)))
    refine Ev.if_pos (by simp [U8.tup, U8.none]) ?_
    rw [ba_size']
    by_cases c : s.length > 1161
    · rw [if_pos c, decide_eq_true (show (s.length : Int) > 1161 by omega)]; exact Ev.now _
    · rw [if_neg c, decide_eq_false (show ¬(s.length : Int) > 1161 by omega)]; exact Ev.now _
  · obtain ⟨⟨u, e⟩, hu⟩ : ∃ p, parse8 s = p := ⟨_, rfl⟩
    rw [hu] at hp h1 h2 h3
    simp only at h1 h2 h3
    subst h1
    have hg := (U8.good_iff u).1 h2
    have ht := progTextG u hg.small
    rw [U8.textG_good h2] at ht
    have hp2 := progParse u.text (by have := hg.len; omega)
    rw [parse8_text u h2] at hp2
    have hgd := progGood u hg.small
    rw [h2] at hgd
    refine Ev.bind hp (Ev.if_pos rfl (Ev.bind ht (Ev.bind hp2 (Ev.bind awake6 (Ev.if_pos rfl (Ev.bind hgd (Ev.if_pos rfl (Ev.bind ht (Ev.if_pos ?_ (Ev.if_pos rfl (Ev.if_pos (by simp) (Ev.some_bind (fun _ => progPortU u) ?_))))))))))))
    · rw [ba_size', ba_size', wrap_ok _ (by omega) (by omega)]; omega
    · rw [decide_eq_true hg.port]; exact Ev.now _
theorem urlRound_pure (x0 : S39) (x1 : ByteArray) (hb : sz39 x0 + (fun s : ByteArray => s.size + 1) x1 ≤ 1048576) (hw0 : wf39 x0) (hw1 : (fun _ => True) x1) :
    ∃ k, pursuivantlaw06_UrlRound.f k x0.f0 x0.f1 x0.f2 x0.f3 x0.f4 x0.f5 x0.f6 x0.f7 x0.f8 x1 = some true := by
  have hs : (u8of x0).Small := u8of_small x0 1048576 (by omega) (by simp only [sz39] at hb; omega)
  refine Ev.get' (?_ : Ev (fun k => pursuivantlaw06_UrlRound.f k x0.f0 x0.f1 x0.f2 x0.f3 x0.f4 x0.f5 x0.f6 x0.f7 x0.f8 x1) true)
  have g1 := progGood (u8of x0) hs
  have t1 := progTextG (u8of x0) hs
  have hj := round_j0 x1.toList (by rw [size_toList]; simp only [sz39] at hb; omega)
  rw [ba_toList] at hj
  by_cases hg : (u8of x0).good = true
  · rw [hg] at g1
    rw [U8.textG_good hg] at t1
    have hG := (U8.good_iff _).1 hg
    have hp2 := progParse (u8of x0).text (by have := hG.len; omega)
    rw [parse8_text _ hg] at hp2
    simp only [u8of, ba_toList] at g1 t1
    unfold pursuivantlaw06_UrlRound.f
    refine Ev.bind g1 (Ev.if_pos rfl (Ev.bind t1 (Ev.bind hp2 (Ev.if_pos rfl (Ev.if_neg (by simp [U8.tup, u8of, ba_toList]) hj)))))
  · rw [show (u8of x0).good = false from by simpa using hg] at g1
    simp only [u8of, ba_toList] at g1
    unfold pursuivantlaw06_UrlRound.f
    exact Ev.bind g1 (Ev.if_neg (by simp) hj)
end Go.Proofs.YtindkgcbglonhaaDoor.Hand
