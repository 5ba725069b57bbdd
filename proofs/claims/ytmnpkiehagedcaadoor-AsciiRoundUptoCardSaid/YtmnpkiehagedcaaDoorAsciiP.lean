/- The plain laws of ascii. -/
import Derived.Test.YtmnpkiehagedcaaDoorAsciiF
import Derived.Test.YtmnpkiehagedcaaDoorAsciiN
import Derived.Test.YtmnpkiehagedcaaDoorOpens
namespace Go.Proofs.YtmnpkiehagedcaaDoor.Hand
open Go.RowKit Go.Proofs.YtmnpkiehagedcaaDoorW.PrintWords Go.Proofs.YtmnpkiehagedcaaDoorW.PrintLast Go.Proofs.YtmnpkiehagedcaaDoorW.PrintMore
set_option linter.unusedVariables false
set_option linter.unusedSimpArgs false

theorem awake4 : Ev (fun k => pursuivantlaw04_awake.f k) true := Ev.of (k := 30) pursuivantlaw04_awake.mono (by decide +kernel)
theorem asciiTurns_pure (x0 : ByteArray) (hb : (fun s : ByteArray => s.size + 1) x0 ≤ 1048576) (hw0 : (fun _ => True) x0) : ∃ k, pursuivantlaw04_AsciiTurns.f k x0 = some true := by
  obtain ⟨l, rfl⟩ := ba_of x0
  have hl : l.length ≤ 1099511627776 := by simp at hb; omega
  apply Ev.rounds
  unfold pursuivantlaw04_AsciiTurns.f
  refine Ev.bind awake4 (Ev.if_pos rfl ?_)
  refine Ev.some_bind (fun _ => progLower l hl) (Ev.bind (refLowerE l hl) (Ev.if_pos rfl ?_))
  refine Ev.some_bind (fun _ => progUpper l hl) (Ev.bind (refUpperE l hl) (Ev.if_pos rfl ?_))
  refine Ev.bind (progToken l hl) (Ev.bind (refToken l hl) (Ev.if_pos (by simp) ?_))
  refine Ev.some_bind (fun _ => progTrim l hl) (Ev.bind (refTrim l hl) ?_)
  simpa using Ev.now _
theorem asciiNumbers_pure (x0 : ByteArray) (x1 : Int) (hb : (fun s : ByteArray => s.size + 1) x0 + (fun _ => 1) x1 ≤ 1048576) (hw0 : (fun _ => True) x0) (hw1 : (fun n => (Lit.int .i64 n).wf = true) x1) : ∃ k, pursuivantlaw04_AsciiNumbers.f k x0 x1 = some true := by
  obtain ⟨l, rfl⟩ := ba_of x0
  have hl : l.length ≤ 1099511627776 := by simp at hb; omega
  apply Ev.rounds
  unfold pursuivantlaw04_AsciiNumbers.f
  by_cases hn : x1 < 0
  · exact Ev.if_pos hn (Ev.bind awake4 (Ev.now _))
  · refine Ev.if_neg hn ?_
    have hw : x1 ≤ 9223372036854775807 := by
      have h := hw1
      simp [Lit.wf, IntKind.min, IntKind.max, IntKind.bits, IntKind.signed] at h
      omega
    obtain ⟨m, rfl⟩ : ∃ m : Nat, x1 = m := ⟨x1.toNat, by omega⟩
    refine Ev.bind (progNumber l m hl (by omega)) (Ev.bind (refNumber l m hl (by omega)) (Ev.bind awake4 (Ev.if_pos rfl (Ev.if_pos rfl ?_))))
    simpa using Ev.now _
theorem asciiLists_pure (x0 : ByteArray) (hb : (fun s : ByteArray => s.size + 1) x0 ≤ 1048576) (hw0 : (fun _ => True) x0) : ∃ k, pursuivantlaw04_AsciiLists.f k x0 = some true := by
  obtain ⟨l, rfl⟩ := ba_of x0
  have hl : l.length ≤ 1048576 := by simp at hb; omega
  apply Ev.rounds
  unfold pursuivantlaw04_AsciiLists.f
  refine Ev.bind awake4 (Ev.if_pos rfl ?_)
  have := list8_length l
  refine Ev.some_bind (fun _ => progList l (by omega)) (Ev.bind (refList l (by omega)) (Ev.bind (refSame _ (by omega)) (Ev.now _)))
theorem asciiRound_go (xs : List (List UInt8)) (hx : ∀ x ∈ xs, x ≠ [] ∧ 44 ∉ x ∧ trim8 x = x ∧ x.length ≤ 1048576) : ∀ (d : Nat) (q p : List (List UInt8)), q.length = d → xs = p ++ q → xs.length ≤ 1099511627776 →
    Ev (fun k => pursuivantlaw04_AsciiRound.l0 k (xs.map ba) (p.length : Int)) true := by
  have ends : Ev (fun k => pursuivantlaw04_AsciiRound.j2 k (xs.map ba) 0 false) true → ∀ i, Ev (fun k => pursuivantlaw04_AsciiRound.j2 k (xs.map ba) i false) true := by
    intro _ i
    refine Ev.step (fun k => by rw [pursuivantlaw04_AsciiRound.j2]) ?_
    exact Ev.if_neg (by simp) (Ev.bind awake4 (Ev.now _))
  have ends' : ∀ i, Ev (fun k => pursuivantlaw04_AsciiRound.j2 k (xs.map ba) i false) true := by
    intro i
    refine Ev.step (fun k => by rw [pursuivantlaw04_AsciiRound.j2]) ?_
    exact Ev.if_neg (by simp) (Ev.bind awake4 (Ev.now _))
  intro d
  induction d with
  | zero =>
    intro q p hd e h
    obtain rfl := List.length_eq_zero_iff.1 hd
    refine Ev.step (fun k => by rw [pursuivantlaw04_AsciiRound.l0]) ?_
    refine Ev.if_neg (by rw [e]; simp) (ends' _)
  | succ d ih =>
    intro q p hd e h
    obtain ⟨x, q, rfl⟩ : ∃ x r, q = x :: r := by cases q with | nil => simp at hd | cons x r => exact ⟨x, r, rfl⟩
    have hl : p.length < xs.length := by rw [e]; simp
    refine Ev.step (fun k => by rw [pursuivantlaw04_AsciiRound.l0]) ?_
    refine Ev.if_pos (by simp; omega) ?_
    by_cases h50 : (p.length : Int) < 50
    · rw [decide_eq_true h50]
      refine Ev.step (fun k => by rw [pursuivantlaw04_AsciiRound.j2]) ?_
      obtain ⟨h0, h1, h2, h3⟩ := hx x (by rw [e]; simp)
      have hr : rdOf ByteArray.empty (xs.map ba) (p.length : Int) = ba x := by
        unfold rdOf
        rw [Int.toNat_natCast, e, List.getD_eq_getElem?_getD]; simp
      rw [hr]
      refine Ev.if_pos rfl (Ev.if_pos (by omega) (Ev.if_pos (by simp; omega) (Ev.if_neg (by simpa using h0) ?_)))
      refine Ev.some_bind (fun _ => progTrim x (by omega)) ?_
      rw [h2]
      refine Ev.if_pos rfl ?_
      refine Ev.some_bind (fun _ => progList x (by omega)) ?_
      rw [list8_one h0 h1 h2]
      refine Ev.bind (refSame [x] (by simp)) (Ev.if_pos rfl ?_)
      rw [wrap_nat _ (by omega)]
      have := ih q (p ++ [x]) (by simpa using hd) (by rw [e]; simp) h
      simpa using this
    · rw [decide_eq_false h50]
      exact ends' _
theorem asciiRound_pure (x0 : ByteArray) (hb : (fun s : ByteArray => s.size + 1) x0 ≤ 1048576) (hw0 : (fun _ => True) x0) : ∃ k, pursuivantlaw04_AsciiRound.f k x0 = some true := by
  obtain ⟨l, rfl⟩ := ba_of x0
  have hl : l.length ≤ 1048576 := by simp at hb; omega
  have hl' : l.length ≤ 1099511627776 := by omega
  have e1 : (l.map up8).map low8 = l.map low8 := by rw [List.map_map]; exact List.map_congr_left fun c _ => low8_up8 c
  have e2 : (l.map low8).map up8 = l.map up8 := by rw [List.map_map]; exact List.map_congr_left fun c _ => up8_low8 c
  apply Ev.rounds
  unfold pursuivantlaw04_AsciiRound.f
  refine Ev.some_bind (fun _ => progUpper l hl') (Ev.some_bind (fun _ => progLower _ (by simpa using hl')) ?_)
  rw [e1]
  refine Ev.some_bind (fun _ => progLower l hl') (Ev.if_pos rfl ?_)
  refine Ev.some_bind (fun _ => progLower l hl') (Ev.some_bind (fun _ => progUpper _ (by simpa using hl')) ?_)
  rw [e2]
  refine Ev.some_bind (fun _ => progUpper l hl') (Ev.if_pos rfl ?_)
  refine Ev.some_bind (fun _ => progLower l hl') ?_
  rw [show (((ba (l.map low8)).size : Int) != ((ba l).size : Int)) = false from by simp]
  refine Ev.step (fun k => by rw [pursuivantlaw04_AsciiRound.j0]) ?_
  refine Ev.if_neg (by simp) ?_
  refine Ev.some_bind (fun _ => progList l (by omega)) ?_
  have := list8_length l
  have := asciiRound_go (list8 l) (fun x h => by
    obtain ⟨h0, h1, h2, _, h4⟩ := list8_mem h
    exact ⟨h0, h1, h2, by omega⟩) _ (list8 l) [] rfl rfl (by omega)
  exact this
end Go.Proofs.YtmnpkiehagedcaaDoor.Hand
