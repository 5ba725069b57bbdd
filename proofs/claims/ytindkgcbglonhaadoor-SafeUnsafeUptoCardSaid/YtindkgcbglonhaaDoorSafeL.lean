/- The plain laws of safe. -/
import Derived.Test.YtindkgcbglonhaaDoorSafeS
import Derived.Test.YtindkgcbglonhaaDoorFS1
import Derived.Test.YtindkgcbglonhaaDoorOpens
namespace Go.Proofs.YtindkgcbglonhaaDoor.Hand
open Go.RowKit Go.Proofs.YtindkgcbglonhaaDoorW.PrintWords Go.Proofs.YtindkgcbglonhaaDoorW.PrintLast Go.Proofs.YtindkgcbglonhaaDoorW.PrintMore
set_option linter.unusedVariables false
set_option linter.unusedSimpArgs false

theorem awake10 : Ev (fun k => pursuivantlaw10_awake.f k) true := by
  unfold pursuivantlaw10_awake.f
  refine Ev.some_bind (fun _ => progMethod [103, 101, 116] (by decide)) (Ev.if_pos (by decide +kernel) ?_)
  refine Ev.some_bind (fun _ => progMethod [112, 97, 116, 99, 104] (by decide)) (Ev.if_pos (by decide +kernel) ?_)
  refine Ev.some_bind (fun _ => progBad [116, 114, 97, 99, 101] (by decide)) (Ev.if_pos (by decide +kernel) ?_)
  refine Ev.some_bind (fun _ => progSimple [72, 69, 65, 68]) (Ev.if_pos (by decide +kernel) ?_)
  refine Ev.some_bind (fun _ => progSimple [80, 85, 84]) (Ev.if_neg (by decide +kernel) ?_)
  refine Ev.bind (progForb [83, 101, 99, 45, 88] (by decide)) (Ev.if_pos (by decide +kernel) ?_)
  refine Ev.bind (progForb [88, 45, 83, 101, 99, 45] (by decide)) (Ev.if_neg (by decide +kernel) ?_)
  refine Ev.bind (progHeader hCT [116, 101, 120, 116, 47, 112, 108, 97, 105, 110, 59, 99, 104, 97, 114, 115, 101, 116, 61, 117, 116, 102, 45, 56] (by decide) (by decide)) (Ev.if_pos (by decide +kernel) ?_)
  refine Ev.bind (progUnsafe [⟨ba [88, 45, 66], ba []⟩, ⟨ba [65, 99, 99, 101, 112, 116], ba [97]⟩, ⟨ba [120, 45, 97], ba []⟩, ⟨ba [120, 45, 98], ba []⟩, ⟨ba [67, 111, 110, 116, 101, 110, 116, 45, 84, 121, 112, 101], ba [97, 112, 112, 108, 105, 99, 97, 116, 105, 111, 110, 47, 106, 115, 111, 110]⟩] (by decide) (by
    intro h hh
    simp only [List.mem_cons, List.not_mem_nil, or_false] at hh
    rcases hh with rfl | rfl | rfl | rfl | rfl <;> exact ⟨by decide, by decide⟩)) ?_
  have e : sortS (badL [⟨ba [88, 45, 66], ba []⟩, ⟨ba [65, 99, 99, 101, 112, 116], ba [97]⟩, ⟨ba [120, 45, 97], ba []⟩, ⟨ba [120, 45, 98], ba []⟩, ⟨ba [67, 111, 110, 116, 101, 110, 116, 45, 84, 121, 112, 101], ba [97, 112, 112, 108, 105, 99, 97, 116, 105, 111, 110, 47, 106, 115, 111, 110]⟩]) = [hCT, [120, 45, 97], [120, 45, 98]] :=
    strict_unique _ _ (sortS_strict _) (by decide +kernel) (fun x => by
      rw [mem_sortS]
      have : badL [⟨ba [88, 45, 66], ba []⟩, ⟨ba [65, 99, 99, 101, 112, 116], ba [97]⟩, ⟨ba [120, 45, 97], ba []⟩, ⟨ba [120, 45, 98], ba []⟩, ⟨ba [67, 111, 110, 116, 101, 110, 116, 45, 84, 121, 112, 101], ba [97, 112, 112, 108, 105, 99, 97, 116, 105, 111, 110, 47, 106, 115, 111, 110]⟩] = [[120, 45, 98], [120, 45, 97], [120, 45, 98], hCT] := by decide +kernel
      rw [this]
      simp only [List.mem_cons, List.not_mem_nil, or_false]
      constructor
      · rintro (h | h | h | h) <;> simp [h]
      · rintro (h | h | h) <;> simp [h])
  rw [e]
  exact Ev.bind (refSame [hCT, [120, 45, 97], [120, 45, 98]] (by decide)) (Ev.now _)
theorem small_of {l : List Hd} {n : Nat} (h : (l.map sz31).sum ≤ n) (hn : n ≤ 1099511627) : (∀ x ∈ l, small x) ∧ l.length ≤ n := by
  induction l generalizing n with
  | nil => simp
  | cons y r ih =>
    simp only [List.map_cons, List.sum_cons] at h
    have e : sz31 y = y.f0.size + 1 + (y.f1.size + 1) + 1 := rfl
    have := ih (n := n - sz31 y) (by omega) (by omega)
    refine ⟨fun x hx => ?_, by simp; omega⟩
    rcases List.mem_cons.1 hx with rfl | hx
    · exact ⟨by omega, by omega⟩
    · exact this.1 x hx
theorem rdH_mid (p q : List Hd) (x : Hd) : rd_T31 (p ++ x :: q) (p.length : Int) = x := by simp [rd_T31, List.getD_eq_getElem?_getD]
theorem badL_rev (l : List Hd) (x : Tx) : x ∈ badL l.reverse ↔ x ∈ badL l := by unfold badL; simp
theorem badL_filter (l : List Hd) : badL (l.filter fun h => !anyw h) = badL l := by unfold badL; rw [List.filter_filter]; simp
theorem safeUnsafe_go (l : List Hd) (hl : l.length ≤ 1048576) (hs : ∀ h ∈ l, small h) : ∀ (q r : List Hd), l = q.reverse ++ r →
    Ev (fun k => pursuivantlaw10_SafeUnsafe.l0 k l r.reverse (r.filter fun h => !anyw h).reverse ((q.length : Int) - 1)) true := by
  intro q
  induction q with
  | nil =>
    intro r h
    simp only [List.reverse_nil, List.nil_append] at h
    subst h
    refine Ev.step (fun k => by rw [pursuivantlaw10_SafeUnsafe.l0]) ?_
    refine Ev.if_neg (by decide) ?_
    have hu : (sortS (badL l)).length ≤ 1099511627776 := Nat.le_trans (sortS_length _) (Nat.le_trans (badL_length l) (by omega))
    have e1 : sortS (badL l.reverse) = sortS (badL l) := sortS_same _ _ (badL_rev l)
    have e2 : sortS (badL (l.filter fun h => !anyw h).reverse) = sortS (badL l) := sortS_same _ _ (fun x => by rw [badL_rev, badL_filter])
    have hf := List.length_filter_le (fun h => !anyw h) l
    refine Ev.bind (progUnsafe l (by omega) hs) (Ev.bind awake10 (Ev.if_pos rfl (Ev.bind (refUnsafe l (by omega) hs) (Ev.bind (refSame _ hu) (Ev.if_pos rfl ?_)))))
    refine Ev.bind (progUnsafe l.reverse (by rw [List.length_reverse]; omega) (fun x hx => hs x (by simpa using hx))) ?_
    rw [e1]
    refine Ev.bind (refSame _ hu) (Ev.if_pos rfl ?_)
    refine Ev.bind (progUnsafe (l.filter fun h => !anyw h).reverse (by rw [List.length_reverse]; omega) (fun x hx => hs x (by simp at hx; exact hx.1))) ?_
    rw [e2]
    exact Ev.bind (refSame _ hu) (Ev.now _)
  | cons c q ih =>
    intro r h
    rw [List.reverse_cons, List.append_assoc, List.singleton_append] at h
    have hn := ih (c :: r) h
    have hlen : l.length = q.length + (r.length + 1) := by rw [h]; simp
    have hx : ((c :: q).length : Int) - 1 = (q.length : Int) := by simp
    rw [hx]
    refine Ev.step (fun k => by rw [pursuivantlaw10_SafeUnsafe.l0]) ?_
    have hrd : rd_T31 l (q.length : Int) = c := by
      have := rdH_mid q.reverse r c
      rwa [List.length_reverse, ← h] at this
    simp only [hrd]
    rw [wrap_ok _ (by omega) (by omega)]
    have hf := List.length_filter_le (fun h => !anyw h) r
    refine Ev.if_pos (by omega) (Ev.if_pos (by omega) (Ev.if_pos (by omega) (Ev.if_pos (by simp; omega) ?_)))
    refine Ev.some_bind (fun _ => rfl) (Ev.bind (progHeader' c (hs c (by rw [h]; simp))) ?_)
    rw [List.reverse_cons] at hn
    refine Ev.ite (fun e => ?_) (fun e => ?_)
    · rw [List.filter_cons, e] at hn
      exact hn
    · rw [List.filter_cons, show anyw c = false from by simpa using e] at hn
      refine Ev.if_pos (by simp; omega) ?_
      simpa using hn
theorem safeUnsafe_pure (x0 : List S31) (hb : (fun l => (l.map sz31).sum + 1) x0 ≤ 1048576) (hw0 : (fun l => ∀ x ∈ l, wf31 x) x0) : ∃ k, pursuivantlaw10_SafeUnsafe.f k x0 = some true := by
  have hb1 : (x0.map sz31).sum + 1 ≤ 1048576 := hb
  obtain ⟨hs, hl⟩ := small_of (l := x0) (n := 1048575) (by omega) (by omega)
  apply Ev.rounds
  unfold pursuivantlaw10_SafeUnsafe.f
  have fin : ∀ l : List Hd, l.length ≤ 1048576 → (∀ h ∈ l, small h) → Ev (fun k => pursuivantlaw10_SafeUnsafe.j0 k l) true := by
    intro l hl hs
    refine Ev.step (fun k => by rw [pursuivantlaw10_SafeUnsafe.j0]) ?_
    have := safeUnsafe_go l hl hs l.reverse [] (by simp)
    rw [wrap_ok _ (by omega) (by omega)]
    simpa using this
  refine Ev.ite (fun h => ?_) (fun h => ?_)
  · exact Ev.if_pos (by omega) (fin _ (by rw [List.length_take]; omega) (fun x hx => hs x (List.mem_of_mem_take hx)))
  · exact fin _ (by omega) hs
end Go.Proofs.YtindkgcbglonhaaDoor.Hand
