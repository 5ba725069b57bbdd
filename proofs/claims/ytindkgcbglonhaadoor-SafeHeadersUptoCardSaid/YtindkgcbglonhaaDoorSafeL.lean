/- The plain laws of safe. -/
import Derived.Test.YtindkgcbglonhaaDoorSafeS
import Derived.Test.YtindkgcbglonhaaDoorFS1
import Derived.Test.YtindkgcbglonhaaDoorOpens
namespace Go.Proofs.YtindkgcbglonhaaDoor.Hand
open Go.RowKit Go.Proofs.YtindkgcbglonhaaDoorW.PrintWords Go.Proofs.YtindkgcbglonhaaDoorW.PrintLast Go.Proofs.YtindkgcbglonhaaDoorW.PrintMore
set_option linter.unusedVariables false
set_option linter.unusedSimpArgs false

theorem awake10 : Ev (fun k => pursuivantlaw10_awake.f k) true := by
  unfold pursuivantlaw10_awake.f
  refine Ev.some_bind (fun _ => progMethod [103, 101, 116] (by decide)) (Ev.if_pos (by decide +kernel) ?_)
  refine Ev.some_bind (fun _ => progMethod [112, 97, 116, 99, 104] (by decide)) (Ev.if_pos (by decide +kernel) ?_)
  refine Ev.some_bind (fun _ => progBad [116, 114, 97, 99, 101] (by decide)) (Ev.if_pos (by decide +kernel) ?_)
  refine Ev.some_bind (fun _ => progSimple [72, 69, 65, 68]) (Ev.if_pos (by decide +kernel) ?_)
  refine Ev.some_bind (fun _ => progSimple [80, 85, 84]) (Ev.if_neg (by decide +kernel) ?_)
  refine Ev.bind (progForb [83, 101, 99, 45, 88] (by decide)) (Ev.if_pos (by decide +kernel) ?_)
  refine Ev.bind (progForb [88, 45, 83, 101, 99, 45] (by decide)) (Ev.if_neg (by decide +kernel) ?_)
  refine Ev.bind (progHeader hCT [116, 101, 120, 116, 47, 112, 108, 97, 105, 110, 59, 99, 104, 97, 114, 115, 101, 116, 61, 117, 116, 102, 45, 56] (by decide) (by decide)) (Ev.if_pos (by decide +kernel) ?_)
  refine Ev.bind (progUnsafe [⟨ba [88, 45, 66], ba []⟩, ⟨ba [65, 99, 99, 101, 112, 116], ba [97]⟩, ⟨ba [120, 45, 97], ba []⟩, ⟨ba [120, 45, 98], ba []⟩, ⟨ba [67, 111, 110, 116, 101, 110, 116, 45, 84, 121, 112, 101], ba [97, 112, 112, 108, 105, 99, 97, 116, 105, 111, 110, 47, 106, 115, 111, 110]⟩] (by decide) (by
    intro h hh
    simp only [List.mem_cons, List.not_mem_nil, or_false] at hh
    rcases hh with rfl | rfl | rfl | rfl | rfl <;> exact ⟨by decide, by decide⟩)) ?_
  have e : sortS (badL [⟨ba [88, 45, 66], ba []⟩, ⟨ba [65, 99, 99, 101, 112, 116], ba [97]⟩, ⟨ba [120, 45, 97], ba []⟩, ⟨ba [120, 45, 98], ba []⟩, ⟨ba [67, 111, 110, 116, 101, 110, 116, 45, 84, 121, 112, 101], ba [97, 112, 112, 108, 105, 99, 97, 116, 105, 111, 110, 47, 106, 115, 111, 110]⟩]) = [hCT, [120, 45, 97], [120, 45, 98]] :=
    strict_unique _ _ (sortS_strict _) (by decide +kernel) (fun x => by
      rw [mem_sortS]
      have : badL [⟨ba [88, 45, 66], ba []⟩, ⟨ba [65, 99, 99, 101, 112, 116], ba [97]⟩, ⟨ba [120, 45, 97], ba []⟩, ⟨ba [120, 45, 98], ba []⟩, ⟨ba [67, 111, 110, 116, 101, 110, 116, 45, 84, 121, 112, 101], ba [97, 112, 112, 108, 105, 99, 97, 116, 105, 111, 110, 47, 106, 115, 111, 110]⟩] = [[120, 45, 98], [120, 45, 97], [120, 45, 98], hCT] := by decide +kernel
      rw [this]
      simp only [List.mem_cons, List.not_mem_nil, or_false]
      constructor
      · rintro (h | h | h | h) <;> simp [h]
      · rintro (h | h | h) <;> simp [h])
  rw [e]
  exact Ev.bind (refSame [hCT, [120, 45, 97], [120, 45, 98]] (by decide)) (Ev.now _)
theorem safeHeaders_pure (x0 : S31) (hb : sz31 x0 ≤ 1048576) (hw0 : wf31 x0) : ∃ k, pursuivantlaw10_SafeHeaders.f k (x0.f0) (x0.f1) = some true := by
  have hs : small x0 := by
    have : x0.f0.size + 1 + (x0.f1.size + 1) + 1 ≤ 1048576 := hb
    exact ⟨by omega, by omega⟩
  apply Ev.rounds
  unfold pursuivantlaw10_SafeHeaders.f
  refine Ev.bind awake10 (Ev.if_pos rfl (Ev.bind (progHeader' x0 hs) (Ev.bind (refHeader' x0 hs) (Ev.if_pos (by simp) ?_))))
  have h1 := progForb (nameL x0) (by rw [nameL_len]; have := hs.1; omega)
  have h2 := refForb (nameL x0) (by rw [nameL_len]; have := hs.1; omega)
  rw [ba_nameL] at h1 h2
  refine Ev.bind h1 (Ev.bind h2 ?_)
  simpa using Ev.now _
end Go.Proofs.YtindkgcbglonhaaDoor.Hand
