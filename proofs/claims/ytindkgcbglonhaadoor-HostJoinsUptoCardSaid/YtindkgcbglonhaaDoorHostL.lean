/- The plain laws of host. -/
import Derived.Test.YtindkgcbglonhaaDoorFH1
import Derived.Test.YtindkgcbglonhaaDoorHostF
import Derived.Test.YtindkgcbglonhaaDoorHostN
import Derived.Test.YtindkgcbglonhaaDoorOpens
namespace Go.Proofs.YtindkgcbglonhaaDoor.Hand
open Go.RowKit Go.Proofs.YtindkgcbglonhaaDoorW.PrintWords Go.Proofs.YtindkgcbglonhaaDoorW.PrintLast Go.Proofs.YtindkgcbglonhaaDoorW.PrintMore
set_option linter.unusedVariables false
set_option linter.unusedSimpArgs false

def under8 (s t : List UInt8) : Bool := host8 s && host8 t && Lib.hasSuffix s (46 :: t)
theorem suffix_iff (s t : List UInt8) : Lib.hasSuffix s t = true ↔ ∃ p, s = p ++ t := by
  unfold Lib.hasSuffix
  rw [List.isSuffixOf_iff_suffix]
  exact ⟨fun ⟨p, h⟩ => ⟨p, h.symm⟩, fun ⟨p, h⟩ => ⟨p, h.symm⟩⟩
theorem progUnder (s t : List UInt8) (hs : s.length ≤ 1099511627776) (ht : t.length ≤ 1099511627776) : Ev (fun k => host_Under.f k (ba s) (ba t)) (under8 s t) := by
  unfold host_Under.f under8
  refine Ev.bind (progHost s hs) ?_
  by_cases h1 : host8 s = true
  · refine Ev.if_pos h1 (Ev.bind (progHost t ht) ?_)
    by_cases h2 : host8 t = true
    · refine Ev.if_pos h2 (Ev.if_pos (by (first | omega | (simp only [ba_size', List.length_append, List.length_cons, List.length_nil]; omega) | (simp; omega) | (simp; done))) ?_)
      rw [show ((⟨#[46]⟩ : ByteArray) ++ ba t) = ba (46 :: t) from ba_app [46] t]
      unfold strings_HasSuffix.f
      rw [if_pos (by (first | omega | (simp only [ba_size', List.length_append, List.length_cons, List.length_nil]; omega) | (simp; omega) | (simp; done))), ba_data, ba_data, h1, h2]
      simpa using Ev.now _
    · refine Ev.if_neg h2 ?_
      rw [show host8 t = false from by simpa using h2]
      simpa using Ev.now _
  · refine Ev.if_neg h1 ?_
    rw [show host8 s = false from by simpa using h1]
    simpa using Ev.now _
theorem awake5 : Ev (fun k => pursuivantlaw05_awake.f k) true := by
  refine Ev.of (k := 60) pursuivantlaw05_awake.mono ?_
  have p1 : host_Port.f (⟨#[56, 48, 56, 48]⟩ : ByteArray) = some (8080, true) := (progPort [56, 48, 56, 48] (by decide)).trans (by decide +kernel)
  have p2 : host_Port.f (⟨#[48, 56, 48]⟩ : ByteArray) = some (0, false) := (progPort [48, 56, 48] (by decide)).trans (by decide +kernel)
  unfold pursuivantlaw05_awake.f
  rw [p1, p2]
  decide +kernel
theorem splitD_join (d : UInt8) : ∀ s t : List UInt8, splitD d (s ++ d :: t) = splitD d s ++ splitD d t
  | [], t => by simp [splitD]
  | c :: s, t => by
    have ih := splitD_join d s t
    rw [List.cons_append, splitD, splitD]
    by_cases hc : c = d
    · rw [if_pos hc, if_pos hc, ih, List.cons_append]
    · rw [if_neg hc, if_neg hc, ih]
      cases h : splitD d s with
      | nil => exact absurd h (splitD_ne d s)
      | cons x r => rfl
theorem host8_join {s t : List UInt8} (hs : host8 s = true) (ht : host8 t = true) : host8 (s ++ 46 :: t) = decide ((s ++ 46 :: t).length ≤ 253) := by
  unfold host8 at *
  rw [Bool.and_eq_true] at hs ht
  rw [splitD_join, List.all_append, hs.2, ht.2]
  simp
theorem under8_self (s : List UInt8) : under8 s s = false := by
  unfold under8
  have : Lib.hasSuffix s (46 :: s) = false := by
    rw [← Bool.not_eq_true]
    intro h
    obtain ⟨p, hp⟩ := (suffix_iff s _).1 h
    have := congrArg List.length hp
    simp at this; omega
  rw [this, Bool.and_false]
theorem hostJoins_pure (x0 : ByteArray) (x1 : ByteArray) (x2 : ByteArray) (hb : (fun s : ByteArray => s.size + 1) x0 + (fun s : ByteArray => s.size + 1) x1 + (fun s : ByteArray => s.size + 1) x2 ≤ 1048576) (hw0 : (fun _ => True) x0) (hw1 : (fun _ => True) x1) (hw2 : (fun _ => True) x2) : ∃ k, pursuivantlaw05_HostJoins.f k x0 x1 x2 = some true := by
  obtain ⟨s, rfl⟩ := ba_of x0
  obtain ⟨t, rfl⟩ := ba_of x1
  obtain ⟨u, rfl⟩ := ba_of x2
  have hs : s.length ≤ 1048576 := by simp at hb; omega
  have ht : t.length ≤ 1048576 := by simp at hb; omega
  have hu : u.length ≤ 1048576 := by simp at hb; omega
  apply Ev.rounds
  have no : under8 s t = false → Ev (fun k => pursuivantlaw05_HostJoins.j0 k (ba s) (ba t) (ba u) true) true := by
    intro h
    refine Ev.step (fun k => by rw [pursuivantlaw05_HostJoins.j0]) ?_
    refine Ev.if_pos rfl (Ev.bind awake5 (Ev.if_pos rfl (Ev.bind (progUnder s t (by omega) (by omega)) ?_)))
    rw [h]; exact Ev.now _
  unfold pursuivantlaw05_HostJoins.f
  refine Ev.bind (progHost s (by omega)) ?_
  by_cases h1 : host8 s = true
  · refine Ev.if_pos h1 (Ev.bind (progHost t (by omega)) ?_)
    by_cases h2 : host8 t = true
    · rw [h2]
      refine Ev.step (fun k => by rw [pursuivantlaw05_HostJoins.j0]) ?_
      refine Ev.if_neg (by simp) (Ev.if_pos (by (first | omega | (simp only [ba_size', List.length_append, List.length_cons, List.length_nil]; omega) | (simp; omega) | (simp; done))) ?_)
      have e : ((ba s ++ (⟨#[46]⟩ : ByteArray)) ++ ba t) = ba (s ++ 46 :: t) := by
        rw [show ba s ++ (⟨#[46]⟩ : ByteArray) = ba (s ++ [46]) from ba_app s [46], ba_app, List.append_assoc]; rfl
      have e0 : (ba s ++ (⟨#[46]⟩ : ByteArray)).size = s.length + 1 := by
        rw [show ba s ++ (⟨#[46]⟩ : ByteArray) = ba (s ++ [46]) from ba_app s [46]]; simp
      rw [e0]
      simp only [e]
      refine Ev.if_pos (by (first | omega | (simp only [ba_size', List.length_append, List.length_cons, List.length_nil]; omega) | (simp; omega) | (simp; done))) ?_
      have hx := host8_join h1 h2
      by_cases h3 : ((ba (s ++ 46 :: t)).size : Int) > 253
      · refine Ev.if_pos h3 (Ev.bind awake5 (Ev.if_pos rfl (Ev.bind (progHost _ (by (first | omega | (simp only [ba_size', List.length_append, List.length_cons, List.length_nil]; omega) | (simp; omega) | (simp; done)))) ?_)))
        rw [hx, decide_eq_false (by rw [ba_size'] at h3; omega)]; exact Ev.now _
      · refine Ev.if_neg h3 (Ev.bind awake5 (Ev.if_pos rfl (Ev.bind (progHost _ (by (first | omega | (simp only [ba_size', List.length_append, List.length_cons, List.length_nil]; omega) | (simp; omega) | (simp; done)))) ?_)))
        rw [decide_eq_true (by rw [ba_size'] at h3; omega)] at hx
        rw [hx]
        refine Ev.if_pos rfl (Ev.bind (progUnder _ t (by (first | omega | (simp only [ba_size', List.length_append, List.length_cons, List.length_nil]; omega) | (simp; omega) | (simp; done))) (by omega)) ?_)
        have u1 : under8 (s ++ 46 :: t) t = true := by unfold under8; rw [hx, h2, (suffix_iff _ _).2 ⟨s, rfl⟩]; rfl
        rw [u1]
        refine Ev.if_pos rfl (Ev.bind (progUnder t _ (by omega) (by (first | omega | (simp only [ba_size', List.length_append, List.length_cons, List.length_nil]; omega) | (simp; omega) | (simp; done)))) ?_)
        have u2 : under8 t (s ++ 46 :: t) = false := by
          unfold under8
          have : Lib.hasSuffix t (46 :: (s ++ 46 :: t)) = false := by
            rw [← Bool.not_eq_true]
            intro h
            obtain ⟨p, hp⟩ := (suffix_iff t _).1 h
            have := congrArg List.length hp
            simp at this; omega
          rw [this, Bool.and_false]
        rw [u2]
        refine Ev.if_neg (by simp) (Ev.bind (progUnder s s (by omega) (by omega)) ?_)
        rw [under8_self]
        refine Ev.if_neg (by simp) (Ev.bind (progUnder t u (by omega) (by omega)) ?_)
        by_cases h4 : under8 t u = true
        · refine Ev.if_pos h4 (Ev.bind (progUnder _ u (by (first | omega | (simp only [ba_size', List.length_append, List.length_cons, List.length_nil]; omega) | (simp; omega) | (simp; done))) (by omega)) ?_)
          have u3 : under8 (s ++ 46 :: t) u = true := by
            unfold under8 at h4 ⊢
            simp only [Bool.and_eq_true] at h4
            obtain ⟨p, hp⟩ := (suffix_iff t _).1 h4.2
            rw [hx, h4.1.2, (suffix_iff _ _).2 ⟨s ++ 46 :: p, by rw [hp]; simp⟩]; rfl
          rw [u3]; exact Ev.now _
        · exact Ev.if_neg h4 (Ev.now _)
    · rw [show host8 t = false from by simpa using h2]
      exact no (by unfold under8; rw [show host8 t = false from by simpa using h2]; simp)
  · exact Ev.if_neg h1 (no (by unfold under8; rw [show host8 s = false from by simpa using h1]; simp))
end Go.Proofs.YtindkgcbglonhaaDoor.Hand
