/- The plain laws of host. -/
import Derived.Test.YtindkgcbglonhaaDoorFH1
import Derived.Test.YtindkgcbglonhaaDoorHostF
import Derived.Test.YtindkgcbglonhaaDoorHostN
import Derived.Test.YtindkgcbglonhaaDoorOpens
namespace Go.Proofs.YtindkgcbglonhaaDoor.Hand
open Go.RowKit Go.Proofs.YtindkgcbglonhaaDoorW.PrintWords Go.Proofs.YtindkgcbglonhaaDoorW.PrintLast Go.Proofs.YtindkgcbglonhaaDoorW.PrintMore
set_option linter.unusedVariables false
set_option linter.unusedSimpArgs false

def under8 (s t : List UInt8) : Bool := host8 s && host8 t && Lib.hasSuffix s (46 :: t)
theorem suffix_iff (s t : List UInt8) : Lib.hasSuffix s t = true ↔ ∃ p, s = p ++ t := by
  unfold Lib.hasSuffix
  rw [List.isSuffixOf_iff_suffix]
  exact ⟨fun ⟨p, h⟩ => ⟨p, h.symm⟩, fun ⟨p, h⟩ => ⟨p, h.symm⟩⟩
theorem progUnder (s t : List UInt8) (hs : s.length ≤ 1099511627776) (ht : t.length ≤ 1099511627776) : Ev (fun k => host_Under.f k (ba s) (ba t)) (under8 s t) := by
  unfold host_Under.f under8
  refine Ev.bind (progHost s hs) ?_
  by_cases h1 : host8 s = true
  · refine Ev.if_pos h1 (Ev.bind (progHost t ht) ?_)
    by_cases h2 : host8 t = true
    · refine Ev.if_pos h2 (Ev.if_pos (by (first | omega | (simp only [ba_size', List.length_append, List.length_cons, List.length_nil]; omega) | (simp; omega) | (simp; done))) ?_)
      rw [show ((⟨#[46]⟩ : ByteArray) ++ ba t) = ba (46 :: t) from ba_app [46] t]
      unfold strings_HasSuffix.f
      rw [if_pos (by (first | omega | (simp only [ba_size', List.length_append, List.length_cons, List.length_nil]; omega) | (simp; omega) | (simp; done))), ba_data, ba_data, h1, h2]
      simpa using Ev.now _
    · refine Ev.if_neg h2 ?_
      rw [show host8 t = false from by simpa using h2]
      simpa using Ev.now _
  · refine Ev.if_neg h1 ?_
    rw [show host8 s = false from by simpa using h1]
    simpa using Ev.now _
theorem refUnder (s t : List UInt8) (hs : s.length ≤ 1099511627776) (ht : t.length ≤ 1099511627776) : Ev (fun k => pursuivantref05_Under.f k (ba s) (ba t)) (under8 s t) := by
  unfold pursuivantref05_Under.f under8
  refine Ev.bind (refHost s hs) ?_
  by_cases h1 : host8 s = true
  · refine Ev.if_pos h1 (Ev.bind (refHost t ht) ?_)
    rw [h1, Bool.true_and]
    by_cases h2 : host8 t = true
    · refine Ev.if_pos h2 ?_
      rw [h2, Bool.true_and]
      have hw : wrap64 (((ba s).size : Int) - ((ba t).size : Int)) = (s.length : Int) - t.length := by rw [ba_size', ba_size', wrap_ok] <;> omega
      rw [hw]
      have no : (¬ ∃ p, s = p ++ 46 :: t) → Lib.hasSuffix s (46 :: t) = false := fun h => by
        rw [← Bool.not_eq_true]; exact fun e => h ((suffix_iff s _).1 e)
      by_cases h3 : (s.length : Int) - t.length > 0
      · obtain ⟨n, hn⟩ : ∃ n : Nat, s.length = n + 1 + t.length := ⟨s.length - t.length - 1, by omega⟩
        have e1 : (s.length : Int) - t.length = ((n + 1 : Nat) : Int) := by omega
        rw [e1] at h3 ⊢
        refine Ev.if_pos h3 (Ev.if_pos (by omega) (Ev.if_pos (by rw [ba_size']; omega) ?_))
        rw [Int.toNat_natCast, ba_extract, ba_list, ba_list, List.take_of_length_le (by rw [List.length_drop, ba_size']; omega)]
        by_cases h4 : s.drop (n + 1) = t
        · refine Ev.if_pos h4 ?_
          have hw2 : wrap64 (((n + 1 : Nat) : Int) - 1) = (n : Int) := by rw [wrap_ok] <;> omega
          rw [hw2]
          refine Ev.if_pos (by omega) (Ev.if_pos (by rw [ba_size']; omega) ?_)
          obtain ⟨c, hc⟩ : ∃ c, s = s.take n ++ c :: t := by
            have h5 : n < s.length := by omega
            refine ⟨s[n], ?_⟩
            rw [← h4, ← List.drop_eq_getElem_cons h5, List.take_append_drop]
          have hl : (s.take n).length = n := by rw [List.length_take]; omega
          have hb : bt (ba s) (n : Int) = (c.toNat : Int) := by
            have := bt_mid (s.take n) c t
            rw [hl, ← hc] at this; exact this
          rw [hb]
          have hv : ((c.toNat : Int) == 46) = Lib.hasSuffix s (46 :: t) := by
            by_cases h6 : c = 46
            · subst h6
              rw [(suffix_iff s _).2 ⟨_, hc⟩]; rfl
            · rw [no (fun ⟨p, hp⟩ => h6 (by
                rw [hc] at hp
                have := (List.append_inj' hp rfl).2
                injection this))]
              simpa using fun h => h6 ((c_eq c 46 (by omega)).1 h)
          rw [hv]; exact Ev.now _
        · refine Ev.if_neg h4 ?_
          rw [no (fun ⟨p, hp⟩ => h4 (by
            subst hp
            have : p.length = n := by simp at hn; omega
            subst this
            simp))]
          exact Ev.now _
      · refine Ev.if_neg h3 ?_
        rw [no (fun ⟨p, hp⟩ => by subst hp; simp at h3; omega)]; exact Ev.now _
    · refine Ev.if_neg h2 ?_
      rw [show host8 t = false from by simpa using h2]
      simpa using Ev.now _
  · refine Ev.if_neg h1 ?_
    rw [show host8 s = false from by simpa using h1]
    simpa using Ev.now _
theorem awake5 : Ev (fun k => pursuivantlaw05_awake.f k) true := by
  refine Ev.of (k := 60) pursuivantlaw05_awake.mono ?_
  have p1 : host_Port.f (⟨#[56, 48, 56, 48]⟩ : ByteArray) = some (8080, true) := (progPort [56, 48, 56, 48] (by decide)).trans (by decide +kernel)
  have p2 : host_Port.f (⟨#[48, 56, 48]⟩ : ByteArray) = some (0, false) := (progPort [48, 56, 48] (by decide)).trans (by decide +kernel)
  unfold pursuivantlaw05_awake.f
  rw [p1, p2]
  decide +kernel
theorem hostGoods_pure (x0 : ByteArray) (x1 : ByteArray) (hb : (fun s : ByteArray => s.size + 1) x0 + (fun s : ByteArray => s.size + 1) x1 ≤ 1048576) (hw0 : (fun _ => True) x0) (hw1 : (fun _ => True) x1) : ∃ k, pursuivantlaw05_HostGoods.f k x0 x1 = some true := by
  obtain ⟨s, rfl⟩ := ba_of x0
  obtain ⟨t, rfl⟩ := ba_of x1
  have hs : s.length ≤ 1099511627776 := by simp at hb; omega
  have ht : t.length ≤ 1099511627776 := by simp at hb; omega
  apply Ev.rounds
  unfold pursuivantlaw05_HostGoods.f
  refine Ev.bind awake5 (Ev.if_pos rfl (Ev.bind (progHost s hs) (Ev.bind (refHost s hs) (Ev.if_pos (by simp) (Ev.bind (progUnder s t hs ht) (Ev.bind (refUnder s t hs ht) ?_))))))
  simpa using Ev.now _
end Go.Proofs.YtindkgcbglonhaaDoor.Hand
