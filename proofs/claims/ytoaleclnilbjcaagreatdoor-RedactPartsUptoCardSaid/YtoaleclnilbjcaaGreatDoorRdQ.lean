/- What redact.Headers and its reference compute: the same. Conditions: names and values of at most 2^40 bytes. -/
import Derived.Test.YtoaleclnilbjcaaGreatDoorRdP
namespace Go.Proofs.YtoaleclnilbjcaaGreatDoor.Hand
open Go.RowKit Go.Proofs.YtoaleclnilbjcaaGreatDoorW.PrintWords Go.Proofs.YtoaleclnilbjcaaGreatDoorW.PrintLast Go.Proofs.YtoaleclnilbjcaaGreatDoorW.PrintMore
set_option linter.unusedVariables false
set_option linter.unusedSimpArgs false

theorem baOf (x : ByteArray) : ba x.toList = x := toList_inj'.1 (ba_list _)
theorem baLen (x : ByteArray) : x.toList.length = x.size := by rw [← ba_size', baOf]
abbrev loc8 : List UInt8 := [108, 111, 99, 97, 116, 105, 111, 110]
def redB (v : ByteArray) : ByteArray := ba (red8 v.toList)
def locV (low v : ByteArray) : ByteArray := if (low.toList == loc8) = true ∧ valueB v = true then redB v else v
def redV (n v : ByteArray) : ByteArray := if secretN (lowBA n) = true then (if v.toList.isEmpty = false ∧ valueB v = true then ⟨#[42]⟩ else v) else locV (lowBA n) v
def redH (x : S58) : S58 := ⟨x.f0, redV x.f0 x.f1⟩
theorem progURLB (v : ByteArray) (h : v.size ≤ 1099511627776) : Ev (fun k => redact_URL.f k v) (redB v) := by
 have := progURL v.toList (by rw [baLen]; exact h)
 rwa [baOf] at this
theorem refURLB (v : ByteArray) (h : v.size ≤ 1099511627776) : Ev (fun k => pursuivantref27_URL.f k v) (redB v) := by
 have := refURL v.toList (by rw [baLen]; exact h)
 rwa [baOf] at this
theorem progV (n v : ByteArray) (h : v.size ≤ 1099511627776) : Ev (fun k => cleanV k (lowBA n) v) (redV n v) := by
 unfold cleanV redV locV
 by_cases h1 : secretN (lowBA n) = true
 ·rw [if_pos h1]
  exact Ev.if_pos h1 (Ev.now _)
 ·rw [if_neg h1]
  refine Ev.if_neg h1 (Ev.ite (fun c => ?_) (fun c => ?_))
  ·rw [if_pos c]; exact progURLB v h
  ·rw [if_neg c]; exact Ev.now _
theorem progHs (l : List S58) (hs : ∀ x ∈ l, x.f0.size ≤ 1099511627776 ∧ x.f1.size ≤ 1099511627776) : Ev (fun k => cleanL k l) (l.map redH) := by
 induction l with
 | nil => exact Ev.now _
 | cons x l ih =>
  have hx := hs x (by simp)
  have hr := ih (fun y hy => hs y (by simp [hy]))
  have e : (fun k => cleanL k (x :: l)) = fun k => if x.f0.size ≤ 140737488351232 then (cleanV k (lowBA x.f0) x.f1).bind fun v => (cleanL k l).bind fun r => some (⟨x.f0, v⟩ :: r) else none := by
   funext k; rfl
  rw [e]
  refine Ev.if_pos (by omega) (Ev.bind (progV x.f0 x.f1 hx.2) (Ev.bind hr ?_))
  exact Ev.now _
theorem progHeaders (l : List S58) (hl : l.length ≤ 1099511627776) (hs : ∀ x ∈ l, x.f0.size ≤ 1099511627776 ∧ x.f1.size ≤ 1099511627776) : Ev (fun k => redact_Headers.f k l) (l.map redH) := by
 unfold redact_Headers.f
 exact Ev.if_pos hl (progHs l hs)
theorem refValueB (v : ByteArray) (h : v.size ≤ 1099511627776) : Ev (fun k => pursuivantref09_Value.f k v) (valueB v) := by
 have := refValue v.toList (by rw [baLen]; exact h)
 rw [← valueB_ba, baOf] at this
 exact this
theorem refLowB (v : ByteArray) (h : v.size ≤ 1099511627776) : Ev (fun k => pursuivantref04_Lower.f k v) (lowBA v) := by
 have := refLowerE v.toList (by rw [baLen]; exact h)
 rw [← lowBA_ba, baOf] at this
 exact this
theorem secret_loc {low : ByteArray} (h : secretN low = true) : ¬low.toList = loc8 := fun e => by
 unfold secretN at h
 rw [e] at h
 exact absurd h (by decide)
theorem refJ2 (xs out : List S58) (i : Int) (low n v : ByteArray) (R : List S58) (hv : v.size ≤ 1099511627776) (ho : out.length ≤ 1099511627776)
  (h : Ev (fun k => pursuivantref27_Headers.l0 k xs (out ++ [⟨n, locV low v⟩]) (wrap64 (i + 1))) R) : Ev (fun k => pursuivantref27_Headers.j2 k xs out i low n v) R := by
 refine Ev.step (fun k => by rw [pursuivantref27_Headers.j2]) ?_
 unfold locV at h
 refine Ev.bind (refValueB v hv) (Ev.ite (fun c => ?_) (fun c => ?_))
 ·refine Ev.ite (fun c2 => ?_) (fun c2 => ?_)
  ·rw [if_pos ⟨by rw [c2]; exact beq_self_eq_true _, c⟩] at h
   exact Ev.bind (refURLB v hv) (Ev.if_pos (by omega) h)
  ·rw [if_neg (fun e => c2 (by simpa using e.1))] at h
   exact Ev.if_pos (by omega) h
 ·rw [if_neg (fun e => c e.2)] at h
  exact Ev.if_pos (by omega) h
theorem refHs_go (xs : List S58) (hs : ∀ x ∈ xs, x.f0.size ≤ 1099511627776 ∧ x.f1.size ≤ 1099511627776) (hl : xs.length ≤ 1099511627776) : ∀ (q p : List S58), xs = p ++ q →
  Ev (fun k => pursuivantref27_Headers.l0 k xs (p.map redH) (p.length : Int)) (xs.map redH) := by
 intro q
 induction q with
 | nil =>
  intro p e
  refine Ev.step (fun k => by rw [pursuivantref27_Headers.l0]) ?_
  refine Ev.if_neg (by rw [e]; simp) ?_
  rw [e, List.append_nil]
  exact Ev.now _
 | cons x q ih =>
  intro p e
  have hlt : p.length < xs.length := by rw [e]; simp
  have hx := hs x (by rw [e]; simp)
  have hrd : rd_T58 xs (p.length : Int) = x := by rw [e]; exact rd_mid p q x
  have hn := ih (p ++ [x]) (by rw [e]; simp)
  rw [List.map_append, List.length_append, List.map_singleton, List.length_singleton] at hn
  have hpl : (p.map redH).length ≤ 1099511627776 := by rw [List.length_map]; omega
  -- with the mark or without it
  have j1t : secretN (lowBA x.f0) = true → x.f1.toList.isEmpty = false → valueB x.f1 = true → Ev (fun k => pursuivantref27_Headers.j1 k xs (p.map redH) (p.length : Int) (lowBA x.f0) true x.f0 x.f1) (xs.map redH) := by
   intro h1 h2 h3
   refine Ev.step (fun k => by rw [pursuivantref27_Headers.j1]) ?_
   refine Ev.if_pos rfl (refJ2 _ _ _ _ _ _ _ (by decide) hpl ?_)
   rw [wrap_nat _ (by omega)]
   have hV : redH x = ⟨x.f0, locV (lowBA x.f0) ⟨#[42]⟩⟩ := by
    unfold redH redV locV
    rw [if_pos h1, if_pos ⟨h2, h3⟩, if_neg (fun e => secret_loc h1 (by simpa using e.1))]
   rw [hV] at hn
   exact hn
  have j1f : (secretN (lowBA x.f0) = true → ¬(x.f1.toList.isEmpty = false ∧ valueB x.f1 = true)) → Ev (fun k => pursuivantref27_Headers.j1 k xs (p.map redH) (p.length : Int) (lowBA x.f0) false x.f0 x.f1) (xs.map redH) := by
   intro h1
   refine Ev.step (fun k => by rw [pursuivantref27_Headers.j1]) ?_
   refine Ev.if_neg (by decide) (refJ2 _ _ _ _ _ _ _ hx.2 hpl ?_)
   rw [wrap_nat _ (by omega)]
   have hV : redH x = ⟨x.f0, locV (lowBA x.f0) x.f1⟩ := by
    unfold redH redV
    by_cases h2 : secretN (lowBA x.f0) = true
    ·rw [if_pos h2, if_neg (h1 h2)]
     unfold locV
     rw [if_neg (fun e => secret_loc h2 (by simpa using e.1))]
    ·rw [if_neg h2]
   rw [hV] at hn
   exact hn
  refine Ev.step (fun k => by rw [pursuivantref27_Headers.l0]) ?_
  rw [hrd]
  refine Ev.if_pos (by omega) (Ev.if_pos (by omega) (Ev.bind (refLowB x.f0 hx.1) (Ev.bind (refValueB x.f1 hx.2) (Ev.ite (fun c => ?_) (fun c => ?_)))))
  ·refine Ev.ite (fun c2 => ?_) (fun c2 => ?_)
   ·exact j1f (fun _ e => by rw [c2] at e; simp at e)
   ·have c2' : x.f1.toList.isEmpty = false := by simpa using c2
    have sec : ∀ b : List UInt8, ((lowBA x.f0).toList == b) = true → (b = [99, 111, 111, 107, 105, 101] ∨ b = [115, 101, 116, 45, 99, 111, 111, 107, 105, 101] ∨ b = [97, 117, 116, 104, 111, 114, 105, 122, 97, 116, 105, 111, 110] ∨ b = [112, 114, 111, 120, 121, 45, 97, 117, 116, 104, 111, 114, 105, 122, 97, 116, 105, 111, 110]) → secretN (lowBA x.f0) = true := by
     intro b hb h
     unfold secretN
     rcases h with rfl | rfl | rfl | rfl <;> simp [hb]
    refine Ev.ite (fun c3 => ?_) (fun c3 => ?_)
    ·exact j1t (sec _ (by rw [c3]; exact beq_self_eq_true _) (.inl rfl)) c2' c
    ·refine Ev.ite (fun c4 => ?_) (fun c4 => ?_)
     ·exact j1t (sec _ (by rw [c4]; exact beq_self_eq_true _) (.inr (.inl rfl))) c2' c
     ·refine Ev.ite (fun c5 => ?_) (fun c5 => ?_)
      ·exact j1t (sec _ (by rw [c5]; exact beq_self_eq_true _) (.inr (.inr (.inl rfl)))) c2' c
      ·cases c6 : ((lowBA x.f0).toList == ([112, 114, 111, 120, 121, 45, 97, 117, 116, 104, 111, 114, 105, 122, 97, 116, 105, 111, 110] : List UInt8)) with
       | true => exact j1t (sec _ c6 (.inr (.inr (.inr rfl)))) c2' c
       | false =>
        refine j1f (fun hS _ => ?_)
        unfold secretN at hS
        rw [c6, beq_false_of_ne c3, beq_false_of_ne c4, beq_false_of_ne c5] at hS
        exact absurd hS (by decide)
  ·exact j1f (fun _ e => c e.2)
theorem refHeaders (l : List S58) (hl : l.length ≤ 1099511627776) (hs : ∀ x ∈ l, x.f0.size ≤ 1099511627776 ∧ x.f1.size ≤ 1099511627776) : Ev (fun k => pursuivantref27_Headers.f k l) (l.map redH) := by
 unfold pursuivantref27_Headers.f
 exact refHs_go l hs hl l [] rfl
end Go.Proofs.YtoaleclnilbjcaaGreatDoor.Hand
