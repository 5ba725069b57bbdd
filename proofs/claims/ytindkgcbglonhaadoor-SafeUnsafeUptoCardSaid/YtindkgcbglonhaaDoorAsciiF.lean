/- What package ascii and its reference compute, over lists of bytes. Conditions: at most 2^40 bytes (2^31 for List). -/
import Derived.Test.YtindkgcbglonhaaDoorFA1
import Derived.Test.YtindkgcbglonhaaDoorFA2
import Derived.Test.YtindkgcbglonhaaDoorFA3
import Derived.Test.YtindkgcbglonhaaDoorPlain
import Derived.Test.YtindkgcbglonhaaDoorLow
import Derived.Test.YtindkgcbglonhaaDoorLib
import Derived.Lib.SplitLaws
import Derived.Deep.LoopGhost
import Derived.Lib.SlTrimSet
namespace Go.Proofs.YtindkgcbglonhaaDoor.Hand
open Go.RowKit Go.Proofs.YtindkgcbglonhaaDoorW.PrintWords Go.Proofs.YtindkgcbglonhaaDoorW.PrintLast Go.Proofs.YtindkgcbglonhaaDoorW.PrintMore
set_option linter.unusedVariables false
set_option linter.unusedSimpArgs false

theorem u8_all {P : UInt8 → Bool} (h : (List.range 256).all (fun n => P (UInt8.ofNat n)) = true) (c : UInt8) : P c = true := by
  have := List.all_eq_true.1 h c.toNat (List.mem_range.2 c.toNat_lt)
  rwa [show UInt8.ofNat c.toNat = c from by simp] at this
def low8 (c : UInt8) : UInt8 := if 65 ≤ c.toNat ∧ c.toNat ≤ 90 then c + 32 else c
def up8 (c : UInt8) : UInt8 := if 97 ≤ c.toNat ∧ c.toNat ≤ 122 then c - 32 else c
theorem low8_turn (c : UInt8) : turnC 65 90 32 (c.toNat : Int) = ((low8 c).toNat : Int) := of_decide_eq_true (u8_all (P := fun c => decide (turnC 65 90 32 (c.toNat : Int) = ((low8 c).toNat : Int))) (by decide +kernel) c)
theorem up8_turn (c : UInt8) : turnC 97 122 (-32) (c.toNat : Int) = ((up8 c).toNat : Int) := of_decide_eq_true (u8_all (P := fun c => decide (turnC 97 122 (-32) (c.toNat : Int) = ((up8 c).toNat : Int))) (by decide +kernel) c)
theorem lowBA_ba (l : List UInt8) : lowBA (ba l) = ba (l.map low8) := by
  unfold lowBA
  rw [bytesOf, ba_data, List.map_map, ← strOfNums_bytes (l.map low8), List.map_map]
  congr 1
  exact List.map_congr_left fun c _ => low8_turn c
theorem upBA_ba (l : List UInt8) : upBA (ba l) = ba (l.map up8) := by
  unfold upBA
  rw [bytesOf, ba_data, List.map_map, ← strOfNums_bytes (l.map up8), List.map_map]
  congr 1
  exact List.map_congr_left fun c _ => up8_turn c
theorem progLower (l : List UInt8) (h : l.length ≤ 1099511627776) : ascii_Lower.f (ba l) = some (ba (l.map low8)) := by
  unfold ascii_Lower.f; rw [if_pos (by (first | omega | (simp only [ba_size', List.length_append, List.length_cons, List.length_nil]; omega) | (simp; omega) | (simp; done))), lowBA_ba]
theorem progUpper (l : List UInt8) (h : l.length ≤ 1099511627776) : ascii_Upper.f (ba l) = some (ba (l.map up8)) := by
  unfold ascii_Upper.f; rw [if_pos (by (first | omega | (simp only [ba_size', List.length_append, List.length_cons, List.length_nil]; omega) | (simp; omega) | (simp; done))), upBA_ba]
theorem refLower_go : ∀ (q p : List UInt8) (out : List Int), p.length + q.length ≤ 1099511627776 → out.length = p.length →
    Ev (fun k => pursuivantref04_Lower.l0 k (ba (p ++ q)) out (p.length : Int)) (strOfNums (out ++ q.map fun c => ((low8 c).toNat : Int))) := by
  intro q
  induction q with
  | nil =>
    intro p out h ho
    refine Ev.step (fun k => by rw [pursuivantref04_Lower.l0]) ?_
    refine Ev.if_neg (by (first | omega | (simp only [ba_size', List.length_append, List.length_cons, List.length_nil]; omega) | (simp; omega) | (simp; done))) ?_
    simpa using Ev.now _
  | cons c q ih =>
    intro p out h ho
    simp only [List.length_cons] at h
    refine Ev.step (fun k => by rw [pursuivantref04_Lower.l0]) ?_
    refine Ev.if_pos (by (first | omega | (simp only [ba_size', List.length_append, List.length_cons, List.length_nil]; omega) | (simp; omega) | (simp; done))) (Ev.if_pos (by omega) ?_)
    have hn := ih (p ++ [c]) (out ++ [((low8 c).toNat : Int)]) (by (first | omega | (simp only [ba_size', List.length_append, List.length_cons, List.length_nil]; omega) | (simp; omega) | (simp; done))) (by (first | omega | (simp only [ba_size', List.length_append, List.length_cons, List.length_nil]; omega) | (simp; omega) | (simp; done)))
    rw [List.append_assoc, List.singleton_append, List.append_assoc, List.singleton_append, List.length_append, List.length_singleton] at hn
    simp only [bt_mid, wrap_nat _ (show p.length < 9223372036854775807 by omega)]
    have hl : out.length < 140737488355328 := by omega
    have e := low8_turn c
    unfold turnC at e
    rw [List.map_cons]
    by_cases h1 : (c.toNat : Int) ≥ 65
    · refine Ev.if_pos h1 ?_
      by_cases h2 : (c.toNat : Int) ≤ 90
      · refine Ev.if_pos h2 (Ev.if_pos hl ?_)
        rw [if_pos ⟨h1, h2⟩] at e
        rw [e]; exact hn
      · refine Ev.if_neg h2 (Ev.if_pos hl ?_)
        rw [if_neg (fun h => h2 h.2)] at e
        rw [← e] at hn ⊢; exact hn
    · refine Ev.if_neg h1 (Ev.if_pos hl ?_)
      rw [if_neg (fun h => h1 h.1)] at e
      rw [← e] at hn ⊢; exact hn
theorem refLowerE (l : List UInt8) (h : l.length ≤ 1099511627776) : Ev (fun k => pursuivantref04_Lower.f k (ba l)) (ba (l.map low8)) := by
  have := refLower_go l [] [] (by simpa using h) rfl
  unfold pursuivantref04_Lower.f
  rw [← strOfNums_bytes (l.map low8), List.map_map]
  simpa [Function.comp_def] using this
def white8 (c : UInt8) : Bool := [32, 9].contains c
def trim8 (l : List UInt8) : List UInt8 := Lib.trimS l [32, 9]
def cutL (l : List UInt8) : List UInt8 := l.dropWhile white8
def cutR (l : List UInt8) : List UInt8 := (l.reverse.dropWhile white8).reverse
theorem trim8_eq (l : List UInt8) : trim8 l = cutL (cutR l) := rfl
theorem cutR_cons (c : UInt8) (l : List UInt8) : cutR (c :: l) = if cutR l = [] ∧ white8 c = true then [] else c :: cutR l := by
  unfold cutR
  rw [List.reverse_cons, List.dropWhile_append]
  by_cases h : (l.reverse.dropWhile white8) = []
  · by_cases hc : white8 c = true
    · simp [h, hc]
    · simp [h, hc]
  · have hi : (l.reverse.dropWhile white8).isEmpty = false := by simpa using h
    rw [hi]
    simp [h]
theorem cut_turn : ∀ l, cutL (cutR l) = cutR (cutL l)
  | [] => rfl
  | c :: l => by
    have ih := cut_turn l
    rw [cutR_cons]
    by_cases hc : white8 c = true
    · rw [show cutL (c :: l) = cutL l from by simp [cutL, hc], ← ih]
      by_cases hr : cutR l = []
      · rw [if_pos ⟨hr, hc⟩, hr]
      · rw [if_neg (fun h => hr h.1)]
        simp [cutL, hc]
    · rw [show cutL (c :: l) = c :: l from by simp [cutL, hc], if_neg (fun h => hc h.2), cutR_cons, if_neg (fun h => hc h.2)]
      simp [cutL, hc]
theorem trim8_length (l : List UInt8) : (trim8 l).length ≤ l.length := by
  rw [trim8_eq]
  have h1 := (List.dropWhile_sublist (l := cutR l) white8).length_le
  have h2 := (List.dropWhile_sublist (l := l.reverse) white8).length_le
  unfold cutL
  unfold cutR at h1 ⊢
  simp only [List.length_reverse] at *
  omega
theorem progTrim (l : List UInt8) (h : l.length ≤ 1099511627776) : ascii_Trim.f (ba l) = some (ba (trim8 l)) := by
  unfold ascii_Trim.f strings_Trim.f
  rw [if_pos ⟨by simp; omega, by decide, by decide⟩, ba_data]
  rfl
theorem refTrim_r : ∀ r : List UInt8, r.length ≤ 1099511627776 → Ev (fun k => pursuivantref04_Trim.l1 k (ba r.reverse)) (ba (cutR r.reverse)) := by
  intro r
  induction r with
  | nil =>
    intro _
    refine Ev.step (fun k => by rw [pursuivantref04_Trim.l1]) ?_
    refine Ev.if_neg (by (first | omega | (simp only [ba_size', List.length_append, List.length_cons, List.length_nil]; omega) | (simp; omega) | (simp; done))) ?_
    exact Ev.now _
  | cons c r ih =>
    intro h
    simp only [List.length_cons] at h
    have hn := ih (by omega)
    refine Ev.step (fun k => by rw [pursuivantref04_Trim.l1]) ?_
    have hs : ((ba (r.reverse ++ [c])).size : Int) = ((r.reverse.length + 1 : Nat) : Int) := by simp
    have hw : wrap64 (((r.reverse.length + 1 : Nat) : Int) - 1) = (r.reverse.length : Int) := by simp only [List.length_reverse]; rw [wrap_ok] <;> omega
    simp only [List.reverse_cons, hs, hw, bt_mid, Int.toNat_natCast]
    refine Ev.if_pos (by omega) (Ev.if_pos (by omega) (Ev.if_pos (by omega) ?_))
    have hx : (ba (r.reverse ++ [c])).extract 0 r.reverse.length = ba r.reverse := by simp
    rw [hx]
    by_cases h1 : c = 32
    · subst h1
      refine Ev.if_pos (by decide) (Ev.if_pos (by omega) ?_)
      have e : cutR (r.reverse ++ [32]) = cutR r.reverse := by simp [cutR, white8]
      rw [e]; exact hn
    · refine Ev.if_neg (fun h => h1 ((c_eq c 32 (by omega)).1 h)) ?_
      by_cases h2 : c = 9
      · subst h2
        refine Ev.if_pos (by decide) (Ev.if_pos (by omega) ?_)
        have e : cutR (r.reverse ++ [9]) = cutR r.reverse := by simp [cutR, white8]
        rw [e]; exact hn
      · refine Ev.if_neg (fun h => h2 ((c_eq c 9 (by omega)).1 h)) ?_
        have e : cutR (r.reverse ++ [c]) = r.reverse ++ [c] := by simp [cutR, white8, h1, h2]
        rw [e]; exact Ev.now _
theorem refTrim_l : ∀ l : List UInt8, l.length ≤ 1099511627776 → Ev (fun k => pursuivantref04_Trim.l0 k (ba l)) (ba (cutR (cutL l))) := by
  intro l
  have ends : ∀ l : List UInt8, l.length ≤ 1099511627776 → Ev (fun k => pursuivantref04_Trim.j1 k (ba l)) (ba (cutR l)) := by
    intro l h
    refine Ev.step (fun k => by rw [pursuivantref04_Trim.j1]) ?_
    have := refTrim_r l.reverse (by simpa using h)
    simpa using this
  induction l with
  | nil =>
    intro h
    refine Ev.step (fun k => by rw [pursuivantref04_Trim.l0]) ?_
    exact Ev.if_neg (by (first | omega | (simp only [ba_size', List.length_append, List.length_cons, List.length_nil]; omega) | (simp; omega) | (simp; done))) (ends _ h)
  | cons c l ih =>
    intro h
    have h0 := h
    simp only [List.length_cons] at h
    refine Ev.step (fun k => by rw [pursuivantref04_Trim.l0]) ?_
    refine Ev.if_pos (by (first | omega | (simp only [ba_size', List.length_append, List.length_cons, List.length_nil]; omega) | (simp; omega) | (simp; done))) (Ev.if_pos (by (first | omega | (simp only [ba_size', List.length_append, List.length_cons, List.length_nil]; omega) | (simp; omega) | (simp; done))) ?_)
    have hx : (ba (c :: l)).extract 1 (ba (c :: l)).size = ba l := by simp
    simp only [bt_zero, hx]
    by_cases h1 : c = 32
    · subst h1
      refine Ev.if_pos (by decide) (Ev.if_pos (by (first | omega | (simp only [ba_size', List.length_append, List.length_cons, List.length_nil]; omega) | (simp; omega) | (simp; done))) ?_)
      exact ih (by omega)
    · refine Ev.if_neg (fun h => h1 ((c_eq c 32 (by omega)).1 h)) ?_
      by_cases h2 : c = 9
      · subst h2
        refine Ev.if_pos (by decide) (Ev.if_pos (by (first | omega | (simp only [ba_size', List.length_append, List.length_cons, List.length_nil]; omega) | (simp; omega) | (simp; done))) ?_)
        exact ih (by omega)
      · refine Ev.if_neg (fun h => h2 ((c_eq c 9 (by omega)).1 h)) ?_
        have e : cutL (c :: l) = c :: l := by simp [cutL, white8, h1, h2]
        rw [e]; exact ends _ h0
theorem refTrim (l : List UInt8) (h : l.length ≤ 1099511627776) : Ev (fun k => pursuivantref04_Trim.f k (ba l)) (ba (trim8 l)) := by
  unfold pursuivantref04_Trim.f
  rw [trim8_eq, cut_turn]
  exact refTrim_l l h
theorem refSame_go (xs : List (List UInt8)) : ∀ (q p : List (List UInt8)), xs = p ++ q → xs.length ≤ 1099511627776 →
    Ev (fun k => pursuivantref04_Same.l0 k (xs.map ba) (xs.map ba) (p.length : Int)) true := by
  intro q
  induction q with
  | nil =>
    intro p e h
    refine Ev.step (fun k => by rw [pursuivantref04_Same.l0]) ?_
    exact Ev.if_neg (by rw [e]; simp) (Ev.now _)
  | cons c q ih =>
    intro p e h
    have hl : p.length < xs.length := by rw [e]; simp
    refine Ev.step (fun k => by rw [pursuivantref04_Same.l0]) ?_
    refine Ev.if_pos (by (first | omega | (simp only [ba_size', List.length_append, List.length_cons, List.length_nil]; omega) | (simp; omega) | (simp; done))) (Ev.if_pos (by omega) (Ev.if_pos (by (first | omega | (simp only [ba_size', List.length_append, List.length_cons, List.length_nil]; omega) | (simp; omega) | (simp; done))) (Ev.if_pos rfl ?_)))
    rw [wrap_nat _ (by omega)]
    have := ih (p ++ [c]) (by rw [e]; simp) h
    simpa using this
theorem refSame (xs : List (List UInt8)) (h : xs.length ≤ 1099511627776) : Ev (fun k => pursuivantref04_Same.f k (xs.map ba) (xs.map ba)) true := by
  unfold pursuivantref04_Same.f
  exact Ev.if_pos rfl (refSame_go xs xs [] rfl h)
end Go.Proofs.YtindkgcbglonhaaDoor.Hand
