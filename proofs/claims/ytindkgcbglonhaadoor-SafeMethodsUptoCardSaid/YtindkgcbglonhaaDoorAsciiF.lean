/- What package ascii and its reference compute, over lists of bytes. Conditions: at most 2^40 bytes (2^31 for List). -/
import Derived.Test.YtindkgcbglonhaaDoorFA1
import Derived.Test.YtindkgcbglonhaaDoorFA2
import Derived.Test.YtindkgcbglonhaaDoorFA3
import Derived.Test.YtindkgcbglonhaaDoorPlain
import Derived.Test.YtindkgcbglonhaaDoorLow
import Derived.Test.YtindkgcbglonhaaDoorLib
import Derived.Lib.SplitLaws
import Derived.Deep.LoopGhost
import Derived.Lib.SlTrimSet
namespace Go.Proofs.YtindkgcbglonhaaDoor.Hand
open Go.RowKit Go.Proofs.YtindkgcbglonhaaDoorW.PrintWords Go.Proofs.YtindkgcbglonhaaDoorW.PrintLast Go.Proofs.YtindkgcbglonhaaDoorW.PrintMore
set_option linter.unusedVariables false
set_option linter.unusedSimpArgs false

theorem u8_all {P : UInt8 → Bool} (h : (List.range 256).all (fun n => P (UInt8.ofNat n)) = true) (c : UInt8) : P c = true := by
  have := List.all_eq_true.1 h c.toNat (List.mem_range.2 c.toNat_lt)
  rwa [show UInt8.ofNat c.toNat = c from by simp] at this
def low8 (c : UInt8) : UInt8 := if 65 ≤ c.toNat ∧ c.toNat ≤ 90 then c + 32 else c
def up8 (c : UInt8) : UInt8 := if 97 ≤ c.toNat ∧ c.toNat ≤ 122 then c - 32 else c
theorem low8_turn (c : UInt8) : turnC 65 90 32 (c.toNat : Int) = ((low8 c).toNat : Int) := of_decide_eq_true (u8_all (P := fun c => decide (turnC 65 90 32 (c.toNat : Int) = ((low8 c).toNat : Int))) (by decide +kernel) c)
theorem up8_turn (c : UInt8) : turnC 97 122 (-32) (c.toNat : Int) = ((up8 c).toNat : Int) := of_decide_eq_true (u8_all (P := fun c => decide (turnC 97 122 (-32) (c.toNat : Int) = ((up8 c).toNat : Int))) (by decide +kernel) c)
theorem lowBA_ba (l : List UInt8) : lowBA (ba l) = ba (l.map low8) := by
  unfold lowBA
  rw [bytesOf, ba_data, List.map_map, ← strOfNums_bytes (l.map low8), List.map_map]
  congr 1
  exact List.map_congr_left fun c _ => low8_turn c
theorem upBA_ba (l : List UInt8) : upBA (ba l) = ba (l.map up8) := by
  unfold upBA
  rw [bytesOf, ba_data, List.map_map, ← strOfNums_bytes (l.map up8), List.map_map]
  congr 1
  exact List.map_congr_left fun c _ => up8_turn c
theorem progLower (l : List UInt8) (h : l.length ≤ 1099511627776) : ascii_Lower.f (ba l) = some (ba (l.map low8)) := by
  unfold ascii_Lower.f; rw [if_pos (by (first | omega | (simp only [ba_size', List.length_append, List.length_cons, List.length_nil]; omega) | (simp; omega) | (simp; done))), lowBA_ba]
theorem progUpper (l : List UInt8) (h : l.length ≤ 1099511627776) : ascii_Upper.f (ba l) = some (ba (l.map up8)) := by
  unfold ascii_Upper.f; rw [if_pos (by (first | omega | (simp only [ba_size', List.length_append, List.length_cons, List.length_nil]; omega) | (simp; omega) | (simp; done))), upBA_ba]
theorem refUpper_go : ∀ (q p : List UInt8) (out : List Int), p.length + q.length ≤ 1099511627776 → out.length = p.length →
    Ev (fun k => pursuivantref04_Upper.l0 k (ba (p ++ q)) out (p.length : Int)) (strOfNums (out ++ q.map fun c => ((up8 c).toNat : Int))) := by
  intro q
  induction q with
  | nil =>
    intro p out h ho
    refine Ev.step (fun k => by rw [pursuivantref04_Upper.l0]) ?_
    refine Ev.if_neg (by (first | omega | (simp only [ba_size', List.length_append, List.length_cons, List.length_nil]; omega) | (simp; omega) | (simp; done))) ?_
    simpa using Ev.now _
  | cons c q ih =>
    intro p out h ho
    simp only [List.length_cons] at h
    refine Ev.step (fun k => by rw [pursuivantref04_Upper.l0]) ?_
    refine Ev.if_pos (by (first | omega | (simp only [ba_size', List.length_append, List.length_cons, List.length_nil]; omega) | (simp; omega) | (simp; done))) (Ev.if_pos (by omega) ?_)
    have hn := ih (p ++ [c]) (out ++ [((up8 c).toNat : Int)]) (by (first | omega | (simp only [ba_size', List.length_append, List.length_cons, List.length_nil]; omega) | (simp; omega) | (simp; done))) (by (first | omega | (simp only [ba_size', List.length_append, List.length_cons, List.length_nil]; omega) | (simp; omega) | (simp; done)))
    rw [List.append_assoc, List.singleton_append, List.append_assoc, List.singleton_append, List.length_append, List.length_singleton] at hn
    simp only [bt_mid, wrap_nat _ (show p.length < 9223372036854775807 by omega)]
    have hl : out.length < 140737488355328 := by omega
    have e := up8_turn c
    unfold turnC at e
    rw [List.map_cons]
    by_cases h1 : (c.toNat : Int) ≥ 97
    · refine Ev.if_pos h1 ?_
      by_cases h2 : (c.toNat : Int) ≤ 122
      · refine Ev.if_pos h2 (Ev.if_pos hl ?_)
        rw [if_pos ⟨h1, h2⟩] at e
        rw [show (c.toNat : Int) - 32 = (c.toNat : Int) + -32 from rfl, e]; exact hn
      · refine Ev.if_neg h2 (Ev.if_pos hl ?_)
        rw [if_neg (fun h => h2 h.2)] at e
        rw [← e] at hn ⊢; exact hn
    · refine Ev.if_neg h1 (Ev.if_pos hl ?_)
      rw [if_neg (fun h => h1 h.1)] at e
      rw [← e] at hn ⊢; exact hn
theorem refUpperE (l : List UInt8) (h : l.length ≤ 1099511627776) : Ev (fun k => pursuivantref04_Upper.f k (ba l)) (ba (l.map up8)) := by
  have := refUpper_go l [] [] (by simpa using h) rfl
  unfold pursuivantref04_Upper.f
  rw [← strOfNums_bytes (l.map up8), List.map_map]
  simpa [Function.comp_def] using this
def white8 (c : UInt8) : Bool := [32, 9].contains c
def trim8 (l : List UInt8) : List UInt8 := Lib.trimS l [32, 9]
def cutL (l : List UInt8) : List UInt8 := l.dropWhile white8
def cutR (l : List UInt8) : List UInt8 := (l.reverse.dropWhile white8).reverse
theorem trim8_eq (l : List UInt8) : trim8 l = cutL (cutR l) := rfl
theorem trim8_length (l : List UInt8) : (trim8 l).length ≤ l.length := by
  rw [trim8_eq]
  have h1 := (List.dropWhile_sublist (l := cutR l) white8).length_le
  have h2 := (List.dropWhile_sublist (l := l.reverse) white8).length_le
  unfold cutL
  unfold cutR at h1 ⊢
  simp only [List.length_reverse] at *
  omega
theorem progTrim (l : List UInt8) (h : l.length ≤ 1099511627776) : ascii_Trim.f (ba l) = some (ba (trim8 l)) := by
  unfold ascii_Trim.f strings_Trim.f
  rw [if_pos ⟨by simp; omega, by decide, by decide⟩, ba_data]
  rfl
theorem refSame_go (xs : List (List UInt8)) : ∀ (q p : List (List UInt8)), xs = p ++ q → xs.length ≤ 1099511627776 →
    Ev (fun k => pursuivantref04_Same.l0 k (xs.map ba) (xs.map ba) (p.length : Int)) true := by
  intro q
  induction q with
  | nil =>
    intro p e h
    refine Ev.step (fun k => by rw [pursuivantref04_Same.l0]) ?_
    exact Ev.if_neg (by rw [e]; simp) (Ev.now _)
  | cons c q ih =>
    intro p e h
    have hl : p.length < xs.length := by rw [e]; simp
    refine Ev.step (fun k => by rw [pursuivantref04_Same.l0]) ?_
    refine Ev.if_pos (by (first | omega | (simp only [ba_size', List.length_append, List.length_cons, List.length_nil]; omega) | (simp; omega) | (simp; done))) (Ev.if_pos (by omega) (Ev.if_pos (by (first | omega | (simp only [ba_size', List.length_append, List.length_cons, List.length_nil]; omega) | (simp; omega) | (simp; done))) (Ev.if_pos rfl ?_)))
    rw [wrap_nat _ (by omega)]
    have := ih (p ++ [c]) (by rw [e]; simp) h
    simpa using this
theorem refSame (xs : List (List UInt8)) (h : xs.length ≤ 1099511627776) : Ev (fun k => pursuivantref04_Same.f k (xs.map ba) (xs.map ba)) true := by
  unfold pursuivantref04_Same.f
  exact Ev.if_pos rfl (refSame_go xs xs [] rfl h)
end Go.Proofs.YtindkgcbglonhaaDoor.Hand
