/- What package ascii and its reference compute, over lists of bytes. Conditions: at most 2^40 bytes (2^31 for List). -/
import Derived.Test.YtoaleclnilbjcaaGreatDoorFA1
import Derived.Test.YtoaleclnilbjcaaGreatDoorPlain
import Derived.Test.YtoaleclnilbjcaaGreatDoorLow
import Derived.Test.YtoaleclnilbjcaaGreatDoorList
import Derived.Lib.SplitLaws
import Derived.Lib.SlTrimSet
namespace Go.Proofs.YtoaleclnilbjcaaGreatDoor.Hand
open Go.RowKit Go.Proofs.YtoaleclnilbjcaaGreatDoorW.PrintWords Go.Proofs.YtoaleclnilbjcaaGreatDoorW.PrintLast Go.Proofs.YtoaleclnilbjcaaGreatDoorW.PrintMore
set_option linter.unusedVariables false
set_option linter.unusedSimpArgs false

theorem u8_all {P : UInt8 → Bool} (h : (List.range 256).all (fun n => P (UInt8.ofNat n)) = true) (c : UInt8) : P c = true := by
 have := List.all_eq_true.1 h c.toNat (List.mem_range.2 c.toNat_lt)
 rwa [show UInt8.ofNat c.toNat = c from by simp] at this
def low8 (c : UInt8) : UInt8 := if 65 ≤ c.toNat ∧ c.toNat ≤ 90 then c + 32 else c
theorem low8_turn (c : UInt8) : turnC 65 90 32 (c.toNat : Int) = ((low8 c).toNat : Int) := of_decide_eq_true (u8_all (P := fun c => decide (turnC 65 90 32 (c.toNat : Int) = ((low8 c).toNat : Int))) (by decide +kernel) c)
theorem lowBA_ba (l : List UInt8) : lowBA (ba l) = ba (l.map low8) := by
 unfold lowBA
 rw [bytesOf, ba_data, List.map_map, ← strOfNums_bytes (l.map low8), List.map_map]
 congr 1
 exact List.map_congr_left fun c _ => low8_turn c
theorem progLower (l : List UInt8) (h : l.length ≤ 1099511627776) : ascii_Lower.f (ba l) = some (ba (l.map low8)) := by
 unfold ascii_Lower.f; rw [if_pos (by (first | omega | (simp only [ba_size', List.length_append, List.length_cons, List.length_nil]; omega) | (simp; omega) | (simp; done))), lowBA_ba]
theorem refLower_go : ∀ (q p : List UInt8) (out : List Int), p.length + q.length ≤ 1099511627776 → out.length = p.length →
  Ev (fun k => pursuivantref04_Lower.l0 k (ba (p ++ q)) out (p.length : Int)) (strOfNums (out ++ q.map fun c => ((low8 c).toNat : Int))) := by
 intro q
 induction q with
 | nil =>
  intro p out h ho
  refine Ev.step (fun k => by rw [pursuivantref04_Lower.l0]) ?_
  refine Ev.if_neg (by (first | omega | (simp only [ba_size', List.length_append, List.length_cons, List.length_nil]; omega) | (simp; omega) | (simp; done))) ?_
  simpa using Ev.now _
 | cons c q ih =>
  intro p out h ho
  simp only [List.length_cons] at h
  refine Ev.step (fun k => by rw [pursuivantref04_Lower.l0]) ?_
  refine Ev.if_pos (by (first | omega | (simp only [ba_size', List.length_append, List.length_cons, List.length_nil]; omega) | (simp; omega) | (simp; done))) (Ev.if_pos (by omega) ?_)
  have hn := ih (p ++ [c]) (out ++ [((low8 c).toNat : Int)]) (by (first | omega | (simp only [ba_size', List.length_append, List.length_cons, List.length_nil]; omega) | (simp; omega) | (simp; done))) (by (first | omega | (simp only [ba_size', List.length_append, List.length_cons, List.length_nil]; omega) | (simp; omega) | (simp; done)))
  rw [List.append_assoc, List.singleton_append, List.append_assoc, List.singleton_append, List.length_append, List.length_singleton] at hn
  simp only [bt_mid, wrap_nat _ (show p.length < 9223372036854775807 by omega)]
  have hl : out.length < 140737488355328 := by omega
  have e := low8_turn c
  unfold turnC at e
  rw [List.map_cons]
  by_cases h1 : (c.toNat : Int) ≥ 65
  ·refine Ev.if_pos h1 ?_
   by_cases h2 : (c.toNat : Int) ≤ 90
   ·refine Ev.if_pos h2 (Ev.if_pos hl ?_)
    rw [if_pos ⟨h1, h2⟩] at e
    rw [e]; exact hn
   ·refine Ev.if_neg h2 (Ev.if_pos hl ?_)
    rw [if_neg (fun h => h2 h.2)] at e
    rw [← e] at hn ⊢; exact hn
  ·refine Ev.if_neg h1 (Ev.if_pos hl ?_)
   rw [if_neg (fun h => h1 h.1)] at e
   rw [← e] at hn ⊢; exact hn
theorem refLowerE (l : List UInt8) (h : l.length ≤ 1099511627776) : Ev (fun k => pursuivantref04_Lower.f k (ba l)) (ba (l.map low8)) := by
 have := refLower_go l [] [] (by simpa using h) rfl
 unfold pursuivantref04_Lower.f
 rw [← strOfNums_bytes (l.map low8), List.map_map]
 simpa [Function.comp_def] using this
def white8 (c : UInt8) : Bool := [32, 9].contains c
def trim8 (l : List UInt8) : List UInt8 := Lib.trimS l [32, 9]
theorem trimBA_ba (l : List UInt8) : trimBA (ba l) = ba (trim8 l) := by unfold trimBA trim8 ba; simp
def cutL (l : List UInt8) : List UInt8 := l.dropWhile white8
def cutR (l : List UInt8) : List UInt8 := (l.reverse.dropWhile white8).reverse
theorem trim8_eq (l : List UInt8) : trim8 l = cutL (cutR l) := rfl
theorem cutR_cons (c : UInt8) (l : List UInt8) : cutR (c :: l) = if cutR l = [] ∧ white8 c = true then [] else c :: cutR l := by
 unfold cutR
 rw [List.reverse_cons, List.dropWhile_append]
 by_cases h : (l.reverse.dropWhile white8) = []
 ·by_cases hc : white8 c = true
  ·simp [h, hc]
  ·simp [h, hc]
 ·have hi : (l.reverse.dropWhile white8).isEmpty = false := by simpa using h
  rw [hi]
  simp [h]
theorem cut_turn : ∀ l, cutL (cutR l) = cutR (cutL l)
 | [] => rfl
 | c :: l => by
  have ih := cut_turn l
  rw [cutR_cons]
  by_cases hc : white8 c = true
  ·rw [show cutL (c :: l) = cutL l from by simp [cutL, hc], ← ih]
   by_cases hr : cutR l = []
   ·rw [if_pos ⟨hr, hc⟩, hr]
   ·rw [if_neg (fun h => hr h.1)]
    simp [cutL, hc]
  ·rw [show cutL (c :: l) = c :: l from by simp [cutL, hc], if_neg (fun h => hc h.2), cutR_cons, if_neg (fun h => hc h.2)]
   simp [cutL, hc]
theorem refTrim_r : ∀ r : List UInt8, r.length ≤ 1099511627776 → Ev (fun k => pursuivantref04_Trim.l1 k (ba r.reverse)) (ba (cutR r.reverse)) := by
 intro r
 induction r with
 | nil =>
  intro _
  refine Ev.step (fun k => by rw [pursuivantref04_Trim.l1]) ?_
  refine Ev.if_neg (by (first | omega | (simp only [ba_size', List.length_append, List.length_cons, List.length_nil]; omega) | (simp; omega) | (simp; done))) ?_
  exact Ev.now _
 | cons c r ih =>
  intro h
  simp only [List.length_cons] at h
  have hn := ih (by omega)
  refine Ev.step (fun k => by rw [pursuivantref04_Trim.l1]) ?_
  have hs : ((ba (r.reverse ++ [c])).size : Int) = ((r.reverse.length + 1 : Nat) : Int) := by simp
  have hw : wrap64 (((r.reverse.length + 1 : Nat) : Int) - 1) = (r.reverse.length : Int) := by simp only [List.length_reverse]; rw [wrap_ok] <;> omega
  simp only [List.reverse_cons, hs, hw, bt_mid, Int.toNat_natCast]
  refine Ev.if_pos (by omega) (Ev.if_pos (by omega) (Ev.if_pos (by omega) ?_))
  have hx : (ba (r.reverse ++ [c])).extract 0 r.reverse.length = ba r.reverse := by simp
  rw [hx]
  by_cases h1 : c = 32
  ·subst h1
   refine Ev.if_pos (by decide) (Ev.if_pos (by omega) ?_)
   have e : cutR (r.reverse ++ [32]) = cutR r.reverse := by simp [cutR, white8]
   rw [e]; exact hn
  ·refine Ev.if_neg (fun h => h1 ((c_eq c 32 (by omega)).1 h)) ?_
   by_cases h2 : c = 9
   ·subst h2
    refine Ev.if_pos (by decide) (Ev.if_pos (by omega) ?_)
    have e : cutR (r.reverse ++ [9]) = cutR r.reverse := by simp [cutR, white8]
    rw [e]; exact hn
   ·refine Ev.if_neg (fun h => h2 ((c_eq c 9 (by omega)).1 h)) ?_
    have e : cutR (r.reverse ++ [c]) = r.reverse ++ [c] := by simp [cutR, white8, h1, h2]
    rw [e]; exact Ev.now _
theorem refTrim_l : ∀ l : List UInt8, l.length ≤ 1099511627776 → Ev (fun k => pursuivantref04_Trim.l0 k (ba l)) (ba (cutR (cutL l))) := by
 intro l
 have ends : ∀ l : List UInt8, l.length ≤ 1099511627776 → Ev (fun k => pursuivantref04_Trim.j1 k (ba l)) (ba (cutR l)) := by
  intro l h
  refine Ev.step (fun k => by rw [pursuivantref04_Trim.j1]) ?_
  have := refTrim_r l.reverse (by simpa using h)
  simpa using this
 induction l with
 | nil =>
  intro h
  refine Ev.step (fun k => by rw [pursuivantref04_Trim.l0]) ?_
  exact Ev.if_neg (by (first | omega | (simp only [ba_size', List.length_append, List.length_cons, List.length_nil]; omega) | (simp; omega) | (simp; done))) (ends _ h)
 | cons c l ih =>
  intro h
  have h0 := h
  simp only [List.length_cons] at h
  refine Ev.step (fun k => by rw [pursuivantref04_Trim.l0]) ?_
  refine Ev.if_pos (by (first | omega | (simp only [ba_size', List.length_append, List.length_cons, List.length_nil]; omega) | (simp; omega) | (simp; done))) (Ev.if_pos (by (first | omega | (simp only [ba_size', List.length_append, List.length_cons, List.length_nil]; omega) | (simp; omega) | (simp; done))) ?_)
  have hx : (ba (c :: l)).extract 1 (ba (c :: l)).size = ba l := by simp
  simp only [bt_zero, hx]
  by_cases h1 : c = 32
  ·subst h1
   refine Ev.if_pos (by decide) (Ev.if_pos (by (first | omega | (simp only [ba_size', List.length_append, List.length_cons, List.length_nil]; omega) | (simp; omega) | (simp; done))) ?_)
   exact ih (by omega)
  ·refine Ev.if_neg (fun h => h1 ((c_eq c 32 (by omega)).1 h)) ?_
   by_cases h2 : c = 9
   ·subst h2
    refine Ev.if_pos (by decide) (Ev.if_pos (by (first | omega | (simp only [ba_size', List.length_append, List.length_cons, List.length_nil]; omega) | (simp; omega) | (simp; done))) ?_)
    exact ih (by omega)
   ·refine Ev.if_neg (fun h => h2 ((c_eq c 9 (by omega)).1 h)) ?_
    have e : cutL (c :: l) = c :: l := by simp [cutL, white8, h1, h2]
    rw [e]; exact ends _ h0
theorem refTrim (l : List UInt8) (h : l.length ≤ 1099511627776) : Ev (fun k => pursuivantref04_Trim.f k (ba l)) (ba (trim8 l)) := by
 unfold pursuivantref04_Trim.f
 rw [trim8_eq, cut_turn]
 exact refTrim_l l h
end Go.Proofs.YtoaleclnilbjcaaGreatDoor.Hand
