/- What package ascii and its reference compute, over lists of bytes. Conditions: at most 2^40 bytes (2^31 for List). -/
import Derived.Test.YteemgpciheheoaaGreatDoorRRRFA1
import Derived.Test.YteemgpciheheoaaGreatDoorRRRFA2
import Derived.Test.YteemgpciheheoaaGreatDoorRRRFA3
import Derived.Test.YteemgpciheheoaaGreatDoorRRRFP1
import Derived.Test.YteemgpciheheoaaGreatDoorRRRFPB1
import Derived.Test.YteemgpciheheoaaGreatDoorRRRPlain
import Derived.Test.YteemgpciheheoaaGreatDoorRRRLow
import Derived.Test.YteemgpciheheoaaGreatDoorRRRSplit
import Derived.Test.YteemgpciheheoaaGreatDoorRRRK
import Derived.WalkKit
import Derived.KernelRfl
import Derived.Test.YteemgpciheheoaaGreatDoorRRRWMore
import Derived.Lib.SplitLaws
import Derived.Deep.LoopGhost
import Derived.Lib.SlTrimSet
namespace Go.Proofs.YteemgpciheheoaaGreatDoorRRR.Hand
open Go.RowKit Go.Proofs.YteemgpciheheoaaGreatDoorRRRW.PrintWords Go.Proofs.YteemgpciheheoaaGreatDoorRRRW.PrintLast Go.Proofs.YteemgpciheheoaaGreatDoorRRRW.PrintMore
set_option linter.unusedVariables false
set_option linter.unusedSimpArgs false

theorem u8_all {P : UInt8 → Bool} (h : (List.range 256).all (fun n => P (UInt8.ofNat n)) = true) (c : UInt8) : P c = true := by
 have := List.all_eq_true.1 h c.toNat (List.mem_range.2 c.toNat_lt)
 rwa [show UInt8.ofNat c.toNat = c from by simp] at this
def low8 (c : UInt8) : UInt8 := if 65 ≤ c.toNat ∧ c.toNat ≤ 90 then c + 32 else c
theorem low8_turn (c : UInt8) : turnC 65 90 32 (c.toNat : Int) = ((low8 c).toNat : Int) := of_decide_eq_true (u8_all (P := fun c => decide (turnC 65 90 32 (c.toNat : Int) = ((low8 c).toNat : Int))) (by decide +kernel) c)
theorem lowBA_ba (l : List UInt8) : lowBA (ba l) = ba (l.map low8) := by
 unfold lowBA
 rw [bytesOf, ba_data, List.map_map, ← strOfNums_bytes (l.map low8), List.map_map]
 congr 1
 exact List.map_congr_left fun c _ => low8_turn c
theorem progLower (l : List UInt8) (h : l.length ≤ 1099511627776) : ascii_Lower.f (ba l) = some (ba (l.map low8)) := by
 unfold ascii_Lower.f; rw [if_pos (by (first | omega | (simp only [ba_size', List.length_append, List.length_cons, List.length_nil]; omega) | (simp; omega) | (simp; done))), lowBA_ba]
theorem refLower_go : ∀ (q p : List UInt8) (out : List Int), p.length + q.length ≤ 1099511627776 → out.length = p.length →
  Ev (fun k => pursuivantref04_Lower.l0 k (ba (p ++ q)) out (p.length : Int)) (strOfNums (out ++ q.map fun c => ((low8 c).toNat : Int))) := by
 intro q
 induction q with
 | nil =>
  intro p out h ho
  refine Ev.step (fun k => by rw [pursuivantref04_Lower.l0]) ?_
  refine Ev.if_neg (by (first | omega | (simp only [ba_size', List.length_append, List.length_cons, List.length_nil]; omega) | (simp; omega) | (simp; done))) ?_
  simpa using Ev.now _
 | cons c q ih =>
  intro p out h ho
  simp only [List.length_cons] at h
  refine Ev.step (fun k => by rw [pursuivantref04_Lower.l0]) ?_
  refine Ev.if_pos (by (first | omega | (simp only [ba_size', List.length_append, List.length_cons, List.length_nil]; omega) | (simp; omega) | (simp; done))) (Ev.if_pos (by omega) ?_)
  have hn := ih (p ++ [c]) (out ++ [((low8 c).toNat : Int)]) (by (first | omega | (simp only [ba_size', List.length_append, List.length_cons, List.length_nil]; omega) | (simp; omega) | (simp; done))) (by (first | omega | (simp only [ba_size', List.length_append, List.length_cons, List.length_nil]; omega) | (simp; omega) | (simp; done)))
  rw [List.append_assoc, List.singleton_append, List.append_assoc, List.singleton_append, List.length_append, List.length_singleton] at hn
  simp only [bt_mid, wrap_nat _ (show p.length < 9223372036854775807 by omega)]
  have hl : out.length < 140737488355328 := by omega
  have e := low8_turn c
  unfold turnC at e
  rw [List.map_cons]
  by_cases h1 : (c.toNat : Int) ≥ 65
  ·refine Ev.if_pos h1 ?_
   by_cases h2 : (c.toNat : Int) ≤ 90
   ·refine Ev.if_pos h2 (Ev.if_pos hl ?_)
    rw [if_pos ⟨h1, h2⟩] at e
    rw [e]; exact hn
   ·refine Ev.if_neg h2 (Ev.if_pos hl ?_)
    rw [if_neg (fun h => h2 h.2)] at e
    rw [← e] at hn ⊢; exact hn
  ·refine Ev.if_neg h1 (Ev.if_pos hl ?_)
   rw [if_neg (fun h => h1 h.1)] at e
   rw [← e] at hn ⊢; exact hn
theorem refLowerE (l : List UInt8) (h : l.length ≤ 1099511627776) : Ev (fun k => pursuivantref04_Lower.f k (ba l)) (ba (l.map low8)) := by
 have := refLower_go l [] [] (by simpa using h) rfl
 unfold pursuivantref04_Lower.f
 rw [← strOfNums_bytes (l.map low8), List.map_map]
 simpa [Function.comp_def] using this
end Go.Proofs.YteemgpciheheoaaGreatDoorRRR.Hand
