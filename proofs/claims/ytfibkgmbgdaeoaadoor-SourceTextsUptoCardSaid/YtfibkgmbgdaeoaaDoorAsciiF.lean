/- What package ascii and its reference compute, over lists of bytes. Conditions: at most 2^40 bytes (2^31 for List). -/
import Derived.Test.YtfibkgmbgdaeoaaDoorPlain
import Derived.Test.YtfibkgmbgdaeoaaDoorLow
import Derived.Lib.SplitLaws
import Derived.Lib.SlTrimSet
namespace Go.Proofs.YtfibkgmbgdaeoaaDoor.Hand
open Go.RowKit Go.Proofs.YtfibkgmbgdaeoaaDoorW.PrintWords Go.Proofs.YtfibkgmbgdaeoaaDoorW.PrintLast Go.Proofs.YtfibkgmbgdaeoaaDoorW.PrintMore
set_option linter.unusedVariables false
set_option linter.unusedSimpArgs false

theorem u8_all {P : UInt8 → Bool} (h : (List.range 256).all (fun n => P (UInt8.ofNat n)) = true) (c : UInt8) : P c = true := by
 have := List.all_eq_true.1 h c.toNat (List.mem_range.2 c.toNat_lt)
 rwa [show UInt8.ofNat c.toNat = c from by simp] at this
def low8 (c : UInt8) : UInt8 := if 65 ≤ c.toNat ∧ c.toNat ≤ 90 then c + 32 else c
theorem low8_turn (c : UInt8) : turnC 65 90 32 (c.toNat : Int) = ((low8 c).toNat : Int) := of_decide_eq_true (u8_all (P := fun c => decide (turnC 65 90 32 (c.toNat : Int) = ((low8 c).toNat : Int))) (by decide +kernel) c)
theorem lowBA_ba (l : List UInt8) : lowBA (ba l) = ba (l.map low8) := by
 unfold lowBA
 rw [bytesOf, ba_data, List.map_map, ← strOfNums_bytes (l.map low8), List.map_map]
 congr 1
 exact List.map_congr_left fun c _ => low8_turn c
theorem progLower (l : List UInt8) (h : l.length ≤ 1099511627776) : ascii_Lower.f (ba l) = some (ba (l.map low8)) := by
 unfold ascii_Lower.f; rw [if_pos (by (first | omega | (simp only [ba_size', List.length_append, List.length_cons, List.length_nil]; omega) | (simp; omega) | (simp; done))), lowBA_ba]
end Go.Proofs.YtfibkgmbgdaeoaaDoor.Hand
