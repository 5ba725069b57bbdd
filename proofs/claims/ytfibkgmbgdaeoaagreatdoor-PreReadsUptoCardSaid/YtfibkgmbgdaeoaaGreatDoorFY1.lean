/- What each Go function here computes, and that its call computes it, over contracts proved by hand (written by this project's xprint.py, which drives the kit's print). -/
import Derived.Test.YtfibkgmbgdaeoaaGreatDoorZ
import Derived.Test.YtfibkgmbgdaeoaaGreatDoorK
import Derived.Test.YtfibkgmbgdaeoaaGreatDoorPreJ
import Derived.Test.YtfibkgmbgdaeoaaGreatDoorPreL
import Derived.Test.YtfibkgmbgdaeoaaGreatDoorPreR
import Derived.Test.YtfibkgmbgdaeoaaGreatDoorSafeU
import Derived.Test.YtfibkgmbgdaeoaaGreatDoorSafeR
import Derived.Test.YtfibkgmbgdaeoaaGreatDoorList
import Derived.Test.YtfibkgmbgdaeoaaGreatDoorFA1
import Derived.Test.YtfibkgmbgdaeoaaGreatDoorFP1
import Derived.Test.YtfibkgmbgdaeoaaGreatDoorFPB1
import Derived.Test.YtfibkgmbgdaeoaaGreatDoorFYA1
import Derived.Test.YtfibkgmbgdaeoaaGreatDoorFYB1
namespace Go.Proofs.YtfibkgmbgdaeoaaGreatDoor.Hand
open Go.RowKit Go.Proofs.YtfibkgmbgdaeoaaGreatDoorW.PrintWords Go.Proofs.YtfibkgmbgdaeoaaGreatDoorW.PrintLast Go.Proofs.YtfibkgmbgdaeoaaGreatDoorW.PrintMore
attribute [local go_sem] Instr.field asAgg max2_int min2_int max_two min_two max_three min_three max_four min_four   -- for this text's walks alone
set_option linter.unusedVariables false
set_option linter.unusedSimpArgs false

theorem eqA45 (d : Nat) (w : World) (x0 y0 x1 y1 : ByteArray) :
  (Op.equalIn (d + 2) 45 (.agg #[.string x0, .string x1]) (.agg #[.string y0, .string y1])).run Tryz.prog w = .ok (x0.toList == y0.toList && (x1.toList == y1.toList)) w := by
 refine eqA_of Tryz.underlying45 (by kernel_rfl) ?_
 refine eqf_cons (by rfl) (by go_simp; rfl) (by go_simp; rfl) (by go_simp) ?_
 exact eqf_last (by rfl) (by go_simp; rfl) (by go_simp; rfl) (by go_simp)
end Go.Proofs.YtfibkgmbgdaeoaaGreatDoor.Hand
