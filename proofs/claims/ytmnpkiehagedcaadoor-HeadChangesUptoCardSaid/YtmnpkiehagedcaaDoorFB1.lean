/- What each Go function here computes, and that its call computes it, over contracts proved by hand (written by this project's xprint.py, which drives the kit's print). -/
import Derived.Test.YtmnpkiehagedcaaDoorZ
import Derived.Test.YtmnpkiehagedcaaDoorK
import Derived.Test.YtmnpkiehagedcaaDoorFA1
import Derived.Test.YtmnpkiehagedcaaDoorFA2
import Derived.Test.YtmnpkiehagedcaaDoorFA3
namespace Go.Proofs.YtmnpkiehagedcaaDoor.Hand
open Go.RowKit Go.Proofs.YtmnpkiehagedcaaDoorW.PrintWords Go.Proofs.YtmnpkiehagedcaaDoorW.PrintLast Go.Proofs.YtmnpkiehagedcaaDoorW.PrintMore
attribute [local go_sem] max2_int min2_int max_two min_two max_three min_three max_four min_four   -- for this text's walks alone
set_option linter.unusedVariables false
set_option linter.unusedSimpArgs false

theorem eqA29 (d : Nat) (w : World) (x0 y0 : ByteArray) (x1 y1 : ByteArray) :
  (Op.equalIn (d + 2) 29 (.agg #[.string x0, .string x1]) (.agg #[.string y0, .string y1])).run Tryd.prog w = .ok (x0.toList == y0.toList && (x1.toList == y1.toList)) w := by
 refine eqA_of Tryd.underlying29 (by kernel_rfl) ?_
 refine eqf_cons (by rfl) (by go_simp; rfl) (by go_simp; rfl) (by go_simp) ?_
 exact eqf_last (by rfl) (by go_simp; rfl) (by go_simp; rfl) (by go_simp)
end Go.Proofs.YtmnpkiehagedcaaDoor.Hand
