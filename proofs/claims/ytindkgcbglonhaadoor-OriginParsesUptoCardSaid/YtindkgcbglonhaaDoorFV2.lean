/- What each Go function here computes, and that its call computes it, over contracts proved by hand (written by this project's xprint.py, which drives the kit's print). -/
import Derived.Test.YtindkgcbglonhaaDoorZ
import Derived.Test.YtindkgcbglonhaaDoorK
import Derived.Test.YtindkgcbglonhaaDoorUrlP
import Derived.Test.YtindkgcbglonhaaDoorOriginG
import Derived.Test.YtindkgcbglonhaaDoorRefG
import Derived.Test.YtindkgcbglonhaaDoorFA1
import Derived.Test.YtindkgcbglonhaaDoorFA2
import Derived.Test.YtindkgcbglonhaaDoorFA3
import Derived.Test.YtindkgcbglonhaaDoorFU1
import Derived.Test.YtindkgcbglonhaaDoorFR1
import Derived.Test.YtindkgcbglonhaaDoorFQ1
namespace Go.Proofs.YtindkgcbglonhaaDoor.Hand
open Go.RowKit Go.Proofs.YtindkgcbglonhaaDoorW.PrintWords Go.Proofs.YtindkgcbglonhaaDoorW.PrintLast Go.Proofs.YtindkgcbglonhaaDoorW.PrintMore
attribute [local go_sem] Instr.field asAgg max2_int min2_int max_two min_two max_three min_three max_four min_four   -- for this text's walks alone
set_option linter.unusedVariables false
set_option linter.unusedSimpArgs false

theorem eqA50 (d : Nat) (w : World) (x0 y0 x1 y1 : ByteArray) (x2 y2 : Int) :
  (Op.equalIn (d + 2) 50 (.agg #[.string x0, .string x1, .int .i64 x2]) (.agg #[.string y0, .string y1, .int .i64 y2])).run Tryd.prog w = .ok (x0.toList == y0.toList && (x1.toList == y1.toList && (x2 == y2))) w := by
 refine eqA_of Tryd.underlying50 (by kernel_rfl) ?_
 refine eqf_cons (by rfl) (by go_simp; rfl) (by go_simp; rfl) (by go_simp) ?_
 refine eqf_cons (by rfl) (by go_simp; rfl) (by go_simp; rfl) (by go_simp) ?_
 exact eqf_last (by rfl) (by go_simp; rfl) (by go_simp; rfl) (by go_simp)
end Go.Proofs.YtindkgcbglonhaaDoor.Hand
