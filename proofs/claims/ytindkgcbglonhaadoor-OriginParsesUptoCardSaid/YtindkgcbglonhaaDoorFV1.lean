/- What each Go function here computes, and that its call computes it, over contracts proved by hand (written by this project's xprint.py, which drives the kit's print). -/
import Derived.Test.YtindkgcbglonhaaDoorZ
import Derived.Test.YtindkgcbglonhaaDoorK
import Derived.Test.YtindkgcbglonhaaDoorUrlP
import Derived.Test.YtindkgcbglonhaaDoorOriginG
import Derived.Test.YtindkgcbglonhaaDoorRefG
import Derived.Test.YtindkgcbglonhaaDoorFA1
import Derived.Test.YtindkgcbglonhaaDoorFA2
import Derived.Test.YtindkgcbglonhaaDoorFA3
import Derived.Test.YtindkgcbglonhaaDoorFU1
import Derived.Test.YtindkgcbglonhaaDoorFR1
import Derived.Test.YtindkgcbglonhaaDoorFQ1
namespace Go.Proofs.YtindkgcbglonhaaDoor.Hand
open Go.RowKit Go.Proofs.YtindkgcbglonhaaDoorW.PrintWords Go.Proofs.YtindkgcbglonhaaDoorW.PrintLast Go.Proofs.YtindkgcbglonhaaDoorW.PrintMore
attribute [local go_sem] Instr.field asAgg max2_int min2_int max_two min_two max_three min_three max_four min_four   -- for this text's walks alone
set_option linter.unusedVariables false
set_option linter.unusedSimpArgs false

theorem eqA39 (d : Nat) (w : World) (x0 y0 x1 y1 x2 y2 : ByteArray) (x3 y3 : Int) (x4 y4 : ByteArray) (x5 y5 : Bool) (x6 y6 : ByteArray) (x7 y7 : Bool) (x8 y8 : ByteArray) :
  (Op.equalIn (d + 2) 39 (.agg #[.string x0, .string x1, .string x2, .int .i64 x3, .string x4, .bool x5, .string x6, .bool x7, .string x8]) (.agg #[.string y0, .string y1, .string y2, .int .i64 y3, .string y4, .bool y5, .string y6, .bool y7, .string y8])).run Tryd.prog w = .ok (x0.toList == y0.toList && (x1.toList == y1.toList && (x2.toList == y2.toList && (x3 == y3 && (x4.toList == y4.toList && (x5 == y5 && (x6.toList == y6.toList && (x7 == y7 && (x8.toList == y8.toList))))))))) w := by
 refine eqA_of Tryd.underlying39 (by kernel_rfl) ?_
 refine eqf_cons (by rfl) (by go_simp; rfl) (by go_simp; rfl) (by go_simp) ?_
 refine eqf_cons (by rfl) (by go_simp; rfl) (by go_simp; rfl) (by go_simp) ?_
 refine eqf_cons (by rfl) (by go_simp; rfl) (by go_simp; rfl) (by go_simp) ?_
 refine eqf_cons (by rfl) (by go_simp; rfl) (by go_simp; rfl) (by go_simp) ?_
 refine eqf_cons (by rfl) (by go_simp; rfl) (by go_simp; rfl) (by go_simp) ?_
 refine eqf_cons (by rfl) (by go_simp; rfl) (by go_simp; rfl) (by go_simp) ?_
 refine eqf_cons (by rfl) (by go_simp; rfl) (by go_simp; rfl) (by go_simp) ?_
 refine eqf_cons (by rfl) (by go_simp; rfl) (by go_simp; rfl) (by go_simp) ?_
 exact eqf_last (by rfl) (by go_simp; rfl) (by go_simp; rfl) (by go_simp)
end Go.Proofs.YtindkgcbglonhaaDoor.Hand
