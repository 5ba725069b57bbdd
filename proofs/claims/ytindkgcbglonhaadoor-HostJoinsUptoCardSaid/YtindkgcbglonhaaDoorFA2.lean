/- What each Go function here computes, and that its call computes it, over contracts proved by hand (written by this project's xprint.py, which drives the kit's print). -/
import Derived.Test.YtindkgcbglonhaaDoorZ
import Derived.Test.YtindkgcbglonhaaDoorK
import Derived.Test.YtindkgcbglonhaaDoorLib
import Derived.Test.YtindkgcbglonhaaDoorTurned
import Derived.Test.YtindkgcbglonhaaDoorGW
import Derived.Test.YtindkgcbglonhaaDoorFA1
namespace Go.Proofs.YtindkgcbglonhaaDoor.Hand
open Go.RowKit Go.Proofs.YtindkgcbglonhaaDoorW.PrintWords Go.Proofs.YtindkgcbglonhaaDoorW.PrintLast Go.Proofs.YtindkgcbglonhaaDoorW.PrintMore
attribute [local go_sem] max2_int min2_int max_two min_two max_three min_three max_four min_four   -- for this text's walks alone
set_option linter.unusedVariables false
set_option linter.unusedSimpArgs false

/-! ### pursuivantref10_Method: function 26 -/
/-! ### pursuivantref10_Bad: function 28 -/
/-! ### pursuivantref10_Simple: function 30 -/
/-! ### pursuivantref04_Lower: function 71 -/
/-! ### pursuivantref10_language: function 72 -/
/-! ### pursuivantref10_unsafe: function 73 -/
/-! ### pursuivantref04_Trim: function 74 -/
/-! ### pursuivantref10_Header: function 32 -/
/-! ### pursuivantref10_Forbidden: function 34 -/
/-! ### pursuivantref06_Port: function 46 -/
/-! ### pursuivantref08_Nobody: function 88 -/
end Go.Proofs.YtindkgcbglonhaaDoor.Hand
