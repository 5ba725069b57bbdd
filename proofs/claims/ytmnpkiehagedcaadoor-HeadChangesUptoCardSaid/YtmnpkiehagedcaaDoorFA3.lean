/- What each Go function here computes, and that its call computes it, over contracts proved by hand (written by this project's xprint.py, which drives the kit's print). -/
import Derived.Test.YtmnpkiehagedcaaDoorZ
import Derived.Test.YtmnpkiehagedcaaDoorK
import Derived.Test.YtmnpkiehagedcaaDoorLib
import Derived.Test.YtmnpkiehagedcaaDoorLow
import Derived.Test.YtmnpkiehagedcaaDoorList
import Derived.Test.YtmnpkiehagedcaaDoorFA1
namespace Go.Proofs.YtmnpkiehagedcaaDoor.Hand
open Go.RowKit Go.Proofs.YtmnpkiehagedcaaDoorW.PrintWords Go.Proofs.YtmnpkiehagedcaaDoorW.PrintLast Go.Proofs.YtmnpkiehagedcaaDoorW.PrintMore
attribute [local go_sem] max2_int min2_int max_two min_two max_three min_three max_four min_four   -- for this text's walks alone
set_option linter.unusedVariables false
set_option linter.unusedSimpArgs false

/-! ### pursuivantlaw04_AsciiRound: function 9 -/
end Go.Proofs.YtmnpkiehagedcaaDoor.Hand
