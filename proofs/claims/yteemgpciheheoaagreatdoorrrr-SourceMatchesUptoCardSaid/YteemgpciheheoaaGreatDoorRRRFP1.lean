/- What each Go function here computes, and that its call computes it, over contracts proved by hand (written by this project's xprint.py, which drives the kit's print). -/
import Derived.Test.YteemgpciheheoaaGreatDoorRRRZ
import Derived.Test.YteemgpciheheoaaGreatDoorRRRK
import Derived.Test.YteemgpciheheoaaGreatDoorRRRLow
import Derived.Test.YteemgpciheheoaaGreatDoorRRRFA1
import Derived.Test.YteemgpciheheoaaGreatDoorRRRFA2
import Derived.Test.YteemgpciheheoaaGreatDoorRRRFA3
namespace Go.Proofs.YteemgpciheheoaaGreatDoorRRR.Hand
open Go.RowKit Go.Proofs.YteemgpciheheoaaGreatDoorRRRW.PrintWords Go.Proofs.YteemgpciheheoaaGreatDoorRRRW.PrintLast Go.Proofs.YteemgpciheheoaaGreatDoorRRRW.PrintMore
attribute [local go_sem] Instr.field asAgg max2_int min2_int max_two min_two max_three min_three max_four min_four   -- for this text's walks alone
set_option linter.unusedVariables false
set_option linter.unusedSimpArgs false

end Go.Proofs.YteemgpciheheoaaGreatDoorRRR.Hand
