/- What each Go function here computes, and that its call computes it, over contracts proved by hand (written by this project's xprint.py, which drives the kit's print). -/
import Derived.Test.YtindkgcbglonhaaDoorProg
import Derived.Below
import Derived.Deep.Draws
import Derived.Deep.AppendLies
import Derived.Maps.AppendAt
import Derived.OwnWalk
import Derived.Laws.BytesArg
import Derived.Laws.MakeOwn
import Derived.Laws.OwnMore
import Derived.Deep.OwnRows
import Derived.Tactics
import Derived.Lib.ConvBytes
import Derived.Laws.Slices
import Derived.WalkKit
import Derived.KernelRfl
import Derived.RowKit3
import Derived.Deep.LoopGhost
import Derived.Deep.QuietTactic
import Derived.BigQuiet
import Derived.WideLaws
import Derived.Deep.DeepCutAuto
import Derived.Deep.CutBlock
import Derived.Deep.RegionHeld3
import Derived.Laws.Rows
import Derived.Lib.AppendStr
import Derived.ArgAppend
import Derived.Laws.IdiomCopy
import Derived.OrdersHeld
import Derived.Laws.BitsLemmas
import Derived.RowKit
import Derived.Test.YtindkgcbglonhaaDoorWWords
import Derived.Test.YtindkgcbglonhaaDoorWLast
import Derived.Test.YtindkgcbglonhaaDoorWTab
import Derived.Test.YtindkgcbglonhaaDoorWQPut
import Derived.Test.YtindkgcbglonhaaDoorWApart
import Derived.Test.YtindkgcbglonhaaDoorWFoot
import Derived.Test.YtindkgcbglonhaaDoorWKept
import Derived.Test.YtindkgcbglonhaaDoorWShare
import Derived.Test.YtindkgcbglonhaaDoorWN
import Derived.Test.YtindkgcbglonhaaDoorWEqStruct
import Derived.Test.YtindkgcbglonhaaDoorWRepsOne
import Derived.Test.YtindkgcbglonhaaDoorWInv
import Derived.Test.YtindkgcbglonhaaDoorWGuard
import Derived.Test.YtindkgcbglonhaaDoorWMore
namespace Go.Proofs.YtindkgcbglonhaaDoor.Hand
open Go.RowKit Go.Proofs.YtindkgcbglonhaaDoorW.PrintWords Go.Proofs.YtindkgcbglonhaaDoorW.PrintLast Go.Proofs.YtindkgcbglonhaaDoorW.PrintMore
attribute [local go_sem] max2_int min2_int max_two min_two max_three min_three max_four min_four   -- for this text's walks alone
set_option linter.unusedVariables false
set_option linter.unusedSimpArgs false



def errW : Option Int → Value
 | none => .nilIface
 | some c => .iface 0 (.int .i64 c)
theorem errW_none : errW none = .nilIface := rfl
theorem errW_some (c : Int) : errW (some c) = .iface 0 (.int .i64 c) := rfl

theorem info5 : (Tryd.prog.info? 5).map (fun i => (i.zero, i.size, i.bytes)) = some (some (.int .u8 0), 1, 1) := by kernel_rfl
-- the values' own types
end Go.Proofs.YtindkgcbglonhaaDoor.Hand
