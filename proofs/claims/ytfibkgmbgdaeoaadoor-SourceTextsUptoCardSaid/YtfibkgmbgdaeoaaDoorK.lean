/- What each Go function here computes, and that its call computes it, over contracts proved by hand (written by this project's xprint.py, which drives the kit's print). -/
import Derived.Test.YtfibkgmbgdaeoaaDoorProg
import Derived.Below
import Derived.Deep.Draws
import Derived.Deep.AppendLies
import Derived.Maps.AppendAt
import Derived.OwnWalk
import Derived.Laws.BytesArg
import Derived.Laws.MakeOwn
import Derived.Laws.OwnMore
import Derived.Deep.OwnRows
import Derived.Tactics
import Derived.Lib.ConvBytes
import Derived.Laws.Slices
import Derived.WalkKit
import Derived.KernelRfl
import Derived.RowKit3
import Derived.Deep.LoopGhost
import Derived.Deep.QuietTactic
import Derived.BigQuiet
import Derived.WideLaws
import Derived.Deep.DeepCutAuto
import Derived.Deep.CutBlock
import Derived.Deep.RegionHeld3
import Derived.Laws.Rows
import Derived.Lib.AppendStr
import Derived.ArgAppend
import Derived.Laws.IdiomCopy
import Derived.OrdersHeld
import Derived.Laws.BitsLemmas
import Derived.RowKit
import Derived.Test.YtfibkgmbgdaeoaaDoorWWords
import Derived.Test.YtfibkgmbgdaeoaaDoorWLast
import Derived.Test.YtfibkgmbgdaeoaaDoorWTab
import Derived.Test.YtfibkgmbgdaeoaaDoorWQPut
import Derived.Test.YtfibkgmbgdaeoaaDoorWApart
import Derived.Test.YtfibkgmbgdaeoaaDoorWFoot
import Derived.Test.YtfibkgmbgdaeoaaDoorWKept
import Derived.Test.YtfibkgmbgdaeoaaDoorWShare
import Derived.Test.YtfibkgmbgdaeoaaDoorWN
import Derived.Test.YtfibkgmbgdaeoaaDoorWEqStruct
import Derived.Test.YtfibkgmbgdaeoaaDoorWRepsOne
import Derived.Test.YtfibkgmbgdaeoaaDoorWInv
import Derived.Test.YtfibkgmbgdaeoaaDoorWGuard
import Derived.Test.YtfibkgmbgdaeoaaDoorWMore
namespace Go.Proofs.YtfibkgmbgdaeoaaDoor.Hand
open Go.RowKit Go.Proofs.YtfibkgmbgdaeoaaDoorW.PrintWords Go.Proofs.YtfibkgmbgdaeoaaDoorW.PrintLast Go.Proofs.YtfibkgmbgdaeoaaDoorW.PrintMore
attribute [local go_sem] max2_int min2_int max_two min_two max_three min_three max_four min_four   -- for this text's walks alone
set_option linter.unusedVariables false
set_option linter.unusedSimpArgs false



def errW : Option Int → Value
 | none => .nilIface
 | some c => .iface 0 (.int .i64 c)
theorem errW_none : errW none = .nilIface := rfl
theorem errW_some (c : Int) : errW (some c) = .iface 0 (.int .i64 c) := rfl

-- the values' own types
structure S23 where
 f0 : Int
 f1 : ByteArray
 f2 : Bool
 f3 : ByteArray
 f4 : Int
 f5 : ByteArray
 f6 : ByteArray
def k23 : Kd S23 := Kd.iso (Kd.pair (Kd.int .i64) (Kd.pair Kd.string (Kd.pair Kd.bool (Kd.pair Kd.string (Kd.pair (Kd.int .i64) (Kd.pair Kd.string Kd.string)))))) (fun x : S23 => (x.f0, x.f1, x.f2, x.f3, x.f4, x.f5, x.f6))
theorem k23_open {w : World} {x : S23} {cs : List Value} (h : k23.K w x cs) : cs = [.int .i64 x.f0, .string x.f1, .bool x.f2, .string x.f3, .int .i64 x.f4, .string x.f5, .string x.f6] := by
 obtain ⟨_, _, rfl, rfl, ⟨_, _, rfl, rfl, ⟨_, _, rfl, rfl, ⟨_, _, rfl, rfl, ⟨_, _, rfl, rfl, ⟨_, _, rfl, rfl, rfl⟩⟩⟩⟩⟩⟩ := h
 exact rfl
end Go.Proofs.YtfibkgmbgdaeoaaDoor.Hand
