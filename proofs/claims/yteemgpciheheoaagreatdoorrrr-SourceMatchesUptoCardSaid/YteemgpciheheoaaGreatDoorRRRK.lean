/- What each Go function here computes, and that its call computes it, over contracts proved by hand (written by this project's xprint.py, which drives the kit's print). -/
import Derived.Test.YteemgpciheheoaaGreatDoorRRRProg
import Derived.Below
import Derived.Deep.Draws
import Derived.Deep.AppendLies
import Derived.Maps.AppendAt
import Derived.OwnWalk
import Derived.Laws.BytesArg
import Derived.Laws.MakeOwn
import Derived.Laws.OwnMore
import Derived.Deep.OwnRows
import Derived.Tactics
import Derived.Lib.ConvBytes
import Derived.Laws.Slices
import Derived.WalkKit
import Derived.KernelRfl
import Derived.RowKit3
import Derived.Deep.LoopGhost
import Derived.Deep.QuietTactic
import Derived.BigQuiet
import Derived.WideLaws
import Derived.Deep.DeepCutAuto
import Derived.Deep.CutBlock
import Derived.Deep.RegionHeld3
import Derived.Laws.Rows
import Derived.Lib.AppendStr
import Derived.ArgAppend
import Derived.Laws.IdiomCopy
import Derived.OrdersHeld
import Derived.Laws.BitsLemmas
import Derived.RowKit
import Derived.Test.YteemgpciheheoaaGreatDoorRRRWWords
import Derived.Test.YteemgpciheheoaaGreatDoorRRRWLast
import Derived.Test.YteemgpciheheoaaGreatDoorRRRWTab
import Derived.Test.YteemgpciheheoaaGreatDoorRRRWQPut
import Derived.Test.YteemgpciheheoaaGreatDoorRRRWApart
import Derived.Test.YteemgpciheheoaaGreatDoorRRRWFoot
import Derived.Test.YteemgpciheheoaaGreatDoorRRRWKept
import Derived.Test.YteemgpciheheoaaGreatDoorRRRWShare
import Derived.Test.YteemgpciheheoaaGreatDoorRRRWN
import Derived.Test.YteemgpciheheoaaGreatDoorRRRWEqStruct
import Derived.Test.YteemgpciheheoaaGreatDoorRRRWRepsOne
import Derived.Test.YteemgpciheheoaaGreatDoorRRRWInv
import Derived.Test.YteemgpciheheoaaGreatDoorRRRWGuard
import Derived.Test.YteemgpciheheoaaGreatDoorRRRWMore
namespace Go.Proofs.YteemgpciheheoaaGreatDoorRRR.Hand
open Go.RowKit Go.Proofs.YteemgpciheheoaaGreatDoorRRRW.PrintWords Go.Proofs.YteemgpciheheoaaGreatDoorRRRW.PrintLast Go.Proofs.YteemgpciheheoaaGreatDoorRRRW.PrintMore
attribute [local go_sem] max2_int min2_int max_two min_two max_three min_three max_four min_four   -- for this text's walks alone
set_option linter.unusedVariables false
set_option linter.unusedSimpArgs false



def errW : Option Int → Value
 | none => .nilIface
 | some c => .iface 0 (.int .i64 c)
theorem errW_none : errW none = .nilIface := rfl
theorem errW_some (c : Int) : errW (some c) = .iface 0 (.int .i64 c) := rfl

-- the values' own types
structure S30 where
 f0 : ByteArray
 f1 : ByteArray
 f2 : ByteArray
 f3 : Int
 f4 : ByteArray
 f5 : Bool
 f6 : ByteArray
 f7 : Bool
 f8 : ByteArray
def k30 : Kd S30 := Kd.iso (Kd.pair Kd.string (Kd.pair Kd.string (Kd.pair Kd.string (Kd.pair (Kd.int .i64) (Kd.pair Kd.string (Kd.pair Kd.bool (Kd.pair Kd.string (Kd.pair Kd.bool Kd.string)))))))) (fun x : S30 => (x.f0, x.f1, x.f2, x.f3, x.f4, x.f5, x.f6, x.f7, x.f8))
theorem k30_open {w : World} {x : S30} {cs : List Value} (h : k30.K w x cs) : cs = [.string x.f0, .string x.f1, .string x.f2, .int .i64 x.f3, .string x.f4, .bool x.f5, .string x.f6, .bool x.f7, .string x.f8] := by
 obtain ⟨_, _, rfl, rfl, ⟨_, _, rfl, rfl, ⟨_, _, rfl, rfl, ⟨_, _, rfl, rfl, ⟨_, _, rfl, rfl, ⟨_, _, rfl, rfl, ⟨_, _, rfl, rfl, ⟨_, _, rfl, rfl, rfl⟩⟩⟩⟩⟩⟩⟩⟩ := h
 exact rfl
structure S32 where
 f0 : ByteArray
 f1 : ByteArray
 f2 : Int
def k32 : Kd S32 := Kd.iso (Kd.pair Kd.string (Kd.pair Kd.string (Kd.int .i64))) (fun x : S32 => (x.f0, x.f1, x.f2))
theorem k32_open {w : World} {x : S32} {cs : List Value} (h : k32.K w x cs) : cs = [.string x.f0, .string x.f1, .int .i64 x.f2] := by
 obtain ⟨_, _, rfl, rfl, ⟨_, _, rfl, rfl, rfl⟩⟩ := h
 exact rfl
structure S23 where
 f0 : Int
 f1 : ByteArray
 f2 : Bool
 f3 : ByteArray
 f4 : Int
 f5 : ByteArray
 f6 : ByteArray
def k23 : Kd S23 := Kd.iso (Kd.pair (Kd.int .i64) (Kd.pair Kd.string (Kd.pair Kd.bool (Kd.pair Kd.string (Kd.pair (Kd.int .i64) (Kd.pair Kd.string Kd.string)))))) (fun x : S23 => (x.f0, x.f1, x.f2, x.f3, x.f4, x.f5, x.f6))
theorem k23_open {w : World} {x : S23} {cs : List Value} (h : k23.K w x cs) : cs = [.int .i64 x.f0, .string x.f1, .bool x.f2, .string x.f3, .int .i64 x.f4, .string x.f5, .string x.f6] := by
 obtain ⟨_, _, rfl, rfl, ⟨_, _, rfl, rfl, ⟨_, _, rfl, rfl, ⟨_, _, rfl, rfl, ⟨_, _, rfl, rfl, ⟨_, _, rfl, rfl, rfl⟩⟩⟩⟩⟩⟩ := h
 exact rfl
end Go.Proofs.YteemgpciheheoaaGreatDoorRRR.Hand
