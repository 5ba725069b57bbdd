/- What each Go function here computes, and that its call computes it, over contracts proved by hand (written by this project's xprint.py, which drives the kit's print). -/
import Derived.Test.YtindkgcbglonhaaDoorProg
import Derived.Below
import Derived.Deep.Draws
import Derived.Deep.AppendLies
import Derived.Maps.AppendAt
import Derived.OwnWalk
import Derived.Laws.BytesArg
import Derived.Laws.MakeOwn
import Derived.Laws.OwnMore
import Derived.Deep.OwnRows
import Derived.Tactics
import Derived.Lib.ConvBytes
import Derived.Laws.Slices
import Derived.WalkKit
import Derived.KernelRfl
import Derived.RowKit3
import Derived.Deep.LoopGhost
import Derived.Deep.QuietTactic
import Derived.BigQuiet
import Derived.WideLaws
import Derived.Deep.DeepCutAuto
import Derived.Deep.CutBlock
import Derived.Deep.RegionHeld3
import Derived.Laws.Rows
import Derived.Lib.AppendStr
import Derived.ArgAppend
import Derived.Laws.IdiomCopy
import Derived.OrdersHeld
import Derived.Laws.BitsLemmas
import Derived.RowKit
import Derived.Test.YtindkgcbglonhaaDoorWWords
import Derived.Test.YtindkgcbglonhaaDoorWLast
import Derived.Test.YtindkgcbglonhaaDoorWTab
import Derived.Test.YtindkgcbglonhaaDoorWQPut
import Derived.Test.YtindkgcbglonhaaDoorWApart
import Derived.Test.YtindkgcbglonhaaDoorWFoot
import Derived.Test.YtindkgcbglonhaaDoorWKept
import Derived.Test.YtindkgcbglonhaaDoorWShare
import Derived.Test.YtindkgcbglonhaaDoorWN
import Derived.Test.YtindkgcbglonhaaDoorWEqStruct
import Derived.Test.YtindkgcbglonhaaDoorWRepsOne
import Derived.Test.YtindkgcbglonhaaDoorWInv
import Derived.Test.YtindkgcbglonhaaDoorWGuard
import Derived.Test.YtindkgcbglonhaaDoorWMore
namespace Go.Proofs.YtindkgcbglonhaaDoor.Hand
open Go.RowKit Go.Proofs.YtindkgcbglonhaaDoorW.PrintWords Go.Proofs.YtindkgcbglonhaaDoorW.PrintLast Go.Proofs.YtindkgcbglonhaaDoorW.PrintMore
attribute [local go_sem] max2_int min2_int max_two min_two max_three min_three max_four min_four   -- for this text's walks alone
set_option linter.unusedVariables false
set_option linter.unusedSimpArgs false



def errW : Option Int → Value
  | none => .nilIface
  | some c => .iface 0 (.int .i64 c)
theorem errW_none : errW none = .nilIface := rfl
theorem errW_some (c : Int) : errW (some c) = .iface 0 (.int .i64 c) := rfl

-- the values' own types
/-! #### struct type 31 -/
/-! #### struct type 39 -/
structure S39 where
  f0 : ByteArray
  f1 : ByteArray
  f2 : ByteArray
  f3 : Int
  f4 : ByteArray
  f5 : Bool
  f6 : ByteArray
  f7 : Bool
  f8 : ByteArray
def k39 : Kd S39 := Kd.iso (Kd.pair Kd.string (Kd.pair Kd.string (Kd.pair Kd.string (Kd.pair (Kd.int .i64) (Kd.pair Kd.string (Kd.pair Kd.bool (Kd.pair Kd.string (Kd.pair Kd.bool Kd.string)))))))) (fun x : S39 => (x.f0, x.f1, x.f2, x.f3, x.f4, x.f5, x.f6, x.f7, x.f8))
theorem k39_open {w : World} {x : S39} {cs : List Value} (h : k39.K w x cs) : cs = [.string x.f0, .string x.f1, .string x.f2, .int .i64 x.f3, .string x.f4, .bool x.f5, .string x.f6, .bool x.f7, .string x.f8] := by
  obtain ⟨_, _, rfl, rfl, ⟨_, _, rfl, rfl, ⟨_, _, rfl, rfl, ⟨_, _, rfl, rfl, ⟨_, _, rfl, rfl, ⟨_, _, rfl, rfl, ⟨_, _, rfl, rfl, ⟨_, _, rfl, rfl, rfl⟩⟩⟩⟩⟩⟩⟩⟩ := h
  exact rfl
/-! #### struct type 50 -/
structure S50 where
  f0 : ByteArray
  f1 : ByteArray
  f2 : Int
def k50 : Kd S50 := Kd.iso (Kd.pair Kd.string (Kd.pair Kd.string (Kd.int .i64))) (fun x : S50 => (x.f0, x.f1, x.f2))
theorem k50_open {w : World} {x : S50} {cs : List Value} (h : k50.K w x cs) : cs = [.string x.f0, .string x.f1, .int .i64 x.f2] := by
  obtain ⟨_, _, rfl, rfl, ⟨_, _, rfl, rfl, rfl⟩⟩ := h
  exact rfl
end Go.Proofs.YtindkgcbglonhaaDoor.Hand
