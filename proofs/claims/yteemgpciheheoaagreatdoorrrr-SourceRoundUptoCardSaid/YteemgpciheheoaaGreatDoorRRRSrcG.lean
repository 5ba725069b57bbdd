/- pursuivantref11.Good: what its walk gives. Condition: as in the functions that it calls. -/
import Derived.Test.YteemgpciheheoaaGreatDoorRRRSrcM
import Derived.Test.YteemgpciheheoaaGreatDoorRRRFG1
namespace Go.Proofs.YteemgpciheheoaaGreatDoorRRR.Hand
open Go.RowKit Go.Proofs.YteemgpciheheoaaGreatDoorRRRW.PrintWords Go.Proofs.YteemgpciheheoaaGreatDoorRRRW.PrintLast Go.Proofs.YteemgpciheheoaaGreatDoorRRRW.PrintMore
set_option linter.unusedVariables false
set_option linter.unusedSimpArgs false

attribute [local go_sem high] eqA23
structure M1 (w0 W : World) (xs : Array Value) : Prop where
 x : W.heap[w0.heap.size]? = some (.cells xs 23 (0, 0))
 bel : Below w0.heap.size w0 W
theorem M1.below {w0 W W' : World} {xs : Array Value} (h : M1 w0 W xs) (hb : Below W.heap.size W W') : M1 w0 W' xs where
 x := blk_below h.x hb
 bel := below_then h.bel (below_size h.bel) hb
def srcRest (k : Nat) (x4 : Int) (x5 x6 x3 : ByteArray) : Option Bool :=
 (pursuivantref05_Good.f k x3).bind fun g => if g = true then (if -1 ≤ x4 then (if x4 ≤ 65535 then (if x5.toList = [] then some x6.toList.isEmpty else (pursuivantref11_path.f k x5).bind fun p => if p = true then some x6.toList.isEmpty else some false) else some false) else some false) else some false
theorem srcRest.mono : ∀ x4 x5 x6 x3 k, LeO (srcRest k x4 x5 x6 x3) (srcRest (k + 1) x4 x5 x6 x3) := by
 intro x4 x5 x6 x3 k
 unfold srcRest
 exact bindLe' (pursuivantref05_Good.mono _ k) (fun _ => iteLe' (iteLe' (iteLe' (iteLe' (reflLe' _) (bindLe' (pursuivantref11_path.mono _ k) (fun _ => reflLe' _))) (reflLe' _)) (reflLe' _)) (reflLe' _))
end Go.Proofs.YteemgpciheheoaaGreatDoorRRR.Hand
