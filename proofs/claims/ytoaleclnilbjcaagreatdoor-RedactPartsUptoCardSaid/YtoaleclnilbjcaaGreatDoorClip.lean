/- slices.IndexFunc, ContainsFunc, DeleteFunc at headers, whatever the function handed over: it says p of each, in every world that PW lets by. No condition. -/
import Derived.Test.YtoaleclnilbjcaaGreatDoorRow
import Derived.Lib.SliceRun
import Derived.WalkKit
import Derived.Test.YtoaleclnilbjcaaGreatDoorK
import Derived.Lib.Hide
import Derived.Deep.LoopGhost
import Derived.KernelRfl
import Derived.Test.YtoaleclnilbjcaaGreatDoorGW
import Derived.Test.YtoaleclnilbjcaaGreatDoorWMore
namespace Go.Proofs.YtoaleclnilbjcaaGreatDoor.Hand
open Go.RowKit Go.Proofs.YtoaleclnilbjcaaGreatDoorW.PrintWords Go.Proofs.YtoaleclnilbjcaaGreatDoorW.PrintLast Go.Proofs.YtoaleclnilbjcaaGreatDoorW.PrintMore
set_option linter.unusedVariables false
set_option linter.unusedSimpArgs false

def encH (x : S58) : List Value := [.string x.f0, .string x.f1]
theorem flatH : Flat k58 encH := ⟨fun _ => rfl, fun h => k58_openM h, fun w base ok x => k58_mkM w base ok x, fun h => k58_open h, fun w x => k58_mk w x⟩
end Go.Proofs.YtoaleclnilbjcaaGreatDoor.Hand

/- slices.Clip at each element type: the same slice, its capacity its length. Condition: lengths below 2^63. -/
namespace Go.Proofs.YtoaleclnilbjcaaGreatDoor.Hand
open Go.RowKit Go.Proofs.YtoaleclnilbjcaaGreatDoorW.PrintWords Go.Proofs.YtoaleclnilbjcaaGreatDoorW.PrintLast Go.Proofs.YtoaleclnilbjcaaGreatDoorW.PrintMore
set_option linter.unusedVariables false
set_option linter.unusedSimpArgs false
theorem clipH (A : Option Addr) (n c : Nat) (w : World) (hn : n ≤ c) (hc : n ≤ 9223372036854775807) :
  Calls Tryz.prog 36 #[.slice A n c] w fun e w' => e = .returned (.slice A n n) ∧ w = w' := by
 go_enter Tryz.func36, Tryz.ntmps36
 go_wp2
 go_ret
 exact ⟨rfl, rfl⟩
theorem clipV {α : Type} {d : Kd α} {e : Nat} {W : World} {base : Nat} {ok : Nat → Prop} {A : Option Addr} {c : Nat} {xs : List α} (h : Kd.V d e W base ok (.slice A xs.length c) xs) : Kd.V d e W base ok (.slice A xs.length xs.length) xs := by
 obtain ⟨A', c', hv, hl, hf⟩ := h
 injection hv with h1 h2 h3
 subst h1
 exact ⟨A, xs.length, rfl, Nat.le_refl _, hf⟩
end Go.Proofs.YtoaleclnilbjcaaGreatDoor.Hand
