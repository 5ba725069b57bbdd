/- slices.Clip at each element type: the same slice, its capacity its length. Condition: lengths below 2^63. -/
import Derived.Test.YtfibkgmbgdaeoaaGreatDoorGW
import Derived.Test.YtfibkgmbgdaeoaaGreatDoorK
import Derived.WalkKit
import Derived.KernelRfl
import Derived.Test.YtfibkgmbgdaeoaaGreatDoorWMore
namespace Go.Proofs.YtfibkgmbgdaeoaaGreatDoor.Hand
open Go.RowKit Go.Proofs.YtfibkgmbgdaeoaaGreatDoorW.PrintWords Go.Proofs.YtfibkgmbgdaeoaaGreatDoorW.PrintLast Go.Proofs.YtfibkgmbgdaeoaaGreatDoorW.PrintMore
set_option linter.unusedVariables false
set_option linter.unusedSimpArgs false
theorem clipS (A : Option Addr) (n c : Nat) (w : World) (hn : n ≤ c) (hc : n ≤ 9223372036854775807) :
  Calls Tryz.prog 43 #[.slice A n c] w fun e w' => e = .returned (.slice A n n) ∧ w = w' := by
 go_enter Tryz.func43, Tryz.ntmps43
 go_wp2
 go_ret
 exact ⟨rfl, rfl⟩
theorem clipH (A : Option Addr) (n c : Nat) (w : World) (hn : n ≤ c) (hc : n ≤ 9223372036854775807) :
  Calls Tryz.prog 24 #[.slice A n c] w fun e w' => e = .returned (.slice A n n) ∧ w = w' := by
 go_enter Tryz.func24, Tryz.ntmps24
 go_wp2
 go_ret
 exact ⟨rfl, rfl⟩
theorem clipV {α : Type} {d : Kd α} {e : Nat} {W : World} {base : Nat} {ok : Nat → Prop} {A : Option Addr} {c : Nat} {xs : List α} (h : Kd.V d e W base ok (.slice A xs.length c) xs) : Kd.V d e W base ok (.slice A xs.length xs.length) xs := by
 obtain ⟨A', c', hv, hl, hf⟩ := h
 injection hv with h1 h2 h3
 subst h1
 exact ⟨A, xs.length, rfl, Nat.le_refl _, hf⟩
end Go.Proofs.YtfibkgmbgdaeoaaGreatDoor.Hand
