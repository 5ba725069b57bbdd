/- What every contract of this seat takes of the world: of the library's own variables, what the code reads of them. It stays through draws, new blocks and whatever leaves the old blocks alone. No condition. -/
import Derived.Test.YtfibkgmbgdaeoaaGreatDoorProg
import Derived.Below
import Derived.KernelRfl
import Derived.Shelf.Vars
import Derived.Lib.LaidTab
import Derived.LaidSub
import Derived.Test.YtfibkgmbgdaeoaaGreatDoorWWords
namespace Go.Proofs.YtfibkgmbgdaeoaaGreatDoor.Hand
open Go.RowKit Go.Proofs.YtfibkgmbgdaeoaaGreatDoorW.PrintWords
theorem nil_bne (l : List UInt8) : (l != []) = !l.isEmpty := by cases l <;> rfl
theorem nil_beq (l : List UInt8) : (l == []) = l.isEmpty := by cases l <;> rfl
structure GW (w : World) : Prop where
 maxLen : ∃ m, w.cell? ⟨0, 0, none⟩ = some (.int .i64 m)
 ok : True
theorem GW.below {w w' : World} (h : GW w) (hb : Below w.heap.size w w') : GW w' where
 maxLen := by
  obtain ⟨m, hm⟩ := h.maxLen
  exact ⟨m, pw_cell_below hb hm⟩
 ok := trivial
theorem GW.drewN {w : World} (h : GW w) {n : Nat} : GW (w.drewN n) := h.below (pw_below_drewN (Below.refl _ _) n)
theorem GW.drew {w : World} (h : GW w) : GW w.drew := h.below (below_drew (Below.refl _ _))
theorem GW.shaped {w : World} (h : w.ShapedOpen Tryz.prog) : GW w where
 maxLen := cell_of_shapedOpen_int (zero := #[.int .i64 0]) h (by decide) (by kernel_rfl) rfl (by kernel_rfl) (by kernel_rfl) Tryz.underlying3
 ok := trivial
end Go.Proofs.YtfibkgmbgdaeoaaGreatDoor.Hand
