/- ascii.Trim and ascii.List: what the walk of each gives. Condition: texts of fewer than 4294967281 bytes. -/
import Derived.Test.YtoaleclnilbjcaaGreatDoorLow
import Derived.Lib.SplitLaws
import Derived.Deep.LoopGhost
namespace Go.Proofs.YtoaleclnilbjcaaGreatDoor.Hand
open Go.RowKit Go.Proofs.YtoaleclnilbjcaaGreatDoorW.PrintWords Go.Proofs.YtoaleclnilbjcaaGreatDoorW.PrintLast Go.Proofs.YtoaleclnilbjcaaGreatDoorW.PrintMore
set_option linter.unusedVariables false
set_option linter.unusedSimpArgs false

def trimBA (s : ByteArray) : ByteArray := ⟨(Lib.trimS s.data.toList [32, 9]).toArray⟩
theorem trim_calls (s : ByteArray) (w : World) (hs : s.size ≤ 9223372036854775807) :
  Calls Tryz.prog 76 #[.string s] w fun e w' => e = .returned (.string (trimBA s)) ∧ Below w.heap.size w w' := by
 go_enter Tryz.func76, Tryz.ntmps76
 go_wp2_with fail
 refine (Any.strings_Trim_laid Tryz.lays160 (by kernel_rfl) s ⟨#[32, 9]⟩ w hs (by decide) (ascii_of_all (by decide))).mono ?_
 rintro e w' ⟨rfl, hb⟩
 go_wp2
 go_ret
 exact ⟨rfl, hb⟩

end Go.Proofs.YtoaleclnilbjcaaGreatDoor.Hand
