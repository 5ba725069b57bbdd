/- The library's functions that take and give plain values, as the print takes them. Conditions stand in each function: where it is none, nothing is said. -/
import Derived.Test.YtindkgcbglonhaaDoorGW
import Derived.Test.YtindkgcbglonhaaDoorK
import Derived.Test.YtindkgcbglonhaaDoorShelf
import Derived.Lib.Strings
import Derived.Lib.AppendIntMem
import Derived.Shelf.Strings.SlTrimAscii
import Derived.WalkKit
import Derived.Test.YtindkgcbglonhaaDoorWMore
namespace Go.Proofs.YtindkgcbglonhaaDoor.Hand
open Go.RowKit Go.Proofs.YtindkgcbglonhaaDoorW.PrintWords Go.Proofs.YtindkgcbglonhaaDoorW.PrintLast Go.Proofs.YtindkgcbglonhaaDoorW.PrintMore
set_option linter.unusedVariables false
set_option linter.unusedSimpArgs false

def strings_HasSuffix.f (a0 a1 : ByteArray) : Option Bool := if a0.size ≤ 9223372036854775807 then some (Lib.hasSuffix a0.data.toList a1.data.toList) else none
theorem strings_HasSuffix.calls (a0 a1 : ByteArray) (r : Bool) (w : World) (hG : GW w) (h : strings_HasSuffix.f a0 a1 = some r) :
    Calls Tryd.prog 61 #[.string a0, .string a1] w fun e w' => e = .returned (.bool r) ∧ Drawn0 w w' := by
  unfold strings_HasSuffix.f at h
  by_cases c : a0.size ≤ 9223372036854775807
  · rw [if_pos c] at h
    obtain rfl := Option.some.inj h
    refine (Tryd.strings_HasSuffix a0 a1 w c).mono ?_
    rintro e w' ⟨rfl, rfl⟩
    exact ⟨rfl, Drawn0.refl _⟩
  · rw [if_neg c] at h; cases h
end Go.Proofs.YtindkgcbglonhaaDoor.Hand
