/- The library's functions that take and give plain values, as the print takes them. Conditions stand in each function: where it is none, nothing is said. -/
import Derived.Test.YtfibkgmbgdaeoaaGreatDoorClip
import Derived.Test.YtfibkgmbgdaeoaaGreatDoorK
import Derived.Test.YtfibkgmbgdaeoaaGreatDoorShelf
import Derived.Lib.Strings
import Derived.Shelf.Strings.SlTrimAscii
import Derived.WalkKit
import Derived.Test.YtfibkgmbgdaeoaaGreatDoorWMore
namespace Go.Proofs.YtfibkgmbgdaeoaaGreatDoor.Hand
open Go.RowKit Go.Proofs.YtfibkgmbgdaeoaaGreatDoorW.PrintWords Go.Proofs.YtfibkgmbgdaeoaaGreatDoorW.PrintLast Go.Proofs.YtfibkgmbgdaeoaaGreatDoorW.PrintMore
set_option linter.unusedVariables false
set_option linter.unusedSimpArgs false

def strings_IndexByte.f (a0 : ByteArray) (a1 : Int) : Option Int := some (Lib.indexByte a0.data.toList a1.toNat.toUInt8)
theorem strings_IndexByte.calls (a0 : ByteArray) (a1 : Int) (r : Int) (w : World) (hG : GW w) (h : strings_IndexByte.f a0 a1 = some r) :
  Calls Tryz.prog 74 #[.string a0, .int .u8 a1] w fun e w' => e = .returned (.int .i64 r) ∧ Drawn0 w w' := by
 obtain rfl := Option.some.inj h
 refine (Tryz.strings_IndexByte a0 a1 w).mono ?_
 rintro e w' ⟨rfl, rfl⟩
 exact ⟨rfl, Drawn0.refl _⟩
def strings_Trim.f (a0 a1 : ByteArray) : Option ByteArray :=
 if a0.size ≤ 9223372036854775807 ∧ a1.size < 4294967281 ∧ a1.data.toList.all (fun b => decide (b.toNat < 128)) = true then some ⟨(Lib.trimS a0.data.toList a1.data.toList).toArray⟩ else none
theorem strings_Trim.calls (a0 a1 : ByteArray) (r : ByteArray) (w : World) (hG : GW w) (h : strings_Trim.f a0 a1 = some r) :
  Calls Tryz.prog 90 #[.string a0, .string a1] w fun e w' => e = .returned (.string r) ∧ Below w.heap.size w w' := by
 unfold strings_Trim.f at h
 by_cases c : a0.size ≤ 9223372036854775807 ∧ a1.size < 4294967281 ∧ a1.data.toList.all (fun b => decide (b.toNat < 128)) = true
 ·rw [if_pos c] at h
  obtain rfl := Option.some.inj h
  exact Any.strings_Trim_laid Tryz.lays160 (by kernel_rfl) a0 a1 w c.1 c.2.1 (ascii_of_all c.2.2)
 ·rw [if_neg c] at h; cases h
def cutBA (s sep : ByteArray) : ByteArray × ByteArray × Bool := (⟨(Lib.cut s.data.toList sep.data.toList).1.toArray⟩, ⟨(Lib.cut s.data.toList sep.data.toList).2.1.toArray⟩, (Lib.cut s.data.toList sep.data.toList).2.2)
def strings_Cut.f (a0 a1 : ByteArray) : Option (ByteArray × ByteArray × Bool) := if a0.size < 4294967281 then some (cutBA a0 a1) else none
theorem strings_Cut.calls (a0 a1 : ByteArray) (r1 r2 : ByteArray) (r3 : Bool) (w : World) (hG : GW w) (h : strings_Cut.f a0 a1 = some (r1, r2, r3)) :
  Calls Tryz.prog 75 #[.string a0, .string a1] w fun e w' => e = .returned (.tuple #[.string r1, .string r2, .bool r3]) ∧ Drawn0 w w' := by
 unfold strings_Cut.f at h
 by_cases c : a0.size < 4294967281
 ·rw [if_pos c] at h
  obtain ⟨m, hm⟩ := hG.maxLen
  have h1 := Option.some.inj h
  unfold cutBA at h1
  simp only [Prod.mk.injEq] at h1
  obtain ⟨rfl, rfl, rfl⟩ := h1
  refine (Tryz.strings_Cut a0 a1 m w c hm).mono ?_
  rintro e w' ⟨rfl, n, rfl⟩
  exact ⟨rfl, ⟨⟨n, rfl⟩⟩⟩
 ·rw [if_neg c] at h; cases h
end Go.Proofs.YtfibkgmbgdaeoaaGreatDoor.Hand
