/- The library's functions that take and give plain values, as the print takes them. Conditions stand in each function: where it is none, nothing is said. -/
import Derived.Test.YtfibkgmbgdaeoaaDoorGW
import Derived.Test.YtfibkgmbgdaeoaaDoorK
import Derived.Test.YtfibkgmbgdaeoaaDoorShelf
import Derived.Lib.Strings
import Derived.Lib.AppendIntMem
import Derived.WalkKit
import Derived.Test.YtfibkgmbgdaeoaaDoorWMore
namespace Go.Proofs.YtfibkgmbgdaeoaaDoor.Hand
open Go.RowKit Go.Proofs.YtfibkgmbgdaeoaaDoorW.PrintWords Go.Proofs.YtfibkgmbgdaeoaaDoorW.PrintLast Go.Proofs.YtfibkgmbgdaeoaaDoorW.PrintMore
set_option linter.unusedVariables false
set_option linter.unusedSimpArgs false

def strings_IndexByte.f (a0 : ByteArray) (a1 : Int) : Option Int := some (Lib.indexByte a0.data.toList a1.toNat.toUInt8)
theorem strings_IndexByte.calls (a0 : ByteArray) (a1 : Int) (r : Int) (w : World) (hG : GW w) (h : strings_IndexByte.f a0 a1 = some r) :
  Calls Tryd.prog 33 #[.string a0, .int .u8 a1] w fun e w' => e = .returned (.int .i64 r) ∧ Drawn0 w w' := by
 obtain rfl := Option.some.inj h
 refine (Tryd.strings_IndexByte a0 a1 w).mono ?_
 rintro e w' ⟨rfl, rfl⟩
 exact ⟨rfl, Drawn0.refl _⟩
def strings_HasPrefix.f (a0 a1 : ByteArray) : Option Bool := some (Lib.hasPrefix a0.data.toList a1.data.toList)
theorem strings_HasPrefix.calls (a0 a1 : ByteArray) (r : Bool) (w : World) (hG : GW w) (h : strings_HasPrefix.f a0 a1 = some r) :
  Calls Tryd.prog 25 #[.string a0, .string a1] w fun e w' => e = .returned (.bool r) ∧ Drawn0 w w' := by
 obtain rfl := Option.some.inj h
 refine (Tryd.strings_HasPrefix a0 a1 w).mono ?_
 rintro e w' ⟨rfl, rfl⟩
 exact ⟨rfl, Drawn0.refl _⟩
def strings_HasSuffix.f (a0 a1 : ByteArray) : Option Bool := if a0.size ≤ 9223372036854775807 then some (Lib.hasSuffix a0.data.toList a1.data.toList) else none
theorem strings_HasSuffix.calls (a0 a1 : ByteArray) (r : Bool) (w : World) (hG : GW w) (h : strings_HasSuffix.f a0 a1 = some r) :
  Calls Tryd.prog 49 #[.string a0, .string a1] w fun e w' => e = .returned (.bool r) ∧ Drawn0 w w' := by
 unfold strings_HasSuffix.f at h
 by_cases c : a0.size ≤ 9223372036854775807
 ·rw [if_pos c] at h
  obtain rfl := Option.some.inj h
  refine (Tryd.strings_HasSuffix a0 a1 w c).mono ?_
  rintro e w' ⟨rfl, rfl⟩
  exact ⟨rfl, Drawn0.refl _⟩
 ·rw [if_neg c] at h; cases h
def strings_TrimSuffix.f (a0 a1 : ByteArray) : Option ByteArray := if a0.size ≤ 9223372036854775807 then some ⟨(Lib.trimSuffix a0.data.toList a1.data.toList).toArray⟩ else none
theorem strings_TrimSuffix.calls (a0 a1 : ByteArray) (r : ByteArray) (w : World) (hG : GW w) (h : strings_TrimSuffix.f a0 a1 = some r) :
  Calls Tryd.prog 24 #[.string a0, .string a1] w fun e w' => e = .returned (.string r) ∧ Drawn0 w w' := by
 unfold strings_TrimSuffix.f at h
 by_cases c : a0.size ≤ 9223372036854775807
 ·rw [if_pos c] at h
  obtain rfl := Option.some.inj h
  refine (Tryd.strings_TrimSuffix a0 a1 w c).mono ?_
  rintro e w' ⟨rfl, rfl⟩
  exact ⟨rfl, Drawn0.refl _⟩
 ·rw [if_neg c] at h; cases h
def cutBA (s sep : ByteArray) : ByteArray × ByteArray × Bool := (⟨(Lib.cut s.data.toList sep.data.toList).1.toArray⟩, ⟨(Lib.cut s.data.toList sep.data.toList).2.1.toArray⟩, (Lib.cut s.data.toList sep.data.toList).2.2)
def strings_Cut.f (a0 a1 : ByteArray) : Option (ByteArray × ByteArray × Bool) := if a0.size < 4294967281 then some (cutBA a0 a1) else none
theorem strings_Cut.calls (a0 a1 : ByteArray) (r1 r2 : ByteArray) (r3 : Bool) (w : World) (hG : GW w) (h : strings_Cut.f a0 a1 = some (r1, r2, r3)) :
  Calls Tryd.prog 44 #[.string a0, .string a1] w fun e w' => e = .returned (.tuple #[.string r1, .string r2, .bool r3]) ∧ Drawn0 w w' := by
 unfold strings_Cut.f at h
 by_cases c : a0.size < 4294967281
 ·rw [if_pos c] at h
  obtain ⟨m, hm⟩ := hG.maxLen
  have h1 := Option.some.inj h
  unfold cutBA at h1
  simp only [Prod.mk.injEq] at h1
  obtain ⟨rfl, rfl, rfl⟩ := h1
  refine (Tryd.strings_Cut a0 a1 m w c hm).mono ?_
  rintro e w' ⟨rfl, n, rfl⟩
  exact ⟨rfl, ⟨⟨n, rfl⟩⟩⟩
 ·rw [if_neg c] at h; cases h
def strconv_Itoa.f (a0 : Int) : Option ByteArray := if -9223372036854775808 ≤ a0 ∧ a0 ≤ 9223372036854775807 then some ⟨(Lib.itoa a0).toArray⟩ else none
theorem strconv_Itoa.calls (a0 : Int) (r : ByteArray) (w : World) (hG : GW w) (h : strconv_Itoa.f a0 = some r) :
  Calls Tryd.prog 21 #[.int .i64 a0] w fun e w' => e = .returned (.string r) ∧ Below w.heap.size w w' := by
 unfold strconv_Itoa.f at h
 by_cases c : -9223372036854775808 ≤ a0 ∧ a0 ≤ 9223372036854775807
 ·rw [if_pos c] at h
  obtain rfl := Option.some.inj h
  refine (Tryd.strconv_Itoa a0 c.1 c.2 w hG.pow).mono ?_
  rintro e w' ⟨rfl, k, os, rfl⟩
  exact ⟨rfl, Lib.below_grow _ _ (Nat.le_refl _) _ _⟩
 ·rw [if_neg c] at h; cases h
end Go.Proofs.YtfibkgmbgdaeoaaDoor.Hand
