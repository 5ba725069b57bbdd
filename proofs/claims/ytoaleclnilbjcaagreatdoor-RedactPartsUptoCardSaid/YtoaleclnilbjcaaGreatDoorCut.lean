/- Ports: the decimal numerals from 1 to 65535, and what host.Port and its reference make of any text. Condition: at most 2^40 bytes. -/
import Derived.Test.YtoaleclnilbjcaaGreatDoorFA1
import Derived.Test.YtoaleclnilbjcaaGreatDoorPlain
import Derived.Test.YtoaleclnilbjcaaGreatDoorLow
import Derived.Lib.AtoiAllCases
import Derived.Lib.AtoiTie
import Derived.Lib.IndexMore
namespace Go.Proofs.YtoaleclnilbjcaaGreatDoor.Hand
open Go.RowKit Go.Proofs.YtoaleclnilbjcaaGreatDoorW.PrintWords Go.Proofs.YtoaleclnilbjcaaGreatDoorW.PrintLast Go.Proofs.YtoaleclnilbjcaaGreatDoorW.PrintMore
set_option linter.unusedVariables false
set_option linter.unusedSimpArgs false

theorem progDefault (l : List UInt8) : host_Default.f (ba l) = some (if l = [104, 116, 116, 112] then 80 else if l = [104, 116, 116, 112, 115] then 443 else 0) := by
 unfold host_Default.f
 rw [ba_list]
 split
 ·rfl
 ·split <;> rfl
theorem refDefault (l : List UInt8) : pursuivantref05_Default.f (ba l) = some (if l = [104, 116, 116, 112] then 80 else if l = [104, 116, 116, 112, 115] then 443 else 0) := by
 unfold pursuivantref05_Default.f
 rw [ba_list]
 split
 ·rfl
 ·split <;> rfl
end Go.Proofs.YtoaleclnilbjcaaGreatDoor.Hand

/- strings.Cut, by the text's own recursion; orders on texts. No condition. -/
namespace Go.Proofs.YtoaleclnilbjcaaGreatDoor.Hand
open Go.RowKit Go.Proofs.YtoaleclnilbjcaaGreatDoorW.PrintWords Go.Proofs.YtoaleclnilbjcaaGreatDoorW.PrintLast Go.Proofs.YtoaleclnilbjcaaGreatDoorW.PrintMore
set_option linter.unusedVariables false
set_option linter.unusedSimpArgs false

theorem split_first (d : UInt8) : ∀ l : List UInt8, d ∉ l ∨ ∃ a b, l = a ++ d :: b ∧ d ∉ a
 | [] => .inl (by simp)
 | x :: l => by
  by_cases hx : x = d
  ·subst hx; exact .inr ⟨[], l, rfl, by simp⟩
  ·rcases split_first d l with h | ⟨a, b, rfl, h⟩
   ·exact .inl (by simp [h]; exact fun e => hx e.symm)
   ·exact .inr ⟨x :: a, b, rfl, by simp [h]; exact fun e => hx e.symm⟩
theorem split_last (d : UInt8) (l : List UInt8) : d ∉ l ∨ ∃ a b, l = a ++ d :: b ∧ d ∉ b := by
 rcases split_first d l.reverse with h | ⟨a, b, h1, h2⟩
 ·exact .inl (by simpa using h)
 ·refine .inr ⟨b.reverse, a.reverse, ?_, by simpa using h2⟩
  have := congrArg List.reverse h1
  simpa using this
theorem Ev.ite {α : Type} {g f : Nat → Option α} {r : α} {c : Prop} [Decidable c] (h : c → Ev g r) (h2 : ¬c → Ev f r) : Ev (fun k => if c then g k else f k) r := by
 by_cases hc : c
 ·exact Ev.if_pos hc (h hc)
 ·exact Ev.if_neg hc (h2 hc)
end Go.Proofs.YtoaleclnilbjcaaGreatDoor.Hand
