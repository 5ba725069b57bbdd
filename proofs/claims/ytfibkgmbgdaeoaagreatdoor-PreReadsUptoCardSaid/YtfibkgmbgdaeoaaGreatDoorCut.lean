/- strings.Cut, by the text's own recursion; orders on texts. No condition. -/
import Derived.Test.YtfibkgmbgdaeoaaGreatDoorPlain
import Derived.Test.YtfibkgmbgdaeoaaGreatDoorLib
import Derived.Lib.IndexMore
namespace Go.Proofs.YtfibkgmbgdaeoaaGreatDoor.Hand
open Go.RowKit Go.Proofs.YtfibkgmbgdaeoaaGreatDoorW.PrintWords Go.Proofs.YtfibkgmbgdaeoaaGreatDoorW.PrintLast Go.Proofs.YtfibkgmbgdaeoaaGreatDoorW.PrintMore
set_option linter.unusedVariables false
set_option linter.unusedSimpArgs false

theorem cut_cons (b : UInt8) (l : List UInt8) (d : UInt8) (e : List UInt8) :
  Lib.cut (b :: l) (d :: e) = if (d :: e).isPrefixOf (b :: l) = true then ([], (b :: l).drop (e.length + 1), true) else (b :: (Lib.cut l (d :: e)).1, (Lib.cut l (d :: e)).2.1, (Lib.cut l (d :: e)).2.2) := by
 have hge := Lib.index_ge l (d :: e)
 have hi : Lib.index (b :: l) (d :: e) = if (d :: e).isPrefixOf (b :: l) then 0 else if Lib.index l (d :: e) == -1 then -1 else Lib.index l (d :: e) + 1 := rfl
 by_cases hp : (d :: e).isPrefixOf (b :: l) = true
 ·rw [if_pos hp]
  rw [if_pos hp] at hi
  unfold Lib.cut
  rw [hi]
  simp
 ·rw [if_neg hp]
  rw [if_neg hp] at hi
  unfold Lib.cut
  rw [hi]
  by_cases h1 : Lib.index l (d :: e) = -1
  ·rw [h1]; simp
  ·have h2 : (Lib.index l (d :: e) == -1) = false := by simpa using h1
   rw [h2]
   obtain ⟨n, hn⟩ : ∃ n : Nat, Lib.index l (d :: e) = n := ⟨(Lib.index l (d :: e)).toNat, by omega⟩
   rw [hn]
   have h3 : (0 : Int) ≤ (n : Int) + 1 := by omega
   have h4 : (0 : Int) ≤ (n : Int) := by omega
   have h5 : ((n : Int) + 1).toNat = n + 1 := by omega
   simp [h3, h4, h5, Nat.succ_add]
theorem cut1 (d : UInt8) : ∀ l, Lib.cut l [d] = (l.takeWhile (· != d), (l.dropWhile (· != d)).drop 1, l.contains d)
 | [] => rfl
 | b :: l => by
  rw [cut_cons, cut1 d l]
  by_cases h : b = d
  ·subst h
   simp
  ·have h1 : (b != d) = true := by simpa using h
   have h2 : (d == b) = false := by simpa using fun e => h e.symm
   have h3 : ([d].isPrefixOf (b :: l)) = false := by simp [List.isPrefixOf, h2]
   rw [h3, if_neg (by simp)]
   simp [List.takeWhile_cons, List.dropWhile_cons, h1, List.contains_cons, h2]
   exact fun e => absurd e.symm h
theorem progCut (l e : List UInt8) (h : l.length ≤ 1099511627) : strings_Cut.f (ba l) (ba e) = some (ba (Lib.cut l e).1, ba (Lib.cut l e).2.1, (Lib.cut l e).2.2) := by
 unfold strings_Cut.f cutBA
 rw [if_pos (by (first | omega | (simp only [ba_size', List.length_append, List.length_cons, List.length_nil]; omega) | (simp; omega) | (simp; done))), ba_data, ba_data]
 rfl
theorem Ev.ite {α : Type} {g f : Nat → Option α} {r : α} {c : Prop} [Decidable c] (h : c → Ev g r) (h2 : ¬c → Ev f r) : Ev (fun k => if c then g k else f k) r := by
 by_cases hc : c
 ·exact Ev.if_pos hc (h hc)
 ·exact Ev.if_neg hc (h2 hc)
end Go.Proofs.YtfibkgmbgdaeoaaGreatDoor.Hand
