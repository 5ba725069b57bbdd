/- What law 14 needs of head, cors and safe in plain Lean: Get, Same and Check by the program and by the document. Conditions: headers of at most 2^40 bytes together. -/
import Derived.Test.YtfibkgmbgdaeoaaGreatDoorSafeS
import Derived.Test.YtfibkgmbgdaeoaaGreatDoorFY2
import Derived.Test.YtfibkgmbgdaeoaaGreatDoorOpens
namespace Go.Proofs.YtfibkgmbgdaeoaaGreatDoor.Hand
open Go.RowKit Go.Proofs.YtfibkgmbgdaeoaaGreatDoorW.PrintWords Go.Proofs.YtfibkgmbgdaeoaaGreatDoorW.PrintLast Go.Proofs.YtfibkgmbgdaeoaaGreatDoorW.PrintMore
set_option linter.unusedVariables false
set_option linter.unusedSimpArgs false

theorem rd_mid (p q : List S45) (x : S45) : rd_T45 (p ++ x :: q) (p.length : Int) = x := by simp [rd_T45, List.getD_eq_getElem?_getD]
theorem join_snoc (xs : List (List UInt8)) (x sep : List UInt8) : Lib.join (xs ++ [x]) sep = if xs = [] then x else Lib.join xs sep ++ sep ++ x := by
 cases xs with
 | nil => simp [Lib.join_one]
 | cons y r => rw [List.cons_append, Lib.join_cons, Lib.join_cons, if_neg (by simp)]; simp [Lib.joinTail]
theorem refSame9_go (xs : List S45) : ∀ (q p : List S45), xs = p ++ q → xs.length ≤ 1099511627776 →
  Ev (fun k => pursuivantref09_Same.l0 k xs xs (p.length : Int)) true := by
 intro q
 induction q with
 | nil =>
  intro p e h
  refine Ev.step (fun k => by rw [pursuivantref09_Same.l0]) ?_
  exact Ev.if_neg (by rw [e]; simp) (Ev.now _)
 | cons c q ih =>
  intro p e h
  have hl : p.length < xs.length := by rw [e]; simp
  refine Ev.step (fun k => by rw [pursuivantref09_Same.l0]) ?_
  refine Ev.if_pos (by omega) (Ev.if_pos (by omega) (Ev.if_pos (by omega) (Ev.if_neg (by simp) ?_)))
  rw [wrap_nat _ (by omega)]
  have := ih (p ++ [c]) (by rw [e]; simp) h
  simpa using this
theorem refSame9 (xs : List S45) (h : xs.length ≤ 1099511627776) : Ev (fun k => pursuivantref09_Same.f k xs xs) true := by
 unfold pursuivantref09_Same.f
 exact Ev.if_pos rfl (refSame9_go xs xs [] rfl h)
theorem hdrSum_sz (l : List S45) : (l.map sz45).sum = hdrSum l := by
 unfold hdrSum
 exact congrArg List.sum (List.map_congr_left fun x _ => by simp only [sz45]; omega)
theorem few_some {α : Type} (l : List α) : (if (l.length : Int) > 30 then (if 30 ≤ (l.length : Int) then some (l.take 30) else none) else some l) = some (l.take 30) := by
 by_cases h : (l.length : Int) > 30
 ·rw [if_pos h, if_pos (by omega)]
 ·rw [if_neg h, List.take_of_length_le (by omega)]
end Go.Proofs.YtfibkgmbgdaeoaaGreatDoor.Hand
