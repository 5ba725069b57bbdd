/- ascii.Number and its reference: the number that digits make, at most so much. Condition: at most 2^40 bytes. -/
import Derived.Test.YtindkgcbglonhaaDoorFA1
import Derived.Test.YtindkgcbglonhaaDoorFA2
import Derived.Test.YtindkgcbglonhaaDoorFA3
import Derived.Test.YtindkgcbglonhaaDoorPlain
namespace Go.Proofs.YtindkgcbglonhaaDoor.Hand
open Go.RowKit Go.Proofs.YtindkgcbglonhaaDoorW.PrintWords Go.Proofs.YtindkgcbglonhaaDoorW.PrintLast Go.Proofs.YtindkgcbglonhaaDoorW.PrintMore
set_option linter.unusedVariables false
set_option linter.unusedSimpArgs false

def dig8 (c : UInt8) : Bool := decide (48 ≤ c.toNat ∧ c.toNat ≤ 57)
def valF (n : Nat) (l : List UInt8) : Nat := l.foldl (fun n c => 10 * n + (c.toNat - 48)) n
def val8 (l : List UInt8) : Nat := valF 0 l
theorem val8_snoc (l : List UInt8) (c : UInt8) : val8 (l ++ [c]) = 10 * val8 l + (c.toNat - 48) := by simp [val8, valF]
theorem valF_cons (n : Nat) (c : UInt8) (l : List UInt8) : valF n (c :: l) = valF (10 * n + (c.toNat - 48)) l := by unfold valF; rw [List.foldl_cons]
theorem valF_ge : ∀ (l : List UInt8) (n : Nat), n * 10 ^ l.length ≤ valF n l
 | [], n => by simp [valF]
 | c :: l, n => by
  rw [valF_cons]
  refine Nat.le_trans ?_ (valF_ge l _)
  rw [List.length_cons, Nat.pow_succ, Nat.mul_comm (10 ^ l.length) 10, ← Nat.mul_assoc, Nat.mul_comm n 10]
  exact Nat.mul_le_mul_right _ (by omega)
theorem valF_lt : ∀ (l : List UInt8) (n : Nat), l.all dig8 = true → valF n l < (n + 1) * 10 ^ l.length
 | [], n, _ => by simp [valF]
 | c :: l, n, h => by
  rw [List.all_cons, Bool.and_eq_true] at h
  have hc : 48 ≤ c.toNat ∧ c.toNat ≤ 57 := of_decide_eq_true h.1
  rw [valF_cons]
  refine Nat.lt_of_lt_of_le (valF_lt l _ h.2) ?_
  rw [List.length_cons, Nat.pow_succ, Nat.mul_comm (10 ^ l.length) 10, ← Nat.mul_assoc]
  exact Nat.mul_le_mul_right _ (by omega)
theorem val8_lt (l : List UInt8) (h : l.all dig8 = true) : val8 l < 10 ^ l.length := by simpa [val8] using valF_lt l 0 h
def noughts (l : List UInt8) : List UInt8 := l.dropWhile (· == 48)
theorem val8_noughts : ∀ l : List UInt8, val8 (noughts l) = val8 l
 | [] => rfl
 | c :: l => by
  unfold noughts
  rw [List.dropWhile_cons]
  split
  ·rename_i h
   obtain rfl : c = 48 := by simpa using h
   exact val8_noughts l
  ·rfl
theorem noughts_all (l : List UInt8) (h : l.all dig8 = true) : (noughts l).all dig8 = true :=
 List.all_eq_true.2 fun c hc => List.all_eq_true.1 h c ((List.dropWhile_sublist _).subset hc)
theorem noughts_ge (l : List UInt8) (h : l.all dig8 = true) (n : Nat) (hn : n < (noughts l).length) : 10 ^ n ≤ val8 l := by
 rw [← val8_noughts]
 have ha := noughts_all l h
 cases e : noughts l with
 | nil => rw [e] at hn; simp at hn
 | cons c r =>
  rw [e] at hn ha
  rw [List.all_cons, Bool.and_eq_true] at ha
  have hc : 48 ≤ c.toNat ∧ c.toNat ≤ 57 := of_decide_eq_true ha.1
  have hne : c.toNat ≠ 48 := by
   intro e48
   have := List.head?_dropWhile_not (· == (48 : UInt8)) l
   unfold noughts at e
   rw [e] at this
   simp at this
   exact this (UInt8.toNat_inj.1 (by simpa using e48))
  unfold val8
  rw [valF_cons]
  refine Nat.le_trans ?_ (valF_ge r _)
  rw [List.length_cons] at hn
  have h1 : 10 ^ n ≤ 10 ^ r.length := Nat.pow_le_pow_right (by omega) (by omega)
  refine Nat.le_trans h1 ?_
  calc 10 ^ r.length = 1 * 10 ^ r.length := by simp
   _ ≤ _ := Nat.mul_le_mul_right _ (by omega)
end Go.Proofs.YtindkgcbglonhaaDoor.Hand
