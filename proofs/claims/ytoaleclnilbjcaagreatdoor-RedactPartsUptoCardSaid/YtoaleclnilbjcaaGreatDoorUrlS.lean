/- The URL of a text, over lists of bytes: what url.Parse computes; a URL that may be comes back of its text. Conditions: at most 2^30 bytes. -/
import Derived.Test.YtoaleclnilbjcaaGreatDoorUrlG
import Derived.Lib.LastIndexByte
namespace Go.Proofs.YtoaleclnilbjcaaGreatDoor.Hand
open Go.RowKit Go.Proofs.YtoaleclnilbjcaaGreatDoorW.PrintWords Go.Proofs.YtoaleclnilbjcaaGreatDoorW.PrintLast Go.Proofs.YtoaleclnilbjcaaGreatDoorW.PrintMore
set_option linter.unusedVariables false
set_option linter.unusedSimpArgs false

def U8.none : U8 := ⟨[], [], [], 0, [], false, [], false, []⟩
def lastAt (l : List UInt8) : Option (List UInt8 × List UInt8) := if 64 ∈ l then some ((l.reverse.dropWhile (· != 64)).tail.reverse, (l.reverse.takeWhile (· != 64)).reverse) else none
theorem lastAt_hit (a b : List UInt8) (h : 64 ∉ b) : lastAt (a ++ 64 :: b) = some (a, b) := by
 unfold lastAt
 rw [if_pos (by simp)]
 have h1 : ∀ x ∈ b.reverse, (x != (64 : UInt8)) = true := fun x hx => by
  have : x ≠ 64 := fun e => h (e ▸ List.mem_reverse.1 hx)
  simpa using this
 rw [List.reverse_append, List.reverse_cons, List.append_assoc, List.takeWhile_append_of_pos h1, List.dropWhile_append_of_pos h1]
 simp
theorem lastAt_miss (l : List UInt8) (h : 64 ∉ l) : lastAt l = none := if_neg h
theorem lastIdx_none (s : ByteArray) (c : UInt8) (h : c ∉ s.data.toList) : Lib.lastIndexByte s (c.toNat : Int) = -1 := by
 unfold Lib.lastIndexByte
 rcases Lib.lastIdx_spec s (c.toNat : Int) s.size with h1 | ⟨i, hi, h2, h3, _⟩
 ·exact h1.1
 ·exfalso
  have hi' : i < s.data.size := hi
  rw [getElem!_pos s.data i hi'] at h3
  have : s.data[i] = c := UInt8.toNat_inj.1 (by omega)
  exact h (by rw [← this]; simp)
theorem lastIdx_some (a b : List UInt8) (c : UInt8) (h : c ∉ b) : Lib.lastIndexByte (ba (a ++ c :: b)) (c.toNat : Int) = (a.length : Int) := by
 unfold Lib.lastIndexByte
 have hsz : (ba (a ++ c :: b)).size = a.length + 1 + b.length := by rw [ba_size']; simp; omega
 have hd : ∀ i, i < a.length + 1 + b.length → (ba (a ++ c :: b)).data[i]! = (a ++ c :: b)[i]! := by
  intro i hi
  have h1 : i < (ba (a ++ c :: b)).data.size := by have := hsz; simp only [ByteArray.size] at this; omega
  have h2 : i < (a ++ c :: b).length := by simp; omega
  rw [getElem!_pos (ba (a ++ c :: b)).data i h1, getElem!_pos (a ++ c :: b) i h2]
  simp [ba]
 rcases Lib.lastIdx_spec (ba (a ++ c :: b)) (c.toNat : Int) (ba (a ++ c :: b)).size with ⟨_, h1⟩ | ⟨i, hi, h2, h3, h4⟩
 ·exfalso
  refine h1 a.length (by omega) ?_
  rw [hd _ (by omega)]
  have : a.length < (a ++ c :: b).length := by simp
  rw [getElem!_pos (a ++ c :: b) a.length this]; simp
 ·rw [h2]
  rw [hsz] at hi h4
  rcases Nat.lt_trichotomy i a.length with hlt | heq | hgt
  ·exfalso
   refine h4 a.length hlt (by omega) ?_
   rw [hd _ (by omega)]
   have : a.length < (a ++ c :: b).length := by simp
   rw [getElem!_pos (a ++ c :: b) a.length this]; simp
  ·rw [heq]
  ·exfalso
   rw [hd _ hi] at h3
   have h5 : i < (a ++ c :: b).length := by simp; omega
   rw [getElem!_pos (a ++ c :: b) i h5, List.getElem_append_right (by omega)] at h3
   obtain ⟨j, hj⟩ : ∃ j, i - a.length = j + 1 := ⟨i - a.length - 1, by omega⟩
   simp only [hj, List.getElem_cons_succ] at h3
   refine h ?_
   have : b[j]'(by omega) = c := UInt8.toNat_inj.1 (by omega)
   rw [← this]; simp
end Go.Proofs.YtoaleclnilbjcaaGreatDoor.Hand
