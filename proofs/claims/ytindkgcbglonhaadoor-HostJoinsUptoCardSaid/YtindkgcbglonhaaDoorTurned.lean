/- ascii.turned, Lower, Upper: what the walk of each gives: the string with the bytes of one range moved. Condition: the string takes at most 2^47 bytes. -/
import Derived.Test.YtindkgcbglonhaaDoorProg
import Derived.Below
import Derived.Deep.Draws
import Derived.OwnWalk
import Derived.Laws.BytesArg
import Derived.Laws.IdiomStrings
import Derived.Tactics
import Derived.Lib.ConvBytes
import Derived.Lib.Hide
import Derived.WalkKit
import Derived.KernelRfl
import Derived.RowKit3
import Derived.Test.YtindkgcbglonhaaDoorWWords
namespace Go.Proofs.YtindkgcbglonhaaDoor.Hand
open Go.RowKit Go.Proofs.YtindkgcbglonhaaDoorW.PrintWords
set_option linter.unusedVariables false
set_option linter.unusedSimpArgs false

def turnC (lo hi b c : Int) : Int := if lo ≤ c ∧ c ≤ hi then (c + b) % 256 else c
def turnL (lo hi b : Int) (s : ByteArray) (k : Nat) : List Int := ((bytesOf s).take k).map (turnC lo hi b) ++ (bytesOf s).drop k

theorem turnL_length (lo hi b : Int) (s : ByteArray) (k : Nat) (hk : k ≤ s.size) : (turnL lo hi b s k).length = s.size := by
  simp [turnL, bytesOf_length]; omega
theorem turnL_succ (lo hi b : Int) (s : ByteArray) (k : Nat) (hk : k < s.size) : turnL lo hi b s (k + 1) = (turnL lo hi b s k).set k (turnC lo hi b (bt s k)) := by
  apply List.ext_getElem?
  intro i
  have hl : (bytesOf s).length = s.size := bytesOf_length s
  have hb : (bytesOf s)[k]? = some (bt s k) := by
    have h := rd_bytesOf s k
    unfold rd at h
    rw [← h]
    simp only [List.getD_eq_getElem?_getD, Int.toNat_natCast]
    rw [List.getElem?_eq_getElem (by omega)]; rfl
  rw [List.getElem?_set]
  unfold turnL
  rw [List.length_append, List.length_map, List.length_take, List.length_drop, hl]
  by_cases e : k = i
  · subst e
    rw [if_pos rfl, if_pos (by omega), List.getElem?_append_left (by simp [hl]; omega), List.getElem?_map, List.getElem?_take, if_pos (by omega), hb]; rfl
  · rw [if_neg e]
    by_cases hik : i < k
    · rw [List.getElem?_append_left (by simp [hl]; omega), List.getElem?_append_left (by simp [hl]; omega)]
      simp only [List.getElem?_map, List.getElem?_take]
      rw [if_pos (by omega), if_pos (by omega)]
    · rw [List.getElem?_append_right (by simp [hl]; omega), List.getElem?_append_right (by simp [hl]; omega)]
      simp only [List.length_map, List.length_take, hl, List.getElem?_drop]
      rw [show k + 1 + (i - min (k + 1) s.size) = k + (i - min k s.size) from by omega]

/-- What holds behind k rounds. -/
structure TurnW (w wr : World) (lo hi b : Int) (s : ByteArray) (k : Nat) : Prop where
  size : w.heap.size < wr.heap.size
  below : Below w.heap.size w wr
  cell : ∀ j, j < s.size → wr.cell? ⟨w.heap.size, j, none⟩ = some (.int .u8 ((turnL lo hi b s k).getD j 0))
  free : ∀ j, j < s.size → wr.frozen? ⟨w.heap.size, j, none⟩ = false

theorem TurnW.put {w wr : World} {lo hi b : Int} {s : ByteArray} {k : Nat} (h : TurnW w wr lo hi b s k) (hk : k < s.size) (x : Int) (hx : turnC lo hi b (bt s k) = x) : TurnW w (wr.setCell ⟨w.heap.size, k, none⟩ (.int .u8 x)) lo hi b s (k + 1) := by
  refine ⟨by simpa using h.size, h.below.setCell (Nat.le_refl _) _, fun j hj => ?_, fun j hj => ?_⟩
  · rw [turnL_succ lo hi b s k hk, hx]
    have hl := turnL_length lo hi b s k (by omega)
    by_cases e : k = j
    · subst e
      rw [World.cell?_setCell_same _ _ _ (h.cell k hk)]
      simp [List.getD_eq_getElem?_getD, List.getElem?_set, hl, hk]
    · rw [World.cell?_setCell_other (h := fun he => e (by injection he))]
      rw [h.cell j hj]
      simp [List.getD_eq_getElem?_getD, List.getElem?_set, e]
  · simpa using h.free j hj

end Go.Proofs.YtindkgcbglonhaaDoor.Hand
