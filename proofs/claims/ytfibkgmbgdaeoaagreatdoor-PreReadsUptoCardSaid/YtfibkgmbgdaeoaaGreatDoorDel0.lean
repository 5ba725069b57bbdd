/- What slices.IndexFunc and DeleteFunc come to, in plain words, and 'clear' on a row. No condition. -/
import Derived.Test.YtfibkgmbgdaeoaaGreatDoorRow
import Derived.Lib.SliceRun
import Derived.WalkKit
namespace Go.Proofs.YtfibkgmbgdaeoaaGreatDoor.Hand
open Go.RowKit Go.Proofs.YtfibkgmbgdaeoaaGreatDoorW.PrintWords
set_option linter.unusedVariables false
set_option linter.unusedSimpArgs false

theorem zeroCells_one (z : Array Value) (n : Nat) (h : ∀ v ∈ z, v.oneCell' = true) : ∀ v ∈ (Builtin.zeroCells z n).toList, v.oneCell' = true := by
 intro v hv
 unfold Builtin.zeroCells at hv
 rw [Array.toList_map] at hv
 obtain ⟨i, hi, rfl⟩ := List.mem_map.1 hv
 have hz : 0 < z.size := by
  rcases Nat.eq_zero_or_pos z.size with h0 | h0
  ·rw [h0] at hi; simp at hi
  ·exact h0
 have : i % z.size < z.size := Nat.mod_lt _ hz
 rw [getElem!_pos z _ this]
 exact h _ (Array.getElem_mem this)
theorem zeroCells_length (z : Array Value) (n : Nat) : (Builtin.zeroCells z n).toList.length = n * z.size := by simp [Builtin.zeroCells]
theorem run_clear_row {P : Program} (w : World) (t e ty : TypeId) (z : Value) (ht : P.underlying t = some (.slice e)) (hv : ∀ w, (zeroValue e).run P w = .ok z w) (h1 : ∀ v ∈ z.cells, v.oneCell' = true) (b o n c : Nat) (hn : 0 < n)
  (hc : ∀ j, j < n * z.cells.size → (w.cell? ⟨b, o + j, none⟩).isSome = true) (hf : ∀ j, j < n * z.cells.size → w.frozen? ⟨b, o + j, none⟩ = false) :
  (Builtin.clear_ #[t] ty #[.slice (some ⟨b, o, none⟩) n c]).run P w = .ok (.tuple #[]) (w.setCells b o (Builtin.zeroCells z.cells n).toList) := by
 have hst := run_storeCells_cells (P := P) b o (Builtin.zeroCells z.cells n).toList 0 w (by rw [zeroCells_length]; simpa using hc) (by rw [zeroCells_length]; simpa using hf) (zeroCells_one _ _ h1)
 simp only [Nat.add_zero] at hst
 obtain ⟨m, rfl⟩ : ∃ m, n = m + 1 := ⟨n - 1, by omega⟩
 simp [Builtin.clear_, run_underlying ht, hv, hst]

theorem setCells_keeps {PW : World → Prop} {g : Nat} (h : ∀ (W : World) (i : Nat) (v : Value), PW W → PW (W.setCell ⟨g, i, none⟩ v)) : ∀ (vs : List Value) (o : Nat) (W : World), PW W → PW (W.setCells g o vs) := by
 intro vs
 induction vs with
 | nil => exact fun _ _ hw => hw
 | cons v r ih => exact fun o W hw => ih (o + 1) _ (h W o v hw)

def firstOf {α : Type} (p : α → Bool) (xs : List α) : Int := if xs.any p then (xs.findIdx p : Int) else -1
theorem firstOf_hit {α : Type} (p : α → Bool) (xs : List α) (k : Nat) (x : α) (hk : xs[k]? = some x) (hp : p x = true) (hb : ∀ (j : Nat) y, j < k → xs[j]? = some y → p y = false) : firstOf p xs = (k : Int) := by
 have hlt : k < xs.length := (List.getElem?_eq_some_iff.1 hk).1
 have hx : xs[k] = x := (List.getElem?_eq_some_iff.1 hk).2
 have hany : xs.any p = true := List.any_eq_true.2 ⟨x, List.mem_of_getElem? hk, hp⟩
 unfold firstOf
 rw [if_pos hany]
 congr 1
 have h1 : xs.findIdx p ≤ k := by
  rcases Nat.lt_or_ge k (xs.findIdx p) with h | h
  ·have := List.not_of_lt_findIdx h
   rw [hx, hp] at this
   cases this
  ·exact h
 rcases Nat.lt_or_ge (xs.findIdx p) k with h | h
 ·have h2 := List.findIdx_getElem (p := p) (xs := xs) (w := by omega)
  have h3 := hb _ _ h (List.getElem?_eq_getElem (by omega))
  rw [h2] at h3
  cases h3
 ·omega
theorem firstOf_miss {α : Type} (p : α → Bool) (xs : List α) (hb : ∀ (j : Nat) y, xs[j]? = some y → p y = false) : firstOf p xs = -1 := by
 unfold firstOf
 rw [if_neg]
 intro h
 obtain ⟨x, hm, hp⟩ := List.any_eq_true.1 h
 obtain ⟨j, hj⟩ := List.getElem?_of_mem hm
 rw [hb j x hj] at hp
 cases hp
theorem firstOf_nonneg {α : Type} (p : α → Bool) (xs : List α) : decide (0 ≤ firstOf p xs) = xs.any p := by
 unfold firstOf
 by_cases h : xs.any p
 ·rw [if_pos h, h]; simp
 ·rw [if_neg h, Bool.eq_false_iff.2 h]; simp

def keptRow {α : Type} (p : α → Bool) (xs : List α) (j : Nat) : List α := (xs.take j).filter (fun x => !p x) ++ xs.drop ((xs.take j).filter fun x => !p x).length
theorem keptRow_len {α : Type} (p : α → Bool) (xs : List α) (j : Nat) : ((xs.take j).filter fun x => !p x).length ≤ min j xs.length := by
 have := List.length_filter_le (fun x => !p x) (xs.take j)
 rw [List.length_take] at this
 omega
theorem keptRow_length {α : Type} (p : α → Bool) (xs : List α) (j : Nat) : (keptRow p xs j).length = xs.length := by
 have := keptRow_len p xs j
 unfold keptRow
 rw [List.length_append, List.length_drop]
 omega
theorem keptRow_at {α : Type} (p : α → Bool) (xs : List α) (j : Nat) : (keptRow p xs j)[j]? = xs[j]? := by
 have := keptRow_len p xs j
 unfold keptRow
 rw [List.getElem?_append_right (by omega), List.getElem?_drop]
 congr 1
 omega
theorem keptRow_keep {α : Type} (p : α → Bool) (xs : List α) (j : Nat) (x : α) (hx : xs[j]? = some x) (hp : p x = false) : keptRow p xs (j + 1) = (keptRow p xs j).set ((xs.take j).filter fun x => !p x).length x := by
 have hl := keptRow_len p xs j
 have hj : j < xs.length := (List.getElem?_eq_some_iff.1 hx).1
 have e1 : xs.take (j + 1) = xs.take j ++ [x] := by rw [List.take_add_one, hx]; rfl
 unfold keptRow
 rw [e1, List.filter_append, show [x].filter (fun x => !p x) = [x] from by simp [hp], List.length_append, List.length_singleton]
 rw [List.set_append_right _ _ (Nat.le_refl _), Nat.sub_self]
 rw [List.drop_eq_getElem_cons (i := ((xs.take j).filter fun x => !p x).length) (by omega), List.set_cons_zero, List.append_assoc]
 rfl
theorem keptRow_skip {α : Type} (p : α → Bool) (xs : List α) (j : Nat) (x : α) (hx : xs[j]? = some x) (hp : p x = true) : keptRow p xs (j + 1) = keptRow p xs j ∧ ((xs.take (j + 1)).filter fun x => !p x) = (xs.take j).filter fun x => !p x := by
 have e1 : xs.take (j + 1) = xs.take j ++ [x] := by rw [List.take_add_one, hx]; rfl
 have e2 : ((xs.take (j + 1)).filter fun x => !p x) = (xs.take j).filter fun x => !p x := by
  rw [e1, List.filter_append, show [x].filter (fun x => !p x) = [] from by simp [hp], List.append_nil]
 exact ⟨by unfold keptRow; rw [e2], e2⟩
theorem keptRow_start {α : Type} (p : α → Bool) (xs : List α) (k : Nat) (x : α) (hk : xs[k]? = some x) (hp : p x = true) (hb : ∀ (j : Nat) y, j < k → xs[j]? = some y → p y = false) : keptRow p xs (k + 1) = xs ∧ ((xs.take (k + 1)).filter fun x => !p x) = xs.take k := by
 have h1 : ((xs.take k).filter fun x => !p x) = xs.take k := List.filter_eq_self.2 fun y hy => by
  obtain ⟨j, hj⟩ := List.getElem?_of_mem hy
  have hjl := (List.getElem?_eq_some_iff.1 hj).1
  rw [List.length_take] at hjl
  rw [List.getElem?_take, if_pos (by omega)] at hj
  rw [hb j y (by omega) hj]; rfl
 obtain ⟨h2, h3⟩ := keptRow_skip p xs k x hk hp
 have hkl : k < xs.length := (List.getElem?_eq_some_iff.1 hk).1
 refine ⟨?_, h3.trans h1⟩
 rw [h2]
 unfold keptRow
 rw [h1, List.length_take, Nat.min_eq_left (by omega), List.take_append_drop]

end Go.Proofs.YtfibkgmbgdaeoaaGreatDoor.Hand
