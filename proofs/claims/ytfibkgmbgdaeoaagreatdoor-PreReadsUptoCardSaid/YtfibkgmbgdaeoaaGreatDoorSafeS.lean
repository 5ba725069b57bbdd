/- The sorted names of those that may not go anywhere: sorted and each once, by the program and by its reference. Conditions: at most 2^30 bytes. -/
import Derived.Test.YtfibkgmbgdaeoaaGreatDoorSafeF
namespace Go.Proofs.YtfibkgmbgdaeoaaGreatDoor.Hand
open Go.RowKit Go.Proofs.YtfibkgmbgdaeoaaGreatDoorW.PrintWords Go.Proofs.YtfibkgmbgdaeoaaGreatDoorW.PrintLast Go.Proofs.YtfibkgmbgdaeoaaGreatDoorW.PrintMore
set_option linter.unusedVariables false
set_option linter.unusedSimpArgs false

abbrev Tx := List UInt8
theorem strict_unique : ∀ a b : List Tx, a.Pairwise (· < ·) → b.Pairwise (· < ·) → (∀ x, x ∈ a ↔ x ∈ b) → a = b
 | [], [], _, _, _ => rfl
 | [], y :: b, _, _, h => absurd ((h y).2 (by simp)) (by simp)
 | x :: a, [], _, _, h => absurd ((h x).1 (by simp)) (by simp)
 | x :: a, y :: b, ha, hb, h => by
  obtain ⟨ha1, ha2⟩ := List.pairwise_cons.1 ha
  obtain ⟨hb1, hb2⟩ := List.pairwise_cons.1 hb
  have e : x = y := by
   rcases List.mem_cons.1 ((h x).1 (by simp)) with e | hx
   ·exact e
   ·rcases List.mem_cons.1 ((h y).2 (by simp)) with e | hy
    ·exact e.symm
    ·exact absurd (List.lt_trans (hb1 x hx) (ha1 y hy)) (List.lt_irrefl y)
  subst e
  congr 1
  refine strict_unique a b ha2 hb2 (fun z => ⟨fun hz => ?_, fun hz => ?_⟩)
  ·rcases List.mem_cons.1 ((h z).1 (by simp [hz])) with e | hz2
   ·subst e; exact absurd (ha1 z hz) (List.lt_irrefl z)
   ·exact hz2
  ·rcases List.mem_cons.1 ((h z).2 (by simp [hz])) with e | hz2
   ·subst e; exact absurd (hb1 z hz) (List.lt_irrefl z)
   ·exact hz2
theorem getB (d : Array Tx) (j : Nat) (h : j < d.size) : d[j]! = d[j] := getElem!_pos d j h
theorem mem_compact (zs : List Tx) (x : Tx) : x ∈ Lib.compact zs ↔ x ∈ zs := by
 unfold Lib.compact Lib.compactUpTo
 rw [List.mem_map]
 constructor
 ·rintro ⟨j, hj, rfl⟩
  have := List.mem_range.1 (List.mem_filter.1 hj).1
  rw [getB _ _ (by simpa using this)]
  simp
 ·intro hx
  have hs : ∀ n j, j < zs.length → j ≤ n → zs.toArray[j]! = x → ∃ i, i ∈ (List.range zs.length).filter (Lib.keeps zs.toArray) ∧ zs.toArray[i]! = x := by
   intro n
   induction n with
   | zero =>
    intro j hj h0 he
    exact ⟨j, List.mem_filter.2 ⟨List.mem_range.2 hj, Lib.keeps_lt_one _ _ (by omega)⟩, he⟩
   | succ n ih =>
    intro j hj h0 he
    by_cases hk : Lib.keeps zs.toArray j = true
    ·exact ⟨j, List.mem_filter.2 ⟨List.mem_range.2 hj, hk⟩, he⟩
    ·unfold Lib.keeps at hk
     simp only [decide_eq_true_iff, not_or, ne_eq, Decidable.not_not] at hk
     exact ih (j - 1) (by omega) (by omega) (by rw [← hk.2]; exact he)
  obtain ⟨j, hj, he⟩ := List.getElem_of_mem hx
  exact hs j j hj (Nat.le_refl _) (by rw [getB _ _ (by simpa using hj)]; simpa using he)
theorem compact_strict (zs : List Tx) (h : zs.Pairwise (· ≤ ·)) : (Lib.compact zs).Pairwise (· < ·) := by
 unfold Lib.compact Lib.compactUpTo
 rw [List.pairwise_map, List.pairwise_filter]
 have hle : ∀ i j (hi : i < zs.length) (hj : j < zs.length), i ≤ j → zs[i] ≤ zs[j] := by
  intro i j hi hj hij
  rcases Nat.lt_or_eq_of_le hij with h1 | h1
  ·exact List.pairwise_iff_getElem.1 h i j hi hj h1
  ·subst h1; exact List.le_refl _
 rw [List.pairwise_iff_getElem]
 intro i j hi hj hij hk1 hk2
 simp only [List.getElem_range] at hk1 hk2 ⊢
 have hi' : i < zs.length := by simpa using hi
 have hj' : j < zs.length := by simpa using hj
 unfold Lib.keeps at hk2
 simp only [decide_eq_true_iff] at hk2
 have hne : zs.toArray[j]! ≠ zs.toArray[j - 1]! := by
  rcases hk2 with h0 | h0
  ·omega
  ·exact h0
 rw [getB _ i (by simpa using hi'), getB _ j (by simpa using hj')]
 rw [getB _ j (by simpa using hj'), getB _ (j - 1) (by simp; omega)] at hne
 simp only [List.getElem_toArray] at hne ⊢
 have h1 := hle i (j - 1) hi' (by omega) (by omega)
 have h2 := hle (j - 1) j (by omega) hj' (by omega)
 have h3 : zs[j - 1] < zs[j] := by
  rcases Decidable.em (zs[j - 1] < zs[j]) with h | h
  ·exact h
  ·exact absurd (List.le_antisymm (List.not_lt.1 h) h2) hne
 exact List.lt_of_le_of_lt h1 h3
def sortS (xs : List Tx) : List Tx := Lib.compact (xs.mergeSort fun x y => decide (x ≤ y))
theorem sortS_strict (xs : List Tx) : (sortS xs).Pairwise (· < ·) := by
 refine compact_strict _ ?_
 have := List.pairwise_mergeSort (le := fun x y : Tx => decide (x ≤ y)) (fun a b c h1 h2 => by
  simp only [decide_eq_true_iff] at *; exact List.le_trans h1 h2) (fun a b => by
  simp only [Bool.or_eq_true, decide_eq_true_iff]; exact List.le_total a b) xs
 simpa using this
theorem mem_sortS (xs : List Tx) (x : Tx) : x ∈ sortS xs ↔ x ∈ xs := by
 unfold sortS
 rw [mem_compact]
 exact List.mem_mergeSort
theorem sortBA_ba (xs : List Tx) : sortBA (xs.map ba) = (sortS xs).map ba := by
 have e : (xs.map ba).map (·.data.toList) = xs := by
  rw [List.map_map]
  conv => rhs; rw [← List.map_id xs]
  exact List.map_congr_left fun x _ => by simp
 unfold sortBA sortS
 rw [e]; rfl
abbrev Hd := S45
def nameL (h : Hd) : Tx := h.f0.data.toList
def valL (h : Hd) : Tx := h.f1.data.toList
theorem ba_nameL (h : Hd) : ba (nameL h) = h.f0 := by unfold nameL ba; simp
theorem ba_valL (h : Hd) : ba (valL h) = h.f1 := by unfold valL ba; simp
def anyw (h : Hd) : Bool := header8 (nameL h) (valL h)
def small (h : Hd) : Prop := h.f0.size ≤ 1099511627 ∧ h.f1.size ≤ 1099511627
theorem nameL_len (h : Hd) : (nameL h).length = h.f0.size := Array.length_toList
theorem valL_len (h : Hd) : (valL h).length = h.f1.size := Array.length_toList
theorem progHeader' (h : Hd) (hs : small h) : Ev (fun k => safe_Header.f k h.f0 h.f1) (anyw h) := by
 have := progHeader (nameL h) (valL h) (by rw [nameL_len]; exact hs.1) (by rw [valL_len]; exact hs.2)
 rw [ba_nameL, ba_valL] at this
 exact this
def badL (l : List Hd) : List Tx := (l.filter fun h => !anyw h).map fun h => (nameL h).map low8
theorem badL_cons (h : Hd) (l : List Hd) : badL (h :: l) = if anyw h = true then badL l else (nameL h).map low8 :: badL l := by
 unfold badL
 rw [List.filter_cons]
 cases anyw h <;> simp
theorem progBadM : ∀ l : List Hd, (∀ h ∈ l, small h) → Ev (fun k => badM k l) ((badL l).map ba)
 | [], _ => Ev.now _
 | h :: l, hs => by
  have ih := progBadM l (fun x hx => hs x (by simp [hx]))
  have h1 := hs h (by simp)
  rw [badL_cons]
  unfold badM
  refine Ev.bind (progHeader' h h1) (Ev.ite (fun e => ?_) (fun e => ?_))
  ·rw [if_pos e]; exact ih
  ·rw [if_neg e]
   have hl := progLower (nameL h) (by rw [nameL_len]; have := h1.1; omega)
   rw [ba_nameL] at hl
   refine Ev.some_bind (fun _ => hl) (Ev.bind ih ?_)
   exact Ev.now _
theorem progUnsafe (l : List Hd) (hl : l.length ≤ 1099511627776) (hs : ∀ h ∈ l, small h) : Ev (fun k => safe_Unsafe.f k l) ((sortS (badL l)).map ba) := by
 unfold safe_Unsafe.f
 refine Ev.if_pos hl (Ev.bind (progBadM l hs) ?_)
 rw [sortBA_ba]
 exact Ev.now _
theorem badL_length (l : List Hd) : (badL l).length ≤ l.length := by unfold badL; rw [List.length_map]; exact List.length_filter_le _ _
theorem sortS_length (xs : List Tx) : (sortS xs).length ≤ xs.length := by
 unfold sortS
 exact Nat.le_trans (Lib.compact_length_le _) (by simp)
end Go.Proofs.YtfibkgmbgdaeoaaGreatDoor.Hand
