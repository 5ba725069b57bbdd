/- A row of flat elements by its cells: what stays, what a store does, and how it stands to the print's own words. No condition. -/
import Derived.Below
import Derived.Laws.IdiomCopy
import Derived.Test.YtoaleclnilbjcaaGreatDoorWMore
namespace Go.Proofs.YtoaleclnilbjcaaGreatDoor.Hand
open Go.RowKit Go.Proofs.YtoaleclnilbjcaaGreatDoorW.PrintWords
set_option linter.unusedVariables false
set_option linter.unusedSimpArgs false

structure Flat {α : Type} (d : Kd α) (enc : α → List Value) : Prop where
  len : ∀ x, (enc x).length = d.sz
  M : ∀ {w : World} {base : Nat} {ok : Nat → Prop} {x : α} {cs : List Value}, d.M w base ok x cs → cs = enc x
  mkM : ∀ (w : World) (base : Nat) (ok : Nat → Prop) (x : α), d.M w base ok x (enc x)
  K : ∀ {w : World} {x : α} {cs : List Value}, d.K w x cs → cs = enc x
  mkK : ∀ (w : World) (x : α), d.K w x (enc x)
theorem Flat.string : Flat Kd.string (fun s => [.string s]) := ⟨fun _ => rfl, fun h => h, fun _ _ _ _ => rfl, fun h => h, fun _ _ => rfl⟩

structure RowAt {α : Type} (enc : α → List Value) (sz e g cap : Nat) (W : World) (ys : List α) : Prop where
  blk : ∃ cur, W.heap[g]? = some (.cells cur e (0, 0)) ∧ cur.size = cap * sz
  cell : ∀ (j : Nat) x, ys[j]? = some x → ∀ (i : Nat) v, (enc x)[i]? = some v → W.cell? ⟨g, j * sz + i, none⟩ = some v
  le : ys.length ≤ cap
  max : cap ≤ maxLen

section
variable {α : Type} {enc : α → List Value} {sz e g cap : Nat} {W W' : World} {ys : List α}
theorem RowAt.lt (h : RowAt enc sz e g cap W ys) : g < W.heap.size := by
  obtain ⟨_, hb, _⟩ := h.blk
  exact blk_lt hb
theorem RowAt.free (h : RowAt enc sz e g cap W ys) (i : Nat) : W.frozen? ⟨g, i, none⟩ = false := by
  obtain ⟨_, hb, _⟩ := h.blk
  exact blk_frozen hb i
theorem RowAt.other (h : RowAt enc sz e g cap W ys) (hh : W'.heap[g]? = W.heap[g]?) : RowAt enc sz e g cap W' ys where
  blk := by rw [hh]; exact h.blk
  cell := fun j x hj i v hv => by
    have := h.cell j x hj i v hv
    simp only [World.cell?] at this ⊢
    rw [hh]; exact this
  le := h.le
  max := h.max
theorem RowAt.below (h : RowAt enc sz e g cap W ys) (hb : Below W.heap.size W W') : RowAt enc sz e g cap W' ys := h.other (hb.block g h.lt)
theorem RowAt.pre {l r : List α} (h : RowAt enc sz e g cap W (l ++ r)) : RowAt enc sz e g cap W l where
  blk := h.blk
  cell := fun j x hj => h.cell j x (by rw [List.getElem?_append_left (List.getElem?_eq_some_iff.1 hj).1]; exact hj)
  le := by have := h.le; rw [List.length_append] at this; omega
  max := h.max
theorem setCells_blk {cur : Array Value} {fr : Nat × Nat} : ∀ (vs : List Value) (o : Nat) (w : World), w.heap[g]? = some (.cells cur e (0, 0)) → ∃ cur', (w.setCells g o vs).heap[g]? = some (.cells cur' e (0, 0)) ∧ cur'.size = cur.size := by
  intro vs
  induction vs generalizing cur with
  | nil => exact fun o w h => ⟨cur, h, rfl⟩
  | cons v r ih =>
    intro o w h
    obtain ⟨c', h1, h2⟩ := ih (cur := cur.setIfInBounds o v) (o + 1) _ (blk_set h o v)
    exact ⟨c', h1, by rw [h2]; simp⟩
theorem setCells_far : ∀ (vs : List Value) (o : Nat) (w : World) (k : Nat), k ≠ g → (w.setCells g o vs).heap[k]? = w.heap[k]? := by
  intro vs
  induction vs with
  | nil => exact fun _ _ _ _ => rfl
  | cons v r ih => exact fun o w k hk => (ih (o + 1) _ k hk).trans (Below.heap_setCell w ⟨g, o, none⟩ v k hk)
theorem row_lt {j n s i : Nat} (hj : j < n) (hi : i < s) : j * s + i < n * s := by
  have h1 : (j + 1) * s ≤ n * s := Nat.mul_le_mul_right s hj
  rw [Nat.succ_mul] at h1
  omega
theorem RowAt.there (h : RowAt enc sz e g cap W ys) (k : Nat) (hk : k < cap * sz) : (W.cell? ⟨g, k, none⟩).isSome = true := by
  obtain ⟨cur, hb, hs⟩ := h.blk
  rw [blk_cell hb k, Array.getElem?_eq_getElem (by omega)]; rfl
theorem RowAt.put (hl : ∀ x, (enc x).length = sz) (h : RowAt enc sz e g cap W ys) (i : Nat) (hi : i < ys.length) (x : α) : RowAt enc sz e g cap (W.setCells g (i * sz) (enc x)) (ys.set i x) where
  blk := by
    obtain ⟨cur, hb, hs⟩ := h.blk
    obtain ⟨c', h1, h2⟩ := setCells_blk (fr := (0, 0)) (enc x) (i * sz) W hb
    exact ⟨c', h1, by rw [h2, hs]⟩
  cell := fun j y hj k v hv => by
    have hk : k < sz := by rw [← hl y]; exact (List.getElem?_eq_some_iff.1 hv).1
    rw [List.getElem?_set] at hj
    by_cases e1 : i = j
    · subst e1
      rw [if_pos rfl, if_pos hi] at hj
      injection hj with hj
      subst hj
      have h1 := World.cell?_setCells_in g (enc x) (i * sz) W (fun q hq => h.there _ (row_lt (Nat.lt_of_lt_of_le hi h.le) (by rw [hl] at hq; exact hq))) k (by rw [hl]; exact hk)
      rw [h1]
      rw [← hv, List.getElem?_eq_getElem (by rw [hl]; exact hk)]
    · rw [if_neg e1] at hj
      rw [World.cell?_setCells_out g (enc x) (i * sz) W _ (fun _ _ => ?_)]
      · exact h.cell j y hj k v hv
      · show j * sz + k < i * sz ∨ i * sz + (enc x).length ≤ j * sz + k
        rw [hl]
        rcases Nat.lt_or_gt_of_ne e1 with h1 | h1
        · right
          have := Nat.mul_le_mul_right sz (show i + 1 ≤ j from h1)
          rw [Nat.succ_mul] at this
          omega
        · left
          exact row_lt h1 hk
  le := by rw [List.length_set]; exact h.le
  max := h.max
end

theorem flat_len {α : Type} {enc : α → List Value} {sz : Nat} (hl : ∀ x, (enc x).length = sz) (ys : List α) : (ys.flatMap enc).length = ys.length * sz := by
  induction ys with
  | nil => simp
  | cons y r ih => rw [List.flatMap_cons, List.length_append, hl, ih, List.length_cons, Nat.succ_mul]; omega
theorem flat_at {α : Type} {enc : α → List Value} {sz : Nat} (hl : ∀ x, (enc x).length = sz) : ∀ (ys : List α) (j : Nat) (x : α), ys[j]? = some x → ∀ i, i < sz → (ys.flatMap enc)[j * sz + i]? = (enc x)[i]? := by
  intro ys
  induction ys with
  | nil => intro j x h; simp at h
  | cons y r ih =>
    intro j x hj i hi
    rw [List.flatMap_cons]
    cases j with
    | zero =>
      have : y = x := by simpa using hj
      subst this
      rw [Nat.zero_mul, Nat.zero_add, List.getElem?_append_left (by rw [hl]; exact hi)]
    | succ j =>
      rw [List.getElem?_append_right (by rw [hl, Nat.succ_mul]; omega), hl, Nat.succ_mul, show j * sz + sz + i - sz = j * sz + i by omega]
      exact ih j x (by simpa using hj) i hi

theorem RowAt.toR {α : Type} {d : Kd α} {enc : α → List Value} (hf : Flat d enc) {e g cap base : Nat} {ok : Nat → Prop} {W : World} {ys : List α} (h : RowAt enc d.sz e g cap W ys) (hb : base ≤ g) (hok : ok g) (hs : 0 < d.sz) :
    Kd.R d e W base ok (.slice (some ⟨g, 0, none⟩) ys.length cap) ys := by
  obtain ⟨cur, hbk, hsz⟩ := h.blk
  refine ⟨fun k hk => by have : g = k := by simpa [Value.ownBlock] using hk
                         subst this; exact hok, ys.flatMap enc, ⟨flat_len hf.len ys, .inr ⟨g, cap, cur, rfl, hb, hbk, h.le, h.max, hsz, ?_⟩⟩, flat_len hf.len ys, fun j p hj => ?_⟩
  · apply List.ext_getElem?
    intro k
    by_cases hk : k < ys.length * d.sz
    · rw [List.getElem?_take, if_pos hk]
      have hj : k / d.sz < ys.length := (Nat.div_lt_iff_lt_mul hs).2 hk
      have hi : k % d.sz < d.sz := Nat.mod_lt _ hs
      have e1 : k = k / d.sz * d.sz + k % d.sz := by rw [Nat.mul_comm]; exact (Nat.div_add_mod k d.sz).symm
      have hy : ys[k / d.sz]? = some ys[k / d.sz] := List.getElem?_eq_getElem hj
      have h1 := flat_at hf.len ys _ _ hy _ hi
      rw [← e1] at h1
      rw [h1]
      have h2 := List.getElem?_eq_getElem (l := enc ys[k / d.sz]) (i := k % d.sz) (by rw [hf.len]; exact hi)
      have h3 := h.cell _ _ hy _ _ h2
      rw [← e1, blk_cell hbk] at h3
      rw [h2, ← h3]
      simp
    · rw [List.getElem?_eq_none (by rw [List.length_take]; omega), List.getElem?_eq_none (by rw [flat_len hf.len]; omega)]
  · have e1 : ((ys.flatMap enc).drop (j * d.sz)).take d.sz = enc p := by
      apply List.ext_getElem?
      intro i
      rw [List.getElem?_take, List.getElem?_drop]
      by_cases hi : i < d.sz
      · rw [if_pos hi]; exact flat_at hf.len ys j p hj i hi
      · rw [if_neg hi, List.getElem?_eq_none (by rw [hf.len]; omega)]
    rw [e1]
    exact hf.mkM _ _ _ _

theorem RowAt.ofR {α : Type} {d : Kd α} {enc : α → List Value} (hf : Flat d enc) {e base : Nat} {ok : Nat → Prop} {W : World} {v : Value} {ys : List α} (h : Kd.R d e W base ok v ys) :
    (v = .slice none 0 0 ∧ ys = []) ∨ ∃ g cap, v = .slice (some ⟨g, 0, none⟩) ys.length cap ∧ base ≤ g ∧ ok g ∧ RowAt enc d.sz e g cap W ys := by
  obtain ⟨h0, inner, ho, hr⟩ := h
  rcases ho.2 with ⟨hv, hn⟩ | ⟨g, cap, cur, hv, hg, hh, hle, hmx, hsz, htk⟩
  · exact .inl ⟨hv, List.length_eq_zero_iff.1 hn⟩
  · refine .inr ⟨g, cap, hv, hg, h0 g (by rw [hv]; rfl), ⟨cur, hh, hsz⟩, fun j x hj i v' hv' => ?_, hle, hmx⟩
    have h1 := hf.M (hr.2 j x hj)
    have hi : i < d.sz := by rw [← hf.len x]; exact (List.getElem?_eq_some_iff.1 hv').1
    rw [← h1, List.getElem?_take, if_pos hi, List.getElem?_drop, ← htk, List.getElem?_take] at hv'
    have hlt : j * d.sz + i < ys.length * d.sz := row_lt (List.getElem?_eq_some_iff.1 hj).1 hi
    rw [if_pos hlt] at hv'
    rw [blk_cell hh]
    simpa using hv'
theorem RowAt.reads {α : Type} {d : Kd α} {enc : α → List Value} (hf : Flat d enc) {e g cap : Nat} {W : World} {ys : List α} (h : RowAt enc d.sz e g cap W ys) : Kd.C d W (some ⟨g, 0, none⟩) ys.length ys := by
  refine ⟨rfl, by have h1 := h.le; have h2 := h.max; unfold maxLen at h2; omega, fun _ => ⟨_, rfl, fun j p hj => ⟨enc p, hf.len p, hf.mkK _ _, fun i u hu => ?_⟩⟩⟩
  rw [add_plain]
  exact h.cell j p hj i u hu
end Go.Proofs.YtoaleclnilbjcaaGreatDoor.Hand
