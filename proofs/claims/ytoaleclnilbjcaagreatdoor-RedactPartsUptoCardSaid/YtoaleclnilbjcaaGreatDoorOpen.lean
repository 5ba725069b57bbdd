/- How an argument's reading, as the statement has it, gives the kind of its value, with the bulk that it is counted at: kind by kind. No condition. -/
import Derived.Test.YtoaleclnilbjcaaGreatDoorRows
import Derived.Test.YtoaleclnilbjcaaGreatDoorWWords
import Derived.Deep.Slices
import Derived.ChangeArms
import Derived.DataReads
namespace Go.Proofs.YtoaleclnilbjcaaGreatDoor.Hand
open Go.RowKit Go.ChangeShapes Go.WideShapes Go.Deep Go.Proofs.YtoaleclnilbjcaaGreatDoorW.PrintWords
set_option linter.unusedVariables false

structure Opens {α : Type} (P : Program) (t : TypeId) (d : Kd α) (sz : α → Nat) (wf : α → Prop) : Prop where
 size : P.cellsOf t = d.sz
 op : ∀ {H : Type} {enc : TypeId × Value → H} {w : World} {base : Nat} {spare : Nat → Bool} {held : Bool} {fuel : Nat} {cs : List Value} {x : DataW H × List MemPlace},
  DataW.trod enc P w base spare held fuel t cs = some x → ∃ a, d.K w a cs ∧ sz a ≤ Rows.uptoBulk x.1 ∧ wf a

theorem Opens.string {P : Program} {t : TypeId} (ht : P.underlying t = some .string) (hs : P.cellsOf t = 1) : Opens P t Kd.string (fun s => s.size + 1) (fun _ => True) where
 size := hs
 op := fun h => by
  obtain ⟨s, rfl, rfl, _⟩ := DataW.trod_string ht h
  refine ⟨s, rfl, ?_, trivial⟩
  have : s.data.toList.length = s.size := by rw [Array.length_toList]; rfl
  simp only [Rows.uptoBulk]
  omega
theorem Opens.int {P : Program} {t : TypeId} {k : IntKind} (ht : P.underlying t = some (.int k)) (hs : P.cellsOf t = 1) : Opens P t (Kd.int k) (fun _ => 1) (fun n => (Lit.int k n).wf = true) where
 size := hs
 op := fun h => by
  obtain ⟨n, rfl, rfl, hw⟩ := DataW.trod_int ht h
  exact ⟨n, rfl, by simp [Rows.uptoBulk], hw⟩
theorem Opens.bool {P : Program} {t : TypeId} (ht : P.underlying t = some .bool) (hs : P.cellsOf t = 1) : Opens P t Kd.bool (fun _ => 1) (fun _ => True) where
 size := hs
 op := fun h => by
  obtain ⟨b, rfl, rfl⟩ := DataW.trod_bool ht h
  exact ⟨b, rfl, by simp [Rows.uptoBulk], trivial⟩

theorem bulk_ofFn {H : Type} : ∀ (n : Nat) (s : Fin n → Nat) (D : Fin n → DataW H), (∀ i, s i ≤ Rows.uptoBulk (D i)) → (List.ofFn s).sum ≤ Rows.uptoBulkAll (List.ofFn D)
 | 0, _, _, _ => by simp
 | n + 1, s, D, h => by
  have := bulk_ofFn n (fun i => s i.succ) (fun i => D i.succ) (fun i => h i.succ)
  have h0 := h 0
  rw [List.ofFn_succ, List.ofFn_succ, List.sum_cons]
  simp only [Rows.uptoBulkAll]
  omega

theorem Opens.slice {α : Type} {P : Program} {t e : TypeId} {d : Kd α} {sz : α → Nat} {wf : α → Prop} (ht : P.underlying t = some (.slice e)) (hs : P.cellsOf t = 1) (hd : Opens P e d sz wf) : Opens P t (Kd.slice e d) (fun l => (l.map sz).sum + 1) (fun l => ∀ x ∈ l, wf x) where
 size := hs
 op := fun {H enc w base spare held fuel cs x} h => by
  rcases open_slice ht h with ⟨rfl, rfl⟩ | ⟨a, len, cap, m, n, D, Pl, rfl, hb, hl, hm, hmm, rfl, hi⟩
  ·exact ⟨[], ⟨none, 0, rfl, Nat.le_refl _, rfl, by simp, fun h => absurd h (by simp)⟩, by simp [Rows.uptoBulk], by simp⟩
  ·have hlm : len ≤ m := by rw [hmm]; split <;> omega
   have hx : ∀ i : Fin len, ∃ y : α, (∃ cs', w.cells? base (a.add (i * P.cellsOf e)) (P.cellsOf e) = some cs' ∧ d.K w y cs') ∧ sz y ≤ Rows.uptoBulk (D i) ∧ wf y := fun i => by
    obtain ⟨cs', h1, h2⟩ := hi i (by omega)
    obtain ⟨y, h3, h4, h5⟩ := hd.op h2
    exact ⟨y, ⟨cs', h1, h3⟩, h4, h5⟩
   refine ⟨List.ofFn fun i => Classical.choose (hx i), ⟨some a, cap, by rw [List.length_ofFn], by rw [List.length_ofFn]; exact hl, rfl, by rw [List.length_ofFn]; unfold maxLen at hm; omega, fun _ => ⟨a, rfl, fun j p hj => ?_⟩⟩, ?_, ?_⟩
   ·have hjl : j < len := by simpa using (List.getElem?_eq_some_iff.1 hj).1
    rw [List.getElem?_ofFn] at hj
    simp only [hjl, dite_true] at hj
    injection hj with hj
    subst hj
    obtain ⟨⟨cs', h1, h2⟩, _⟩ := Classical.choose_spec (hx ⟨j, hjl⟩)
    obtain ⟨_, h4, h5⟩ := World.cells?_some h1
    rw [hd.size] at h1 h4 h5
    refine ⟨cs', h4, h2, fun i u hu => ?_⟩
    have hil : i < d.sz := by rw [← h4]; exact (List.getElem?_eq_some_iff.1 hu).1
    rw [← Go.Deep.add_add, h5 i hil, hu]
   ·have e1 : (List.range len).map D = List.ofFn fun i : Fin len => D i := by
     apply List.ext_getElem?
     intro i
     rw [List.getElem?_ofFn, List.getElem?_map]
     by_cases h : i < len <;> simp [h]
    have h1 := bulk_ofFn len (fun i => sz (Classical.choose (hx i))) (fun i => D i) (fun i => (Classical.choose_spec (hx i)).2.1)
    rw [List.map_ofFn]
    simp only [Rows.uptoBulk, e1]
    have h2 : (List.ofFn (sz ∘ fun i => Classical.choose (hx i))).sum = (List.ofFn fun i => sz (Classical.choose (hx i))).sum := rfl
    omega
   ·intro x hm
    obtain ⟨i, rfl⟩ := List.mem_ofFn.1 hm
    exact (Classical.choose_spec (hx i)).2.2

structure OpensF {α : Type} (P : Program) (fs : List Field) (off : Nat) (d : Kd α) (sz : α → Nat) (wf : α → Prop) : Prop where
 op : ∀ {H : Type} {enc : TypeId × Value → H} {w : World} {base : Nat} {spare : Nat → Bool} {held : Bool} {n : Nat} {cs : List Value} {ys : List (DataW H × List MemPlace)},
  ys.length = fs.length → (∀ (i : Nat) (f : Field), fs[i]? = some f → DataW.trod enc P w base spare held n f.type ((cs.drop f.offset).take (P.cellsOf f.type)) = ys[i]?) →
  ∃ a, d.K w a ((cs.drop off).take d.sz) ∧ sz a ≤ Rows.uptoBulkAll (ys.map (·.1)) ∧ wf a

theorem OpensF.one {α : Type} {P : Program} {f : Field} {off : Nat} {d : Kd α} {sz : α → Nat} {wf : α → Prop} (ho : f.offset = off) (hd : Opens P f.type d sz wf) : OpensF P [f] off d sz wf where
 op := fun {H enc w base spare held n cs ys} hl h => by
  match ys, hl with
  | [y], _ =>
   have h0 := h 0 f rfl
   rw [ho, hd.size] at h0
   obtain ⟨a, h1, h2, h5⟩ := hd.op h0
   exact ⟨a, h1, by simpa [Rows.uptoBulkAll] using h2, h5⟩

theorem OpensF.cons {α β : Type} {P : Program} {f : Field} {r : List Field} {off : Nat} {d : Kd α} {d2 : Kd β} {sz : α → Nat} {sz2 : β → Nat} {wf : α → Prop} {wf2 : β → Prop} (ho : f.offset = off) (hd : Opens P f.type d sz wf) (hr : OpensF P r (off + d.sz) d2 sz2 wf2) :
  OpensF P (f :: r) off (Kd.pair d d2) (fun p => sz p.1 + sz2 p.2) (fun p => wf p.1 ∧ wf2 p.2) where
 op := fun {H enc w base spare held n cs ys} hl h => by
  match ys, hl with
  | y :: ys, hl =>
   have h0 := h 0 f rfl
   rw [ho, hd.size] at h0
   obtain ⟨a, h1, h2, h5⟩ := hd.op h0
   obtain ⟨b, h3, h4, h6⟩ := hr.op (ys := ys) (cs := cs) (by simpa using hl) (fun i g hg => h (i + 1) g (by simpa using hg))
   refine ⟨(a, b), ⟨_, _, ?_, h1, h3⟩, ?_, h5, h6⟩
   ·show ((cs.drop off).take (d.sz + d2.sz)) = _
    rw [List.take_add, List.drop_drop]
   ·show sz a + sz2 b ≤ _
    simp only [List.map_cons, Rows.uptoBulkAll]
    omega

theorem Opens.struct {α β : Type} {P : Program} {t : TypeId} {fs : Array Field} {d : Kd α} {sz : α → Nat} {wf : α → Prop} (ht : P.underlying t = some (.struct fs)) (hs : P.cellsOf t = d.sz) (hf : OpensF P fs.toList 0 d sz wf) (f : β → α) (g : α → β) (hg : ∀ a, f (g a) = a) :
  Opens P t (Kd.iso d f) (fun x => sz (f x) + 1) (fun x => wf (f x)) where
 size := hs
 op := fun {H enc w base spare held fuel cs x} h => by
  obtain ⟨ys, n, _, rfl, hl, hyl, hi⟩ := DataW.trod_struct ht h
  obtain ⟨a, h1, h2, h5⟩ := hf.op (ys := ys) (cs := cs) (by simpa using hyl) (fun i f hf => hi i f (by simpa using hf))
  refine ⟨g a, ?_, ?_, by rw [hg]; exact h5⟩
  ·show d.K w (f (g a)) cs
   rw [hg]
   rw [List.drop_zero, List.take_of_length_le (by omega)] at h1
   exact h1
  ·show sz (f (g a)) + 1 ≤ _
   rw [hg]
   simp only [Rows.uptoBulk]
   omega
end Go.Proofs.YtoaleclnilbjcaaGreatDoor.Hand
