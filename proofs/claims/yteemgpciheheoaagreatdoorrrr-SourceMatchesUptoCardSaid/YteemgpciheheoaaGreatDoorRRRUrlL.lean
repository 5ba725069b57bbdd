/- The URL of a text, over lists of bytes: what url.Parse computes; a URL that may be comes back of its text. Conditions: at most 2^30 bytes. -/
import Derived.Test.YteemgpciheheoaaGreatDoorRRRUrlG
import Derived.Lib.LastIndexByte
import Derived.Test.YteemgpciheheoaaGreatDoorRRRFT1
import Derived.Test.YteemgpciheheoaaGreatDoorRRRRows
import Derived.Test.YteemgpciheheoaaGreatDoorRRRWWords
import Derived.Deep.Slices
import Derived.ChangeArms
import Derived.DataReads
import Derived.Test.YteemgpciheheoaaGreatDoorRRRK
import Derived.KernelRfl
namespace Go.Proofs.YteemgpciheheoaaGreatDoorRRR.Hand
open Go.RowKit Go.Proofs.YteemgpciheheoaaGreatDoorRRRW.PrintWords Go.Proofs.YteemgpciheheoaaGreatDoorRRRW.PrintLast Go.Proofs.YteemgpciheheoaaGreatDoorRRRW.PrintMore
set_option linter.unusedVariables false
set_option linter.unusedSimpArgs false

def U8.none : U8 := ⟨[], [], [], 0, [], false, [], false, []⟩
theorem cut_lens (l e : List UInt8) : (Lib.cut l e).1.length ≤ l.length ∧ (Lib.cut l e).2.1.length ≤ l.length := by
 unfold Lib.cut
 split
 ·simp only [List.length_take, List.length_drop]; omega
 ·simp
theorem indexByte_first (a b : List UInt8) (c : UInt8) (h : c ∉ a) : Lib.indexByte (a ++ c :: b) c = (a.length : Int) := by
 induction a with
 | nil => simp [Lib.indexByte]
 | cons x a ih =>
  have hx : (x == c) = false := by simpa using fun e : x = c => h (by simp [e])
  have h2 := ih (fun hc => h (by simp [hc]))
  rw [List.cons_append, Lib.indexByte, h2, hx]
  have : ((a.length : Int) == -1) = false := by simp
  rw [this]; simp
theorem indexByte_never (l : List UInt8) (c : UInt8) (h : c ∉ l) : Lib.indexByte l c = -1 := by
 induction l with
 | nil => rfl
 | cons x a ih =>
  have hx : (x == c) = false := by simpa using fun e : x = c => h (by simp [e])
  rw [Lib.indexByte, ih (fun hc => h (by simp [hc])), hx]; rfl
end Go.Proofs.YteemgpciheheoaaGreatDoorRRR.Hand

/- The round trip of URLs: a URL that may be comes back of its text; what a text gives may be, and its text is no longer by more than one byte. No condition. -/
namespace Go.Proofs.YteemgpciheheoaaGreatDoorRRR.Hand
open Go.RowKit Go.Proofs.YteemgpciheheoaaGreatDoorRRRW.PrintWords Go.Proofs.YteemgpciheheoaaGreatDoorRRRW.PrintLast Go.Proofs.YteemgpciheheoaaGreatDoorRRRW.PrintMore
set_option linter.unusedVariables false
set_option linter.unusedSimpArgs false

theorem def8_sc {sc : List UInt8} (h : def8 sc ≠ 0) : sc = [104, 116, 116, 112] ∨ sc = [104, 116, 116, 112, 115] := by
 unfold def8 at h
 split at h
 ·exact .inl ‹_›
 ·split at h
  ·exact .inr ‹_›
  ·exact absurd rfl h
structure U8.Good (u : U8) : Prop where
 sc : def8 u.sc ≠ 0
 po : 0 ≤ u.po ∧ u.po ≤ 65535 ∧ u.po ≠ def8 u.sc
 ho : host8 u.ho = true
 us : u.us.all (ok8 bad0) = true
 pa : u.pa.head? = some 47
 pa1 : u.pa.all (ok8 bad1) = true
 qu : u.qu.all (ok8 bad2) = true
 fr : u.fr.all (ok8 bad3) = true
 hq : u.hq = true ∨ u.qu = []
 hf : u.hf = true ∨ u.fr = []
 usl : u.us.length ≤ 128
 all : u.bare.text.length ≤ 1024
theorem U8.good_iff (u : U8) : u.good = true ↔ u.Good := by
 unfold U8.good
 simp only [Bool.and_eq_true, decide_eq_true_eq]
 constructor
 ·rintro ⟨⟨a1, a2, a3, a4⟩, b, c, d, e, f, g, h, i, j, k⟩
  exact ⟨a1, ⟨a2, a3, a4⟩, b, c, d, e, f, g, h, i, j, k⟩
 ·rintro ⟨a1, ⟨a2, a3, a4⟩, b, c, d, e, f, g, h, i, j, k⟩
  exact ⟨⟨a1, a2, a3, a4⟩, b, c, d, e, f, g, h, i, j, k⟩
def U8.textX (u : U8) (X : List UInt8) : List UInt8 := u.sc ++ [58, 47, 47] ++ (if u.us = [] then [] else u.us ++ [64]) ++ u.ho ++ portT u.po ++ X ++ (if u.hq = true then 63 :: u.qu else []) ++ (if u.hf = true then 35 :: u.fr else [])
theorem isPrefixOf_len {a b : List UInt8} (h : a.isPrefixOf b = true) : a.length ≤ b.length := (List.isPrefixOf_iff_prefix.1 h).length_le
def qLen (b : Bool) (d : UInt8) (l : List UInt8) : Nat := (if b = true then d :: l else []).length
def usLen (us : List UInt8) : Nat := if us = [] then 0 else us.length + 1
theorem U8.textLen (u : U8) : u.text.length = u.sc.length + 3 + usLen u.us + u.ho.length + (portT u.po).length + u.pa.length + qLen u.hq 63 u.qu + qLen u.hf 35 u.fr := by
 unfold U8.text usLen qLen
 simp only [List.length_append, List.length_cons, List.length_nil]
 split <;> simp only [List.length_append, List.length_cons, List.length_nil]
end Go.Proofs.YteemgpciheheoaaGreatDoorRRR.Hand

/- The URL of a text as the reference computes it: the same as url.Parse. Conditions: at most 2^26 bytes. -/
namespace Go.Proofs.YteemgpciheheoaaGreatDoorRRR.Hand
open Go.RowKit Go.Proofs.YteemgpciheheoaaGreatDoorRRRW.PrintWords Go.Proofs.YteemgpciheheoaaGreatDoorRRRW.PrintLast Go.Proofs.YteemgpciheheoaaGreatDoorRRRW.PrintMore
set_option linter.unusedVariables false
set_option linter.unusedSimpArgs false

def til (st l : List UInt8) : List UInt8 := l.takeWhile (fun c => !st.contains c)
def aft (st l : List UInt8) : List UInt8 := l.dropWhile (fun c => !st.contains c)
theorem til_app (st a b : List UInt8) (ha : ∀ x ∈ a, st.contains x = false) (hb : b = [] ∨ ∃ c r, b = c :: r ∧ st.contains c = true) : til st (a ++ b) = a ∧ aft st (a ++ b) = b := by
 have h1 : ∀ x ∈ a, (!st.contains x) = true := fun x hx => by rw [ha x hx]; rfl
 unfold til aft
 rw [List.takeWhile_append_of_pos h1, List.dropWhile_append_of_pos h1]
 rcases hb with rfl | ⟨c, r, rfl, hc⟩
 ·simp
 ·rw [List.takeWhile_cons, List.dropWhile_cons, hc]; simp
theorem not_st {st l : List UInt8} (h : ∀ d ∈ st, d ∉ l) : ∀ x ∈ l, st.contains x = false := by
 intro x hx
 rw [Bool.eq_false_iff]
 intro hc
 exact h x (by simpa using hc) hx
end Go.Proofs.YteemgpciheheoaaGreatDoorRRR.Hand

/- How an argument's reading, as the statement has it, gives the kind of its value, with the bulk that it is counted at: kind by kind. No condition. -/
namespace Go.Proofs.YteemgpciheheoaaGreatDoorRRR.Hand
open Go.RowKit Go.ChangeShapes Go.WideShapes Go.Deep Go.Proofs.YteemgpciheheoaaGreatDoorRRRW.PrintWords
set_option linter.unusedVariables false

structure Opens {α : Type} (P : Program) (t : TypeId) (d : Kd α) (sz : α → Nat) (wf : α → Prop) : Prop where
 size : P.cellsOf t = d.sz
 op : ∀ {H : Type} {enc : TypeId × Value → H} {w : World} {base : Nat} {spare : Nat → Bool} {held : Bool} {fuel : Nat} {cs : List Value} {x : DataW H × List MemPlace},
  DataW.trod enc P w base spare held fuel t cs = some x → ∃ a, d.K w a cs ∧ sz a ≤ Rows.uptoBulk x.1 ∧ wf a

theorem Opens.string {P : Program} {t : TypeId} (ht : P.underlying t = some .string) (hs : P.cellsOf t = 1) : Opens P t Kd.string (fun s => s.size + 1) (fun _ => True) where
 size := hs
 op := fun h => by
  obtain ⟨s, rfl, rfl, _⟩ := DataW.trod_string ht h
  refine ⟨s, rfl, ?_, trivial⟩
  have : s.data.toList.length = s.size := by rw [Array.length_toList]; rfl
  simp only [Rows.uptoBulk]
  omega
theorem Opens.int {P : Program} {t : TypeId} {k : IntKind} (ht : P.underlying t = some (.int k)) (hs : P.cellsOf t = 1) : Opens P t (Kd.int k) (fun _ => 1) (fun n => (Lit.int k n).wf = true) where
 size := hs
 op := fun h => by
  obtain ⟨n, rfl, rfl, hw⟩ := DataW.trod_int ht h
  exact ⟨n, rfl, by simp [Rows.uptoBulk], hw⟩
theorem Opens.bool {P : Program} {t : TypeId} (ht : P.underlying t = some .bool) (hs : P.cellsOf t = 1) : Opens P t Kd.bool (fun _ => 1) (fun _ => True) where
 size := hs
 op := fun h => by
  obtain ⟨b, rfl, rfl⟩ := DataW.trod_bool ht h
  exact ⟨b, rfl, by simp [Rows.uptoBulk], trivial⟩

theorem bulk_ofFn {H : Type} : ∀ (n : Nat) (s : Fin n → Nat) (D : Fin n → DataW H), (∀ i, s i ≤ Rows.uptoBulk (D i)) → (List.ofFn s).sum ≤ Rows.uptoBulkAll (List.ofFn D)
 | 0, _, _, _ => by simp
 | n + 1, s, D, h => by
  have := bulk_ofFn n (fun i => s i.succ) (fun i => D i.succ) (fun i => h i.succ)
  have h0 := h 0
  rw [List.ofFn_succ, List.ofFn_succ, List.sum_cons]
  simp only [Rows.uptoBulkAll]
  omega

theorem Opens.slice {α : Type} {P : Program} {t e : TypeId} {d : Kd α} {sz : α → Nat} {wf : α → Prop} (ht : P.underlying t = some (.slice e)) (hs : P.cellsOf t = 1) (hd : Opens P e d sz wf) : Opens P t (Kd.slice e d) (fun l => (l.map sz).sum + 1) (fun l => ∀ x ∈ l, wf x) where
 size := hs
 op := fun {H enc w base spare held fuel cs x} h => by
  rcases open_slice ht h with ⟨rfl, rfl⟩ | ⟨a, len, cap, m, n, D, Pl, rfl, hb, hl, hm, hmm, rfl, hi⟩
  ·exact ⟨[], ⟨none, 0, rfl, Nat.le_refl _, rfl, by simp, fun h => absurd h (by simp)⟩, by simp [Rows.uptoBulk], by simp⟩
  ·have hlm : len ≤ m := by rw [hmm]; split <;> omega
   have hx : ∀ i : Fin len, ∃ y : α, (∃ cs', w.cells? base (a.add (i * P.cellsOf e)) (P.cellsOf e) = some cs' ∧ d.K w y cs') ∧ sz y ≤ Rows.uptoBulk (D i) ∧ wf y := fun i => by
    obtain ⟨cs', h1, h2⟩ := hi i (by omega)
    obtain ⟨y, h3, h4, h5⟩ := hd.op h2
    exact ⟨y, ⟨cs', h1, h3⟩, h4, h5⟩
   refine ⟨List.ofFn fun i => Classical.choose (hx i), ⟨some a, cap, by rw [List.length_ofFn], by rw [List.length_ofFn]; exact hl, rfl, by rw [List.length_ofFn]; unfold maxLen at hm; omega, fun _ => ⟨a, rfl, fun j p hj => ?_⟩⟩, ?_, ?_⟩
   ·have hjl : j < len := by simpa using (List.getElem?_eq_some_iff.1 hj).1
    rw [List.getElem?_ofFn] at hj
    simp only [hjl, dite_true] at hj
    injection hj with hj
    subst hj
    obtain ⟨⟨cs', h1, h2⟩, _⟩ := Classical.choose_spec (hx ⟨j, hjl⟩)
    obtain ⟨_, h4, h5⟩ := World.cells?_some h1
    rw [hd.size] at h1 h4 h5
    refine ⟨cs', h4, h2, fun i u hu => ?_⟩
    have hil : i < d.sz := by rw [← h4]; exact (List.getElem?_eq_some_iff.1 hu).1
    rw [← Go.Deep.add_add, h5 i hil, hu]
   ·have e1 : (List.range len).map D = List.ofFn fun i : Fin len => D i := by
     apply List.ext_getElem?
     intro i
     rw [List.getElem?_ofFn, List.getElem?_map]
     by_cases h : i < len <;> simp [h]
    have h1 := bulk_ofFn len (fun i => sz (Classical.choose (hx i))) (fun i => D i) (fun i => (Classical.choose_spec (hx i)).2.1)
    rw [List.map_ofFn]
    simp only [Rows.uptoBulk, e1]
    have h2 : (List.ofFn (sz ∘ fun i => Classical.choose (hx i))).sum = (List.ofFn fun i => sz (Classical.choose (hx i))).sum := rfl
    omega
   ·intro x hm
    obtain ⟨i, rfl⟩ := List.mem_ofFn.1 hm
    exact (Classical.choose_spec (hx i)).2.2

structure OpensF {α : Type} (P : Program) (fs : List Field) (off : Nat) (d : Kd α) (sz : α → Nat) (wf : α → Prop) : Prop where
 op : ∀ {H : Type} {enc : TypeId × Value → H} {w : World} {base : Nat} {spare : Nat → Bool} {held : Bool} {n : Nat} {cs : List Value} {ys : List (DataW H × List MemPlace)},
  ys.length = fs.length → (∀ (i : Nat) (f : Field), fs[i]? = some f → DataW.trod enc P w base spare held n f.type ((cs.drop f.offset).take (P.cellsOf f.type)) = ys[i]?) →
  ∃ a, d.K w a ((cs.drop off).take d.sz) ∧ sz a ≤ Rows.uptoBulkAll (ys.map (·.1)) ∧ wf a

theorem OpensF.one {α : Type} {P : Program} {f : Field} {off : Nat} {d : Kd α} {sz : α → Nat} {wf : α → Prop} (ho : f.offset = off) (hd : Opens P f.type d sz wf) : OpensF P [f] off d sz wf where
 op := fun {H enc w base spare held n cs ys} hl h => by
  match ys, hl with
  | [y], _ =>
   have h0 := h 0 f rfl
   rw [ho, hd.size] at h0
   obtain ⟨a, h1, h2, h5⟩ := hd.op h0
   exact ⟨a, h1, by simpa [Rows.uptoBulkAll] using h2, h5⟩

theorem OpensF.cons {α β : Type} {P : Program} {f : Field} {r : List Field} {off : Nat} {d : Kd α} {d2 : Kd β} {sz : α → Nat} {sz2 : β → Nat} {wf : α → Prop} {wf2 : β → Prop} (ho : f.offset = off) (hd : Opens P f.type d sz wf) (hr : OpensF P r (off + d.sz) d2 sz2 wf2) :
  OpensF P (f :: r) off (Kd.pair d d2) (fun p => sz p.1 + sz2 p.2) (fun p => wf p.1 ∧ wf2 p.2) where
 op := fun {H enc w base spare held n cs ys} hl h => by
  match ys, hl with
  | y :: ys, hl =>
   have h0 := h 0 f rfl
   rw [ho, hd.size] at h0
   obtain ⟨a, h1, h2, h5⟩ := hd.op h0
   obtain ⟨b, h3, h4, h6⟩ := hr.op (ys := ys) (cs := cs) (by simpa using hl) (fun i g hg => h (i + 1) g (by simpa using hg))
   refine ⟨(a, b), ⟨_, _, ?_, h1, h3⟩, ?_, h5, h6⟩
   ·show ((cs.drop off).take (d.sz + d2.sz)) = _
    rw [List.take_add, List.drop_drop]
   ·show sz a + sz2 b ≤ _
    simp only [List.map_cons, Rows.uptoBulkAll]
    omega

theorem Opens.struct {α β : Type} {P : Program} {t : TypeId} {fs : Array Field} {d : Kd α} {sz : α → Nat} {wf : α → Prop} (ht : P.underlying t = some (.struct fs)) (hs : P.cellsOf t = d.sz) (hf : OpensF P fs.toList 0 d sz wf) (f : β → α) (g : α → β) (hg : ∀ a, f (g a) = a) :
  Opens P t (Kd.iso d f) (fun x => sz (f x) + 1) (fun x => wf (f x)) where
 size := hs
 op := fun {H enc w base spare held fuel cs x} h => by
  obtain ⟨ys, n, _, rfl, hl, hyl, hi⟩ := DataW.trod_struct ht h
  obtain ⟨a, h1, h2, h5⟩ := hf.op (ys := ys) (cs := cs) (by simpa using hyl) (fun i f hf => hi i f (by simpa using hf))
  refine ⟨g a, ?_, ?_, by rw [hg]; exact h5⟩
  ·show d.K w (f (g a)) cs
   rw [hg]
   rw [List.drop_zero, List.take_of_length_le (by omega)] at h1
   exact h1
  ·show sz (f (g a)) + 1 ≤ _
   rw [hg]
   simp only [Rows.uptoBulk]
   omega
end Go.Proofs.YteemgpciheheoaaGreatDoorRRR.Hand

/- How the laws' arguments open: each type's kind, size and well-formedness. No condition. -/
namespace Go.Proofs.YteemgpciheheoaaGreatDoorRRR.Hand
open Go.RowKit Go.Proofs.YteemgpciheheoaaGreatDoorRRRW.PrintWords
set_option linter.unusedVariables false
theorem opens9 : Opens Tryz.prog 9 Kd.string (fun s : ByteArray => s.size + 1) (fun _ => True) := Opens.string Tryz.underlying9 (by kernel_rfl)
theorem opens3 : Opens Tryz.prog 3 (Kd.int .i64) (fun _ => 1) (fun n => (Lit.int .i64 n).wf = true) := Opens.int Tryz.underlying3 (by kernel_rfl)
theorem opens4 : Opens Tryz.prog 4 Kd.bool (fun _ => 1) (fun _ => True) := Opens.bool Tryz.underlying4 (by kernel_rfl)
def sz23 (x : S23) : Nat := ((fun _ => 1) x.f0 + ((fun s : ByteArray => s.size + 1) x.f1 + ((fun _ => 1) x.f2 + ((fun s : ByteArray => s.size + 1) x.f3 + ((fun _ => 1) x.f4 + ((fun s : ByteArray => s.size + 1) x.f5 + (fun s : ByteArray => s.size + 1) x.f6)))))) + 1
def wf23 (x : S23) : Prop := ((fun n => (Lit.int .i64 n).wf = true) x.f0 ∧ ((fun _ => True) x.f1 ∧ ((fun _ => True) x.f2 ∧ ((fun _ => True) x.f3 ∧ ((fun n => (Lit.int .i64 n).wf = true) x.f4 ∧ ((fun _ => True) x.f5 ∧ (fun _ => True) x.f6))))))
theorem opens23 : Opens Tryz.prog 23 k23 sz23 wf23 := Opens.struct Tryz.underlying23 (by kernel_rfl) (OpensF.cons rfl opens3 (OpensF.cons rfl opens9 (OpensF.cons rfl opens4 (OpensF.cons rfl opens9 (OpensF.cons rfl opens3 (OpensF.cons rfl opens9 (OpensF.one rfl opens9))))))) (fun x : S23 => (x.f0, x.f1, x.f2, x.f3, x.f4, x.f5, x.f6)) (fun p => ⟨p.1, p.2.1, p.2.2.1, p.2.2.2.1, p.2.2.2.2.1, p.2.2.2.2.2.1, p.2.2.2.2.2.2⟩) (fun _ => rfl)
def sz30 (x : S30) : Nat := ((fun s : ByteArray => s.size + 1) x.f0 + ((fun s : ByteArray => s.size + 1) x.f1 + ((fun s : ByteArray => s.size + 1) x.f2 + ((fun _ => 1) x.f3 + ((fun s : ByteArray => s.size + 1) x.f4 + ((fun _ => 1) x.f5 + ((fun s : ByteArray => s.size + 1) x.f6 + ((fun _ => 1) x.f7 + (fun s : ByteArray => s.size + 1) x.f8)))))))) + 1
def wf30 (x : S30) : Prop := ((fun _ => True) x.f0 ∧ ((fun _ => True) x.f1 ∧ ((fun _ => True) x.f2 ∧ ((fun n => (Lit.int .i64 n).wf = true) x.f3 ∧ ((fun _ => True) x.f4 ∧ ((fun _ => True) x.f5 ∧ ((fun _ => True) x.f6 ∧ ((fun _ => True) x.f7 ∧ (fun _ => True) x.f8))))))))
theorem opens30 : Opens Tryz.prog 30 k30 sz30 wf30 := Opens.struct Tryz.underlying30 (by kernel_rfl) (OpensF.cons rfl opens9 (OpensF.cons rfl opens9 (OpensF.cons rfl opens9 (OpensF.cons rfl opens3 (OpensF.cons rfl opens9 (OpensF.cons rfl opens4 (OpensF.cons rfl opens9 (OpensF.cons rfl opens4 (OpensF.one rfl opens9))))))))) (fun x : S30 => (x.f0, x.f1, x.f2, x.f3, x.f4, x.f5, x.f6, x.f7, x.f8)) (fun p => ⟨p.1, p.2.1, p.2.2.1, p.2.2.2.1, p.2.2.2.2.1, p.2.2.2.2.2.1, p.2.2.2.2.2.2.1, p.2.2.2.2.2.2.2.1, p.2.2.2.2.2.2.2.2⟩) (fun _ => rfl)
def sz32 (x : S32) : Nat := ((fun s : ByteArray => s.size + 1) x.f0 + ((fun s : ByteArray => s.size + 1) x.f1 + (fun _ => 1) x.f2)) + 1
def wf32 (x : S32) : Prop := ((fun _ => True) x.f0 ∧ ((fun _ => True) x.f1 ∧ (fun n => (Lit.int .i64 n).wf = true) x.f2))
theorem opens32 : Opens Tryz.prog 32 k32 sz32 wf32 := Opens.struct Tryz.underlying32 (by kernel_rfl) (OpensF.cons rfl opens9 (OpensF.cons rfl opens9 (OpensF.one rfl opens3))) (fun x : S32 => (x.f0, x.f1, x.f2)) (fun p => ⟨p.1, p.2.1, p.2.2⟩) (fun _ => rfl)
end Go.Proofs.YteemgpciheheoaaGreatDoorRRR.Hand

/- The law UrlTexts in plain Lean: the two packages agree on what may be, on its text and its port. Conditions: at most 2^20 bytes of bulk. -/
namespace Go.Proofs.YteemgpciheheoaaGreatDoorRRR.Hand
open Go.RowKit Go.Proofs.YteemgpciheheoaaGreatDoorRRRW.PrintWords Go.Proofs.YteemgpciheheoaaGreatDoorRRRW.PrintLast Go.Proofs.YteemgpciheheoaaGreatDoorRRRW.PrintMore
set_option linter.unusedVariables false
set_option linter.unusedSimpArgs false

deriving instance DecidableEq for U8
theorem Ev.get' {α : Type} {g : Nat → Option α} {r : α} (h : Ev g r) : ∃ k, g k = some r := by obtain ⟨k, hk⟩ := h; exact ⟨k, hk k (Nat.le_refl k)⟩
end Go.Proofs.YteemgpciheheoaaGreatDoorRRR.Hand

/- The law UrlRound in plain Lean: text and parse come back of each other. Conditions: at most 2^20 bytes of bulk. -/
namespace Go.Proofs.YteemgpciheheoaaGreatDoorRRR.Hand
open Go.RowKit Go.Proofs.YteemgpciheheoaaGreatDoorRRRW.PrintWords Go.Proofs.YteemgpciheheoaaGreatDoorRRRW.PrintLast Go.Proofs.YteemgpciheheoaaGreatDoorRRRW.PrintMore
set_option linter.unusedVariables false
set_option linter.unusedSimpArgs false

theorem U8.Good.small {u : U8} (h : u.Good) : u.Small := by
 have h1 := h.all
 have h2 := h.usl
 rw [U8.textLen] at h1
 simp only [U8.bare] at h1
 have hq : u.qu.length ≤ 1024 := by
  rcases h.hq with c | c
  ·rw [c] at h1; simp only [qLen, if_true, List.length_cons] at h1; omega
  ·rw [c]; simp
 have hf : u.fr.length ≤ 1024 := by
  rcases h.hf with c | c
  ·rw [c] at h1; simp only [qLen, if_true, List.length_cons] at h1; omega
  ·rw [c]; simp
 constructor <;> omega
theorem U8.Good.len {u : U8} (h : u.Good) : u.text.length ≤ 1153 := by
 have h1 := h.all
 have h2 := h.usl
 have h3 := bare_length u
 split at h3 <;> omega
theorem U8.Good.port {u : U8} (h : u.Good) : u.port > 0 := by
 have h1 := h.po
 unfold U8.port
 split
 ·rcases def8_sc h.sc with e | e <;> rw [e] <;> decide
 ·omega
end Go.Proofs.YteemgpciheheoaaGreatDoorRRR.Hand
