/- strings.SplitSeq at a separator of one byte: the iterator gives the pieces between the separators, one by one. No condition. -/
import Derived.Test.YtoaleclnilbjcaaGreatDoorSeqBox
import Derived.Test.YtoaleclnilbjcaaGreatDoorShelf
import Derived.Test.YtoaleclnilbjcaaGreatDoorGW
import Derived.Shelf.Abstract
import Derived.Shelf.RegionOpen
import Derived.WalkKit
import Derived.OwnWalkIn
import Derived.TacticsInMore
import Derived.LoopNIn
import Derived.LoopIn
import Derived.Lib.IndexLaws
namespace Go.Proofs.YtoaleclnilbjcaaGreatDoor.Hand
open Go.RowKit Go.Shelf
set_option linter.unusedVariables false
set_option linter.unusedSimpArgs false
attribute [local go_sem] Oper.semAt_some

def splitD (d : UInt8) : List UInt8 → List (List UInt8)
 | [] => [[]]
 | c :: l => if c = d then [] :: splitD d l else match splitD d l with | [] => [[c]] | x :: r => (c :: x) :: r
theorem splitD_ne (d : UInt8) (l : List UInt8) : splitD d l ≠ [] := by
 cases l with
 | nil => simp [splitD]
 | cons c l =>
  unfold splitD
  split
  ·simp
  ·split <;> simp
theorem splitD_miss (d : UInt8) : ∀ l, Lib.indexByte l d = -1 → splitD d l = [l]
 | [], _ => rfl
 | c :: l, h => by
  have hge := Lib.indexByte_ge l d
  unfold Lib.indexByte at h
  by_cases hc : c = d
  ·subst hc; simp at h
  ·rw [if_neg (by simpa using hc)] at h
   by_cases h1 : Lib.indexByte l d = -1
   ·rw [splitD, if_neg hc, splitD_miss d l h1]
   ·rw [if_neg (by simpa using h1)] at h; omega
theorem splitD_hit (d : UInt8) : ∀ (l : List UInt8) (i : Nat), Lib.indexByte l d = i → splitD d l = l.take i :: splitD d (l.drop (i + 1)) ∧ i < l.length
 | [], i, h => by simp [Lib.indexByte] at h
 | c :: l, i, h => by
  have hge := Lib.indexByte_ge l d
  unfold Lib.indexByte at h
  by_cases hc : c = d
  ·subst hc
   simp at h
   obtain rfl : i = 0 := by omega
   simp [splitD]
  ·rw [if_neg (by simpa using hc)] at h
   by_cases h1 : Lib.indexByte l d = -1
   ·rw [if_pos (by simpa using h1)] at h; omega
   ·rw [if_neg (by simpa using h1)] at h
    obtain ⟨j, rfl⟩ : ∃ j, i = j + 1 := ⟨i - 1, by omega⟩
    obtain ⟨h2, h3⟩ := splitD_hit d l j (by omega)
    rw [splitD, if_neg hc, h2]
    exact ⟨by simp, by simpa using h3⟩
def piecesBA (d : UInt8) (s : ByteArray) : List ByteArray := (splitD d s.data.toList).map fun l => ⟨l.toArray⟩
theorem pieces_miss {d : UInt8} {s : ByteArray} (h : Lib.indexByte s.data.toList d = -1) : piecesBA d s = [s] := by
 unfold piecesBA
 rw [splitD_miss d _ h]
 simp
theorem pieces_hit {d : UInt8} {s : ByteArray} {i : Nat} (h : Lib.indexByte s.data.toList d = i) : piecesBA d s = s.extract 0 i :: piecesBA d (s.extract (i + 1) s.size) ∧ i < s.size := by
 obtain ⟨h1, h2⟩ := splitD_hit d _ i h
 have hl : s.data.toList.length = s.size := by rw [Array.length_toList]; rfl
 rw [hl] at h2
 unfold piecesBA
 rw [h1, List.map_cons]
 refine ⟨?_, h2⟩
 congr 1
 ·rw [Lib.extract_eq]; simp
 ·rw [Lib.extract_data, List.take_of_length_le (by simp)]

def KeepsBox (b : Nat) (W W' : World) : Prop := ∀ k, b ≤ k → k < b + 3 → W'.heap[k]? = W.heap[k]?
theorem KeepsBox.trans {b : Nat} {A B C : World} (h : KeepsBox b A B) (k : KeepsBox b B C) : KeepsBox b A C := fun i h1 h2 => (k i h1 h2).trans (h i h1 h2)
theorem KeepsBox.boxed {b B : Nat} {W W' : World} {t : TypeId} {v : Value} (h : KeepsBox b W W') (h1 : b ≤ B) (h2 : B < b + 3) (hb : Boxed W B t v) : Boxed W' B t v := (h B h1 h2).trans hb
theorem keepsBox_b {b : Nat} {w : World} (hb : b + 3 ≤ w.heap.size) (W : World) (l : Nat) (o o' : Obj) (hl : w.heap.size ≤ l) (_ : W.heap[l]? = some o) (_ : o.isCells = false) (_ : o.isWalk = false) : KeepsBox b W (W.putObj l o') :=
 fun k _ h2 => World.putObj_heap_other (by omega)
theorem KeepsBox.below {b : Nat} {W W' : World} (h : Below W.heap.size W W') (hb : b + 3 ≤ W.heap.size) : KeepsBox b W W' := fun k _ h2 => h.block k (by omega)
theorem boxed_other {W : World} {B b : Nat} {t : TypeId} {v : Value} (x : Value) (h : Boxed W B t v) (hne : B ≠ b) : Boxed (W.setCell ⟨b, 0, none⟩ x) B t v := (Below.heap_setCell W ⟨b, 0, none⟩ x B hne).trans h
def boxLen (b : Nat) (W : World) : Nat := match W.cell? ⟨b, 0, none⟩ with | some (.string s) => s.size | _ => 0
theorem boxLen_of {W : World} {b : Nat} {s : ByteArray} {t : TypeId} (h : Boxed W b t (.string s)) : boxLen b W = s.size := by unfold boxLen; rw [h.cell]

set_option maxRecDepth 100000 in
set_option maxHeartbeats 4000000 in
theorem splitSeq_round (n : Nat) (hn : 1 ≤ n) (l b : Nat) (d : UInt8) (s : ByteArray) (J Jx : List ByteArray → World → Prop) (hJb : AbidesBox b J)
  (hY : ∀ pre x W, J pre W → pre ++ [x] <+: piecesBA d s → YieldAt Fence.wide (n - 1) Tryz.prog l #[.string x] W fun e W' =>
   (e = .returned (.bool true) ∧ J (pre ++ [x]) W' ∧ KeepsBox b W W') ∨ (e = .returned (.bool false) ∧ Jx (pre ++ [x]) W'))
  (W : World) (h1 : Boxed W b 9 (.string s)) (h2 : Boxed W (b + 1) 9 (.string ⟨#[d]⟩)) (h3 : Boxed W (b + 2) 3 (.int .i64 0)) (h0 : J [] W) (hsz : s.size ≤ 9223372036854775806) :
  CallsIn Fence.wide n Tryz.prog 176 #[.func (.yield l) #[] #[], .pointer (some ⟨b + 1, 0, none⟩), .pointer (some ⟨b, 0, none⟩), .pointer (some ⟨b + 2, 0, none⟩)] W fun e W' => (∃ v, e = .returned v) ∧
   ((∃ ys, ys = piecesBA d s ∧ J ys W') ∨ (∃ pre, pre <+: piecesBA d s ∧ Jx pre W')) := by
 refine callsIn_of_wp Tryz.func176 rfl trivial ?_ rfl
 simp only [Tryz.ntmps176, List.size_toArray, List.length_cons, List.length_nil, Nat.reduceAdd, Nat.reduceSub, Array.replicate_succ, Array.replicate_zero, List.push_toArray, List.append_toArray, List.nil_append, List.cons_append]
 have c1 := h1.cell
 have c2 := h2.cell
 have c3 := h3.cell
 gi_wp2
 gi_loopw [] (fun wr => ∃ (pre : List ByteArray) (rest : ByteArray), pre ++ piecesBA d rest = piecesBA d s ∧ rest.size ≤ s.size ∧ Boxed wr b 9 (.string rest) ∧ Boxed wr (b + 1) 9 (.string ⟨#[d]⟩) ∧ Boxed wr (b + 2) 3 (.int .i64 0) ∧ J pre wr)
  (fun wr => boxLen b wr)
 case atStart => exact ⟨[], s, rfl, Nat.le_refl _, h1, h2, h3, h0⟩
 case round =>
  obtain ⟨pre, rest, hx, hle, hb1, hb2, hb3, hJ⟩ := hrel
  have hge := Lib.indexByte_ge rest.data.toList d
  have k1 := hb1.cell
  have k2 := hb2.cell
  have k3 := hb3.cell
  by_cases hm : Lib.indexByte rest.data.toList d = -1
  ·rw [pieces_miss hm] at hx
   obtain ⟨fn, tmps, assign, body, hy, hR⟩ := hY pre rest wr hJ (by rw [← hx]; exact List.prefix_rfl)
   gi_wp2_with (refine ⟨trivial, ?_⟩; gi_at_call 177; refine (callsIn_wide.2 (Tryz.strings_Index_one _ _ _)).mono ?_; rintro e w' ⟨rfl, rfl⟩)
   refine hR.mono ?_
   rintro e W' (⟨rfl, hJ', hk⟩ | ⟨rfl, hJx'⟩)
   ·gi_wp2
    go_end0
    exact ⟨⟨_, rfl⟩, .inl ⟨_, hx, hJ'⟩⟩
   ·gi_wp2
    go_end0
    exact ⟨⟨_, rfl⟩, .inr ⟨_, by rw [← hx]; exact List.prefix_rfl, hJx'⟩⟩
  ·obtain ⟨i, hi⟩ : ∃ i : Nat, Lib.indexByte rest.data.toList d = i := ⟨(Lib.indexByte rest.data.toList d).toNat, by omega⟩
   obtain ⟨hp, hlt⟩ := pieces_hit hi
   rw [hp] at hx
   obtain ⟨fn, tmps, assign, body, hy, hR⟩ := hY pre (rest.extract 0 i) wr hJ (by rw [← hx]; exact ⟨piecesBA d (rest.extract (i + 1) rest.size), by simp⟩)
   clear hm hge
   have hs1 : (i : Int) ≤ rest.size := by omega
   have hs2 : (rest.size : Int) ≤ 9223372036854775806 := by omega
   gi_wp2_with (refine ⟨trivial, ?_⟩; gi_at_call 177; refine (callsIn_wide.2 (Tryz.strings_Index_one _ _ _)).mono ?_; rintro e w' ⟨rfl, rfl⟩; rw [hi])
   refine hR.mono ?_
   rintro e W' (⟨rfl, hJ', hk⟩ | ⟨rfl, hJx'⟩)
   ·have hb1' := hk.boxed (Nat.le_refl _) (by omega) hb1
    have hb2' := hk.boxed (by omega) (by omega) hb2
    have hb3' := hk.boxed (by omega) (by omega) hb3
    have k1' := hb1'.cell
    have k2' := hb2'.cell
    have k3' := hb3'.cell
    have hf' := hb1'.frozen
    gi_wp2
    go_roundw
    case rel => exact ⟨pre ++ [rest.extract 0 i], rest.extract (i + 1) rest.size, by simpa using hx, by rw [ByteArray.size_extract]; omega, hb1'.set _, boxed_other _ hb2' (by omega), boxed_other _ hb3' (by omega), hJb _ _ _ hJ'⟩
    case measure => rw [boxLen_of (hb1'.set _), boxLen_of hb1, ByteArray.size_extract]; omega
   ·gi_wp2
    refine bodyPost_ret (results_none rfl _ _ _) rfl ?_
    exact ⟨⟨_, rfl⟩, .inr ⟨_, by rw [← hx]; exact ⟨piecesBA d (rest.extract (i + 1) rest.size), by simp⟩, hJx'⟩⟩
theorem splitSeq_box (n : Nat) (hn : 1 ≤ n) (b : Nat) (d : UInt8) (s : ByteArray) (w : World) (h1 : Boxed w b 9 (.string s)) (h2 : Boxed w (b + 1) 9 (.string ⟨#[d]⟩)) (h3 : Boxed w (b + 2) 3 (.int .i64 0)) (hsz : s.size ≤ 9223372036854775806) :
  SeqBox b Fence.wide n Tryz.prog 176 #[.pointer (some ⟨b + 1, 0, none⟩), .pointer (some ⟨b, 0, none⟩), .pointer (some ⟨b + 2, 0, none⟩)] (fun x : ByteArray => #[.string x]) (KeepsBox b) (fun ys => ys = piecesBA d s) (fun pre => pre <+: piecesBA d s) (fun pre x => pre ++ [x] <+: piecesBA d s) w :=
 fun l J Jx W hW _ _ hJb _ hY h0 => splitSeq_round n hn l b d s J Jx hJb hY W ((hW.block b h1.lt).trans h1) ((hW.block (b + 1) h2.lt).trans h2) ((hW.block (b + 2) h3.lt).trans h3) h0 hsz
def seqWorld (d : UInt8) (s : ByteArray) (w : World) : World := ((w.alloc (.cells #[.string s] 9)).alloc (.cells #[.string ⟨#[d]⟩] 9)).alloc (.cells #[.int .i64 0] 3)
def seqValue (w : World) : Value := .func (.func 176) #[] #[.pointer (some ⟨w.heap.size + 1, 0, none⟩), .pointer (some ⟨w.heap.size, 0, none⟩), .pointer (some ⟨w.heap.size + 2, 0, none⟩)]
set_option maxHeartbeats 1000000 in
theorem splitSeq_calls (d : UInt8) (s : ByteArray) (w : World) : Calls Tryz.prog 143 #[.string s, .string ⟨#[d]⟩] w fun e w' => e = .returned (seqValue w) ∧ w' = seqWorld d s w := by
 go_enter Tryz.func143, Tryz.ntmps143
 go_wp2
 go_ret
 refine ⟨?_, rfl⟩
 simp [seqValue]
theorem seqWorld_size (d : UInt8) (s : ByteArray) (w : World) : (seqWorld d s w).heap.size = w.heap.size + 3 := by simp [seqWorld]
theorem seqWorld_1 (d : UInt8) (s : ByteArray) (w : World) : Boxed (seqWorld d s w) w.heap.size 9 (.string s) := ((Boxed.new w _ _).alloc _).alloc _
theorem seqWorld_2 (d : UInt8) (s : ByteArray) (w : World) : Boxed (seqWorld d s w) (w.heap.size + 1) 9 (.string ⟨#[d]⟩) := by
 have := (Boxed.new (w.alloc (.cells #[.string s] 9)) 9 (.string ⟨#[d]⟩)).alloc (.cells #[.int .i64 0] 3)
 rwa [World.size_alloc] at this
theorem seqWorld_3 (d : UInt8) (s : ByteArray) (w : World) : Boxed (seqWorld d s w) (w.heap.size + 2) 3 (.int .i64 0) := by
 have := Boxed.new ((w.alloc (.cells #[.string s] 9)).alloc (.cells #[.string ⟨#[d]⟩] 9)) 3 (.int .i64 0)
 rwa [World.size_alloc, World.size_alloc] at this
theorem seqWorld_below (d : UInt8) (s : ByteArray) {B : Nat} {w0 w : World} (h : Below B w0 w) (hs : B ≤ w.heap.size) : Below B w0 (seqWorld d s w) :=
 ((h.alloc hs _).alloc (by simp; omega) _).alloc (by simp; omega) _
end Go.Proofs.YtoaleclnilbjcaaGreatDoor.Hand
