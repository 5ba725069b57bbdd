/- What every contract of this seat takes of the world: of the library's own variables, what the code reads of them. It stays through draws, new blocks and whatever leaves the old blocks alone. No condition. -/
import Derived.Test.YteemgpciheheoaaGreatDoorRRRProg
import Derived.Below
import Derived.KernelRfl
import Derived.Shelf.Vars
import Derived.Lib.LaidTab
import Derived.LaidSub
import Derived.Lib.ItoaNum
import Derived.Test.YteemgpciheheoaaGreatDoorRRRWWords
import Derived.Test.YteemgpciheheoaaGreatDoorRRRSeqBox
import Derived.Test.YteemgpciheheoaaGreatDoorRRRShelf
import Derived.Shelf.Abstract
import Derived.Shelf.RegionOpen
import Derived.WalkKit
import Derived.OwnWalkIn
import Derived.TacticsInMore
import Derived.LoopNIn
import Derived.LoopIn
import Derived.Lib.IndexLaws
namespace Go.Proofs.YteemgpciheheoaaGreatDoorRRR.Hand
open Go.RowKit Go.Proofs.YteemgpciheheoaaGreatDoorRRRW.PrintWords
theorem nil_bne (l : List UInt8) : (l != []) = !l.isEmpty := by cases l <;> rfl
theorem nil_beq (l : List UInt8) : (l == []) = l.isEmpty := by cases l <;> rfl
theorem laid_mem {P : Program} {w : World} {n : String} {d : DataW Unit} : ∀ {l : List (String × DataW Unit)} {ps : List MemPlace}, DataW.LaidVars P w l ps → (n, d) ∈ l →
  ∃ g t cs fuel p, P.globalNamed n = some g ∧ (P.globals[g]?).map (·.type) = some t ∧ w.var? P n = some cs ∧ DataW.trod (fun _ => ()) P w 0 (fun _ => true) false fuel t cs.toList = some (d, p)
 | [], _, _, h => by cases h
 | (m, e) :: r, _, ⟨g, t, cs, fuel, p, q, h1, h2, h3, h4, hr, _⟩, h => by
  rcases List.mem_cons.1 h with h | h
  ·injection h with e1 e2
   subst e1; subst e2
   exact ⟨g, t, cs, fuel, p, h1, h2, h3, h4⟩
  ·exact laid_mem hr h
theorem laidH_mem {P : Program} {w : World} {l : List (String × DataW Unit)} {n : String} {d : DataW Unit} (h : laidMetH P l w) (hm : (n, d) ∈ l) (hd : d.handleName? = none) :
  ∃ g t cs fuel p, P.globalNamed n = some g ∧ (P.globals[g]?).map (·.type) = some t ∧ w.var? P n = some cs ∧ DataW.trod (fun _ => ()) P w 0 (fun _ => true) false fuel t cs.toList = some (d, p) := by
 obtain ⟨⟨ps, hl, _⟩, _⟩ := laidMetH_iff.1 h
 exact laid_mem hl (List.mem_filter.2 ⟨hm, by simp [hd]⟩)
theorem tabIs_of_laid {P : Program} {W : World} {name : String} {k : IntKind} {zs : List Int} {l : List (String × DataW Unit)} {g : Nat} {t e : TypeId} {n : Nat}
  (hg : P.globalNamed name = some g) (hty : (P.globals[g]?).map (·.type) = some t) (ht : P.underlying t = some (.array n e)) (he : P.underlying e = some (.int k)) (hce : P.cellsOf e = 1) (hct : P.cellsOf t = n)
  (h : laidMetH P l W) (hm : (name, Lib.tabData k zs) ∈ l) : Lib.TabIs P W name k zs := by
 obtain ⟨g', t', cs, fuel, p, hg', ht', hvar, hd⟩ := laidH_mem h hm rfl
 obtain rfl := Option.some.inj (hg.symm.trans hg')
 obtain rfl := Option.some.inj (hty.symm.trans ht')
 unfold Lib.TabIs
 rw [hvar, ← Lib.cells_of_tab ht he hce hct hd]
theorem iface_of_laid {P : Program} {W : World} {name u : String} {d : DataW Unit} {l : List (String × DataW Unit)} {g : Nat} {t : TypeId} {ms : Array (String × TypeId)}
  (hg : P.globalNamed name = some g) (hty : (P.globals[g]?).map (·.type) = some t) (ht : P.underlying t = some (.interface ms))
  (h : laidMetH P l W) (hm : (name, DataW.iface u d) ∈ l) (hn : (DataW.iface u d : DataW Unit).handleName? = none) : ∃ v, W.cell? ⟨g, 0, none⟩ = some v ∧ (v = .nilIface ∨ ∃ te pe, v = .iface te pe) := by
 obtain ⟨g', t', cs, fuel, p, hg', ht', hvar, hd⟩ := laidH_mem h hm hn
 obtain rfl := Option.some.inj (hg.symm.trans hg')
 obtain rfl := Option.some.inj (hty.symm.trans ht')
 have hc : ∃ te pe, cs.toList = [.iface te pe] := by
  cases fuel with
  | zero => simp [DataW.trod] at hd
  | succ fuel =>
   unfold DataW.trod at hd
   rw [ht] at hd
   split at hd <;> simp_all
 obtain ⟨te, pe, hc⟩ := hc
 have := World.var?_cell hg hvar 0
 rw [this, ← Array.getElem?_toList, hc]
 exact ⟨_, rfl, .inr ⟨te, pe, rfl⟩⟩
theorem tab_below {P : Program} {w w' : World} {name : String} {k : IntKind} {zs : List Int} (h : Lib.TabIs P w name k zs) (hb : Below w.heap.size w w') : Lib.TabIs P w' name k zs := by
 unfold Lib.TabIs at *
 rw [← h]
 unfold World.var?
 cases hg : P.globalNamed name with
 | none => rfl
 | some g =>
  simp only [Option.bind_some]
  rcases Nat.lt_or_ge g w.heap.size with hl | hl
  ·rw [hb.block g hl]
  ·exfalso
   unfold World.var? at h
   rw [hg] at h
   simp only [Option.bind_some] at h
   rw [Array.getElem?_eq_none (by omega)] at h
   cases h
structure GW (w : World) : Prop where
 maxLen : ∃ m, w.cell? ⟨0, 0, none⟩ = some (.int .i64 m)
 synt : ∃ v, w.cell? ⟨2, 0, none⟩ = some v ∧ (v = .nilIface ∨ ∃ te pe, v = .iface te pe)
 rang : ∃ v, w.cell? ⟨3, 0, none⟩ = some v ∧ (v = .nilIface ∨ ∃ te pe, v = .iface te pe)
 pow : Lib.TabIs Tryz.prog w "internal/strconv.uint64pow10" .u64 Lib.pow10Tab
 ok : True
theorem GW.below {w w' : World} (h : GW w) (hb : Below w.heap.size w w') : GW w' where
 maxLen := by
  obtain ⟨m, hm⟩ := h.maxLen
  exact ⟨m, pw_cell_below hb hm⟩
 synt := by
  obtain ⟨m, hm, he⟩ := h.synt
  exact ⟨m, pw_cell_below hb hm, he⟩
 rang := by
  obtain ⟨m, hm, he⟩ := h.rang
  exact ⟨m, pw_cell_below hb hm, he⟩
 pow := tab_below h.pow hb
 ok := trivial
theorem GW.drewN {w : World} (h : GW w) {n : Nat} : GW (w.drewN n) := h.below (pw_below_drewN (Below.refl _ _) n)
theorem GW.drew {w : World} (h : GW w) : GW w.drew := h.below (below_drew (Below.refl _ _))
structure LaidGW (l : List (String × DataW Unit)) : Prop where
 synt : ∃ u d, ("strconv.ErrSyntax", (DataW.iface u d : DataW Unit)) ∈ l ∧ (DataW.iface u d : DataW Unit).handleName? = none
 rang : ∃ u d, ("strconv.ErrRange", (DataW.iface u d : DataW Unit)) ∈ l ∧ (DataW.iface u d : DataW Unit).handleName? = none
 pow : ("internal/strconv.uint64pow10", (Lib.tabData .u64 Lib.pow10Tab : DataW Unit)) ∈ l
theorem GW.laid {w : World} {l : List (String × DataW Unit)} (h : w.ShapedOpen Tryz.prog) (hL : laidMetH Tryz.prog l w) (hl : LaidGW l) : GW w where
 maxLen := cell_of_shapedOpen_int (zero := #[.int .i64 0]) h (by decide) (by kernel_rfl) rfl (by kernel_rfl) (by kernel_rfl) Tryz.underlying3
 synt := by
  obtain ⟨u, d, hm, hn⟩ := hl.synt
  exact iface_of_laid (g := 2) (by kernel_rfl) (by kernel_rfl) Tryz.underlying103 hL hm hn
 rang := by
  obtain ⟨u, d, hm, hn⟩ := hl.rang
  exact iface_of_laid (g := 3) (by kernel_rfl) (by kernel_rfl) Tryz.underlying103 hL hm hn
 pow := tabIs_of_laid (g := 1) (n := 20) (by kernel_rfl) (t := 153) (by kernel_rfl) (by kernel_rfl) Tryz.underlying120 (by kernel_rfl) (by kernel_rfl) hL hl.pow
 ok := trivial
end Go.Proofs.YteemgpciheheoaaGreatDoorRRR.Hand

/- strings.SplitSeq at a separator of one byte: the iterator gives the pieces between the separators, one by one. No condition. -/
namespace Go.Proofs.YteemgpciheheoaaGreatDoorRRR.Hand
open Go.RowKit Go.Shelf
set_option linter.unusedVariables false
set_option linter.unusedSimpArgs false
attribute [local go_sem] Oper.semAt_some

def splitD (d : UInt8) : List UInt8 → List (List UInt8)
 | [] => [[]]
 | c :: l => if c = d then [] :: splitD d l else match splitD d l with | [] => [[c]] | x :: r => (c :: x) :: r
theorem splitD_ne (d : UInt8) (l : List UInt8) : splitD d l ≠ [] := by
 cases l with
 | nil => simp [splitD]
 | cons c l =>
  unfold splitD
  split
  ·simp
  ·split <;> simp
theorem splitD_miss (d : UInt8) : ∀ l, Lib.indexByte l d = -1 → splitD d l = [l]
 | [], _ => rfl
 | c :: l, h => by
  have hge := Lib.indexByte_ge l d
  unfold Lib.indexByte at h
  by_cases hc : c = d
  ·subst hc; simp at h
  ·rw [if_neg (by simpa using hc)] at h
   by_cases h1 : Lib.indexByte l d = -1
   ·rw [splitD, if_neg hc, splitD_miss d l h1]
   ·rw [if_neg (by simpa using h1)] at h; omega
theorem splitD_hit (d : UInt8) : ∀ (l : List UInt8) (i : Nat), Lib.indexByte l d = i → splitD d l = l.take i :: splitD d (l.drop (i + 1)) ∧ i < l.length
 | [], i, h => by simp [Lib.indexByte] at h
 | c :: l, i, h => by
  have hge := Lib.indexByte_ge l d
  unfold Lib.indexByte at h
  by_cases hc : c = d
  ·subst hc
   simp at h
   obtain rfl : i = 0 := by omega
   simp [splitD]
  ·rw [if_neg (by simpa using hc)] at h
   by_cases h1 : Lib.indexByte l d = -1
   ·rw [if_pos (by simpa using h1)] at h; omega
   ·rw [if_neg (by simpa using h1)] at h
    obtain ⟨j, rfl⟩ : ∃ j, i = j + 1 := ⟨i - 1, by omega⟩
    obtain ⟨h2, h3⟩ := splitD_hit d l j (by omega)
    rw [splitD, if_neg hc, h2]
    exact ⟨by simp, by simpa using h3⟩
def piecesBA (d : UInt8) (s : ByteArray) : List ByteArray := (splitD d s.data.toList).map fun l => ⟨l.toArray⟩
theorem pieces_miss {d : UInt8} {s : ByteArray} (h : Lib.indexByte s.data.toList d = -1) : piecesBA d s = [s] := by
 unfold piecesBA
 rw [splitD_miss d _ h]
 simp
theorem pieces_hit {d : UInt8} {s : ByteArray} {i : Nat} (h : Lib.indexByte s.data.toList d = i) : piecesBA d s = s.extract 0 i :: piecesBA d (s.extract (i + 1) s.size) ∧ i < s.size := by
 obtain ⟨h1, h2⟩ := splitD_hit d _ i h
 have hl : s.data.toList.length = s.size := by rw [Array.length_toList]; rfl
 rw [hl] at h2
 unfold piecesBA
 rw [h1, List.map_cons]
 refine ⟨?_, h2⟩
 congr 1
 ·rw [Lib.extract_eq]; simp
 ·rw [Lib.extract_data, List.take_of_length_le (by simp)]

def KeepsBox (b : Nat) (W W' : World) : Prop := ∀ k, b ≤ k → k < b + 3 → W'.heap[k]? = W.heap[k]?
theorem KeepsBox.trans {b : Nat} {A B C : World} (h : KeepsBox b A B) (k : KeepsBox b B C) : KeepsBox b A C := fun i h1 h2 => (k i h1 h2).trans (h i h1 h2)
theorem KeepsBox.boxed {b B : Nat} {W W' : World} {t : TypeId} {v : Value} (h : KeepsBox b W W') (h1 : b ≤ B) (h2 : B < b + 3) (hb : Boxed W B t v) : Boxed W' B t v := (h B h1 h2).trans hb
theorem keepsBox_b {b : Nat} {w : World} (hb : b + 3 ≤ w.heap.size) (W : World) (l : Nat) (o o' : Obj) (hl : w.heap.size ≤ l) (_ : W.heap[l]? = some o) (_ : o.isCells = false) (_ : o.isWalk = false) : KeepsBox b W (W.putObj l o') :=
 fun k _ h2 => World.putObj_heap_other (by omega)
theorem KeepsBox.below {b : Nat} {W W' : World} (h : Below W.heap.size W W') (hb : b + 3 ≤ W.heap.size) : KeepsBox b W W' := fun k _ h2 => h.block k (by omega)
theorem boxed_other {W : World} {B b : Nat} {t : TypeId} {v : Value} (x : Value) (h : Boxed W B t v) (hne : B ≠ b) : Boxed (W.setCell ⟨b, 0, none⟩ x) B t v := (Below.heap_setCell W ⟨b, 0, none⟩ x B hne).trans h
def boxLen (b : Nat) (W : World) : Nat := match W.cell? ⟨b, 0, none⟩ with | some (.string s) => s.size | _ => 0
theorem boxLen_of {W : World} {b : Nat} {s : ByteArray} {t : TypeId} (h : Boxed W b t (.string s)) : boxLen b W = s.size := by unfold boxLen; rw [h.cell]

set_option maxRecDepth 100000 in
set_option maxHeartbeats 4000000 in
theorem splitSeq_round (n : Nat) (hn : 1 ≤ n) (l b : Nat) (d : UInt8) (s : ByteArray) (J Jx : List ByteArray → World → Prop) (hJb : AbidesBox b J)
  (hY : ∀ pre x W, J pre W → pre ++ [x] <+: piecesBA d s → YieldAt Fence.wide (n - 1) Tryz.prog l #[.string x] W fun e W' =>
   (e = .returned (.bool true) ∧ J (pre ++ [x]) W' ∧ KeepsBox b W W') ∨ (e = .returned (.bool false) ∧ Jx (pre ++ [x]) W'))
  (W : World) (h1 : Boxed W b 9 (.string s)) (h2 : Boxed W (b + 1) 9 (.string ⟨#[d]⟩)) (h3 : Boxed W (b + 2) 3 (.int .i64 0)) (h0 : J [] W) (hsz : s.size ≤ 9223372036854775806) :
  CallsIn Fence.wide n Tryz.prog 178 #[.func (.yield l) #[] #[], .pointer (some ⟨b + 1, 0, none⟩), .pointer (some ⟨b, 0, none⟩), .pointer (some ⟨b + 2, 0, none⟩)] W fun e W' => (∃ v, e = .returned v) ∧
   ((∃ ys, ys = piecesBA d s ∧ J ys W') ∨ (∃ pre, pre <+: piecesBA d s ∧ Jx pre W')) := by
 refine callsIn_of_wp Tryz.func178 rfl trivial ?_ rfl
 simp only [Tryz.ntmps178, List.size_toArray, List.length_cons, List.length_nil, Nat.reduceAdd, Nat.reduceSub, Array.replicate_succ, Array.replicate_zero, List.push_toArray, List.append_toArray, List.nil_append, List.cons_append]
 have c1 := h1.cell
 have c2 := h2.cell
 have c3 := h3.cell
 gi_wp2
 gi_loopw [] (fun wr => ∃ (pre : List ByteArray) (rest : ByteArray), pre ++ piecesBA d rest = piecesBA d s ∧ rest.size ≤ s.size ∧ Boxed wr b 9 (.string rest) ∧ Boxed wr (b + 1) 9 (.string ⟨#[d]⟩) ∧ Boxed wr (b + 2) 3 (.int .i64 0) ∧ J pre wr)
  (fun wr => boxLen b wr)
 case atStart => exact ⟨[], s, rfl, Nat.le_refl _, h1, h2, h3, h0⟩
 case round =>
  obtain ⟨pre, rest, hx, hle, hb1, hb2, hb3, hJ⟩ := hrel
  have hge := Lib.indexByte_ge rest.data.toList d
  have k1 := hb1.cell
  have k2 := hb2.cell
  have k3 := hb3.cell
  by_cases hm : Lib.indexByte rest.data.toList d = -1
  ·rw [pieces_miss hm] at hx
   obtain ⟨fn, tmps, assign, body, hy, hR⟩ := hY pre rest wr hJ (by rw [← hx]; exact List.prefix_rfl)
   gi_wp2_with (refine ⟨trivial, ?_⟩; gi_at_call 180; refine (callsIn_wide.2 (Tryz.strings_Index_one _ _ _)).mono ?_; rintro e w' ⟨rfl, rfl⟩)
   refine hR.mono ?_
   rintro e W' (⟨rfl, hJ', hk⟩ | ⟨rfl, hJx'⟩)
   ·gi_wp2
    go_end0
    exact ⟨⟨_, rfl⟩, .inl ⟨_, hx, hJ'⟩⟩
   ·gi_wp2
    go_end0
    exact ⟨⟨_, rfl⟩, .inr ⟨_, by rw [← hx]; exact List.prefix_rfl, hJx'⟩⟩
  ·obtain ⟨i, hi⟩ : ∃ i : Nat, Lib.indexByte rest.data.toList d = i := ⟨(Lib.indexByte rest.data.toList d).toNat, by omega⟩
   obtain ⟨hp, hlt⟩ := pieces_hit hi
   rw [hp] at hx
   obtain ⟨fn, tmps, assign, body, hy, hR⟩ := hY pre (rest.extract 0 i) wr hJ (by rw [← hx]; exact ⟨piecesBA d (rest.extract (i + 1) rest.size), by simp⟩)
   clear hm hge
   have hs1 : (i : Int) ≤ rest.size := by omega
   have hs2 : (rest.size : Int) ≤ 9223372036854775806 := by omega
   gi_wp2_with (refine ⟨trivial, ?_⟩; gi_at_call 180; refine (callsIn_wide.2 (Tryz.strings_Index_one _ _ _)).mono ?_; rintro e w' ⟨rfl, rfl⟩; rw [hi])
   refine hR.mono ?_
   rintro e W' (⟨rfl, hJ', hk⟩ | ⟨rfl, hJx'⟩)
   ·have hb1' := hk.boxed (Nat.le_refl _) (by omega) hb1
    have hb2' := hk.boxed (by omega) (by omega) hb2
    have hb3' := hk.boxed (by omega) (by omega) hb3
    have k1' := hb1'.cell
    have k2' := hb2'.cell
    have k3' := hb3'.cell
    have hf' := hb1'.frozen
    gi_wp2
    go_roundw
    case rel => exact ⟨pre ++ [rest.extract 0 i], rest.extract (i + 1) rest.size, by simpa using hx, by rw [ByteArray.size_extract]; omega, hb1'.set _, boxed_other _ hb2' (by omega), boxed_other _ hb3' (by omega), hJb _ _ _ hJ'⟩
    case measure => rw [boxLen_of (hb1'.set _), boxLen_of hb1, ByteArray.size_extract]; omega
   ·gi_wp2
    refine bodyPost_ret (results_none rfl _ _ _) rfl ?_
    exact ⟨⟨_, rfl⟩, .inr ⟨_, by rw [← hx]; exact ⟨piecesBA d (rest.extract (i + 1) rest.size), by simp⟩, hJx'⟩⟩
theorem splitSeq_box (n : Nat) (hn : 1 ≤ n) (b : Nat) (d : UInt8) (s : ByteArray) (w : World) (h1 : Boxed w b 9 (.string s)) (h2 : Boxed w (b + 1) 9 (.string ⟨#[d]⟩)) (h3 : Boxed w (b + 2) 3 (.int .i64 0)) (hsz : s.size ≤ 9223372036854775806) :
  SeqBox b Fence.wide n Tryz.prog 178 #[.pointer (some ⟨b + 1, 0, none⟩), .pointer (some ⟨b, 0, none⟩), .pointer (some ⟨b + 2, 0, none⟩)] (fun x : ByteArray => #[.string x]) (KeepsBox b) (fun ys => ys = piecesBA d s) (fun pre => pre <+: piecesBA d s) (fun pre x => pre ++ [x] <+: piecesBA d s) w :=
 fun l J Jx W hW _ _ hJb _ hY h0 => splitSeq_round n hn l b d s J Jx hJb hY W ((hW.block b h1.lt).trans h1) ((hW.block (b + 1) h2.lt).trans h2) ((hW.block (b + 2) h3.lt).trans h3) h0 hsz
def seqWorld (d : UInt8) (s : ByteArray) (w : World) : World := ((w.alloc (.cells #[.string s] 9)).alloc (.cells #[.string ⟨#[d]⟩] 9)).alloc (.cells #[.int .i64 0] 3)
def seqValue (w : World) : Value := .func (.func 178) #[] #[.pointer (some ⟨w.heap.size + 1, 0, none⟩), .pointer (some ⟨w.heap.size, 0, none⟩), .pointer (some ⟨w.heap.size + 2, 0, none⟩)]
set_option maxHeartbeats 1000000 in
theorem splitSeq_calls (d : UInt8) (s : ByteArray) (w : World) : Calls Tryz.prog 127 #[.string s, .string ⟨#[d]⟩] w fun e w' => e = .returned (seqValue w) ∧ w' = seqWorld d s w := by
 go_enter Tryz.func127, Tryz.ntmps127
 go_wp2
 go_ret
 refine ⟨?_, rfl⟩
 simp [seqValue]
theorem seqWorld_size (d : UInt8) (s : ByteArray) (w : World) : (seqWorld d s w).heap.size = w.heap.size + 3 := by simp [seqWorld]
theorem seqWorld_1 (d : UInt8) (s : ByteArray) (w : World) : Boxed (seqWorld d s w) w.heap.size 9 (.string s) := ((Boxed.new w _ _).alloc _).alloc _
theorem seqWorld_2 (d : UInt8) (s : ByteArray) (w : World) : Boxed (seqWorld d s w) (w.heap.size + 1) 9 (.string ⟨#[d]⟩) := by
 have := (Boxed.new (w.alloc (.cells #[.string s] 9)) 9 (.string ⟨#[d]⟩)).alloc (.cells #[.int .i64 0] 3)
 rwa [World.size_alloc] at this
theorem seqWorld_3 (d : UInt8) (s : ByteArray) (w : World) : Boxed (seqWorld d s w) (w.heap.size + 2) 3 (.int .i64 0) := by
 have := Boxed.new ((w.alloc (.cells #[.string s] 9)).alloc (.cells #[.string ⟨#[d]⟩] 9)) 3 (.int .i64 0)
 rwa [World.size_alloc, World.size_alloc] at this
theorem seqWorld_below (d : UInt8) (s : ByteArray) {B : Nat} {w0 w : World} (h : Below B w0 w) (hs : B ≤ w.heap.size) : Below B w0 (seqWorld d s w) :=
 ((h.alloc hs _).alloc (by simp; omega) _).alloc (by simp; omega) _
end Go.Proofs.YteemgpciheheoaaGreatDoorRRR.Hand
