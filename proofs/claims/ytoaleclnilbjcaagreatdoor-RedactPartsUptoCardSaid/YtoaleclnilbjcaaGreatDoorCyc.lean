/- Slices of bytes of the call's own: their cells, make with a capacity. No condition. -/
import Derived.Test.YtoaleclnilbjcaaGreatDoorRow
import Derived.Test.YtoaleclnilbjcaaGreatDoorK
import Derived.Laws.MakeOwn
import Derived.Laws.OwnMore
import Derived.Lib.Hide
import Derived.Deep.DeepFit
import Derived.WalkKit
import Derived.Deep.LoopGhost
import Derived.Deep.OwnRows
import Derived.Maps.RangeWalk
import Derived.Laws.Rows
import Derived.Laws.Tables
import Derived.Laws.CopyOwn
namespace Go.Proofs.YtoaleclnilbjcaaGreatDoor.Hand
open Go.RowKit Go.Proofs.YtoaleclnilbjcaaGreatDoorW.PrintWords Go.Proofs.YtoaleclnilbjcaaGreatDoorW.PrintLast Go.Proofs.YtoaleclnilbjcaaGreatDoorW.PrintMore
set_option linter.unusedVariables false
set_option linter.unusedSimpArgs false

theorem Flat.int (k : IntKind) : Flat (Kd.int k) (fun x => [.int k x]) := ⟨fun _ => rfl, fun h => h, fun _ _ _ _ => rfl, fun h => h, fun _ _ => rfl⟩
abbrev BC (w : World) (A : Option Addr) (l : List Int) : Prop := Kd.C (Kd.int .u8) w A l.length l
abbrev BR (w : World) (base : Nat) (ok : Nat → Prop) (v : Value) (l : List Int) : Prop := Kd.R (Kd.int .u8) 5 w base ok v l
theorem BR.free {w : World} {base base' : Nat} {ok ok' : Nat → Prop} {v : Value} {l : List Int} (h : BR w base ok v l) (hok : ∀ k, v.ownBlock = some k → ok' k) (hb : ∀ k, v.ownBlock = some k → base' ≤ k) : BR w base' ok' v l := by
 obtain ⟨h0, inner, ho, hr⟩ := h
 exact ⟨hok, inner, Kd.own_raise ho hb, hr⟩
theorem BR.kept {w w1 : World} {base : Nat} {ok : Nat → Prop} {v : Value} {l : List Int} (h : BR w base ok v l) (hk : ∀ k, v.ownBlock = some k → w1.heap[k]? = w.heap[k]?) : BR w1 base ok v l := by
 obtain ⟨h0, inner, ho, hr⟩ := h
 exact ⟨h0, inner, own_move ho hk, hr⟩
section
variable {P : Program} {ops : Array Oper} {rest : List Oper} {o : Oper} {a : Act} {Q : Exit → Act → World → Prop} {w0 W : World}
end
def Byt (l : List Int) : Prop := ∀ x ∈ l, 0 ≤ x ∧ x < 256
theorem Byt.append {a b : List Int} (ha : Byt a) (hb : Byt b) : Byt (a ++ b) := fun x hx => (List.mem_append.1 hx).elim (ha x) (hb x)
theorem Byt.drop {a : List Int} (h : Byt a) (n : Nat) : Byt (a.drop n) := fun x hx => h x (List.mem_of_mem_drop hx)
theorem Byt.take {a : List Int} (h : Byt a) (n : Nat) : Byt (a.take n) := fun x hx => h x (List.mem_of_mem_take hx)
theorem Byt.rd {a : List Int} (h : Byt a) (k : Nat) (hk : k < a.length) : 0 ≤ rd a k ∧ rd a k < 256 := h _ (by
 have e : a[k]'hk = Go.Proofs.YtoaleclnilbjcaaGreatDoorW.PrintWords.rd a k := by simp [Go.Proofs.YtoaleclnilbjcaaGreatDoorW.PrintWords.rd, List.getD_eq_getElem?_getD, hk]
 rw [← e]; exact List.getElem_mem hk)
section
variable {A : Option Addr} {c : Nat} {b r : List Int} {lo hi : Nat}
end
def FB (w : World) (base : Nat) (v : Value) (l : List Int) : Prop := ∃ A c, v = .slice A l.length c ∧ l.length ≤ c ∧ BC w A l ∧ ∀ ad, A = some ad → base ≤ ad.block ∧ ad.block < w.heap.size
theorem BC.kept {w w' : World} {A : Option Addr} {l : List Int} (h : BC w A l) (hk : ∀ ad, A = some ad → w'.heap[ad.block]? = w.heap[ad.block]?) : BC w' A l := by
 refine ⟨h.1, h.2.1, fun h0 => ?_⟩
 obtain ⟨ad, hA, hc⟩ := h.2.2 h0
 refine ⟨ad, hA, fun j p hj => ?_⟩
 obtain ⟨cs, h1, h2, h3⟩ := hc j p hj
 refine ⟨cs, h1, h2, fun i u hu => ?_⟩
 rw [← h3 i u hu]
 have e : (ad.add (j * (Kd.int .u8).sz + i)).block = ad.block := by unfold Addr.add; split <;> rfl
 simp only [World.cell?, e, hk ad hA]
theorem FB.kept {w w' : World} {base : Nat} {v : Value} {l : List Int} (h : FB w base v l) (hk : ∀ k, base ≤ k → k < w.heap.size → w'.heap[k]? = w.heap[k]?) (hs : w.heap.size ≤ w'.heap.size) : FB w' base v l := by
 obtain ⟨A, c, rfl, hc, hr, hA⟩ := h
 exact ⟨A, c, rfl, hc, hr.kept (fun ad e => hk _ (hA ad e).1 (hA ad e).2), fun ad e => ⟨(hA ad e).1, Nat.lt_of_lt_of_le (hA ad e).2 hs⟩⟩
end Go.Proofs.YtoaleclnilbjcaaGreatDoor.Hand

/- cyc.Table, cyc.Sum, cyc.Put: what the walk of each gives. Conditions: a sum of 32 bits; at most 2^40 bytes. -/
namespace Go.Proofs.YtoaleclnilbjcaaGreatDoor.Hand
open Go.RowKit Go.Proofs.YtoaleclnilbjcaaGreatDoorW.PrintWords Go.Proofs.YtoaleclnilbjcaaGreatDoorW.PrintLast Go.Proofs.YtoaleclnilbjcaaGreatDoorW.PrintMore
set_option linter.unusedVariables false
set_option linter.unusedSimpArgs false
def cycS (n : Int) : Int := Go.bits .xor .u32 (n / 2) (Go.bits .and .u32 (-(Go.bits .and .u32 n 1) % 4294967296) 3988292384)
def cycN : Nat → Int → Int
 | 0, n => n
 | k + 1, n => cycS (cycN k n)
def tabI (c : Nat) : Int := cycN 8 c
def tabV : Array Value := ((List.range 256).map fun c => Value.int .u32 (tabI c)).toArray
structure TabUpto0 (w : World) (g k : Nat) (cs : Array Value) : Prop where
 blk : w.heap[g]? = some (.cells cs 75 (0, 0))
 size : cs.size = 256
 at_ : ∀ j, j < k → cs[j]? = some (.int .u32 (tabI j))
def TabUpto (w : World) (g k : Nat) : Prop := ∃ cs, TabUpto0 w g k cs
theorem cycS_lo (n : Int) : 0 ≤ cycS n := bits_lo_u32 _ _ _
theorem cycS_hi (n : Int) : cycS n ≤ 4294967295 := bits_hi_u32 _ _ _
theorem cycN_lo (k : Nat) (d : Nat) (h : k < 256) : 0 ≤ cycN d k := by cases d with | zero => show (0 : Int) ≤ k; omega | succ d => exact cycS_lo _
theorem cycN_hi (k : Nat) (d : Nat) (h : k < 256) : cycN d k ≤ 4294967295 := by cases d with | zero => show (k : Int) ≤ _; omega | succ d => exact cycS_hi _
set_option maxRecDepth 100000 in
set_option maxHeartbeats 1000000 in
theorem cycTable_calls (w : World) : Calls Tryz.prog 43 #[] w fun e w' => e = .returned (.agg tabV) ∧ Below w.heap.size w w' := by
 go_enter Tryz.func43, Tryz.ntmps43
 go_wp2_with fail
 go_loopw [4] (fun i wr => ∃ k : Nat, k ≤ 256 ∧ i = .int .i64 k ∧ Aside0 (TabUpto wr (w.heap.size + 1) k) ∧ Aside0 (wr.heap[w.heap.size]? = some (.cells Tryz.zeroCells75 75 (0, 0))) ∧ Aside0 (Below w.heap.size w wr)) (fun i _ => 256 - (intOf i).toNat)
 case atStart =>
  refine ⟨0, by omega, rfl, ⟨⟨_, by rw [show w.heap.size + 1 = (w.alloc (.cells Tryz.zeroCells75 75)).heap.size by simp]; exact blk_new _ _, by kernel_rfl, fun j hj => by omega⟩⟩, ⟨?_⟩, ⟨below_alloc (below_alloc (Below.refl _ _) _) _⟩⟩
  rw [Below.heap_alloc _ _ _ (by simp)]
  exact blk_new _ _
 case round =>
  obtain ⟨k, hk, rfl, HT, HZ, HB⟩ := hrel
  by_cases hlt : k < 256
  ·go_wp2_with fail
   go_loop [3, 9] (fun n j => ∃ d : Nat, d ≤ 8 ∧ j = .int .i64 d ∧ n = .int .u32 (cycN d k)) (fun _ j => 8 - (intOf j).toNat)
   case atStart => exact ⟨0, by omega, rfl, rfl⟩
   case round =>
    obtain ⟨d, hd, rfl, rfl⟩ := hrel
    by_cases hlt2 : d < 8
    ·have hn0 := cycN_lo k d hlt
     have hn1 := cycN_hi k d hlt
     have HS := Lib.hid (show cycN (d + 1) k = cycS (cycN d k) from rfl)
     generalize cycN d (k : Int) = n at *
     go_wp2_with fail
     go_round
     case rel => exact ⟨d + 1, by omega, by go_num, by rw [HS.out]; rfl⟩
     case measure => simp [intOf]; omega
    ·obtain rfl : d = 8 := by omega
     obtain ⟨cs, hT⟩ := HT.out
     have hc1 := cell_of_row wr _ k cs _ _ hT.blk
     rw [Array.getElem?_eq_getElem (by rw [hT.size]; exact hlt)] at hc1
     have hf1 : wr.frozen? ⟨w.heap.size + 1, k, none⟩ = false := blk_frozen hT.blk k
     have hTab := Lib.hid (show cycN 8 (k : Int) = tabI k from rfl)
     generalize cycN 8 (k : Int) = n at *
     generalize cs[k]'(by rw [hT.size]; exact hlt) = x at *
     go_wp2_with fail
     go_roundw
     case rel =>
      refine ⟨k + 1, by omega, by go_num, ⟨cs.setIfInBounds k (.int .u32 n), blk_set hT.blk k _, by simp [hT.size], fun j hj => ?_⟩, ⟨?_⟩, ⟨?_⟩⟩
      ·rw [Array.getElem?_setIfInBounds]
       by_cases e : k = j
       ·subst e; rw [if_pos rfl, if_pos (by rw [hT.size]; exact hlt), hTab.out]
       ·rw [if_neg e]; exact hT.at_ j (by omega)
      ·rw [Below.heap_setCell _ _ _ _ (by simp)]; exact HZ.out
      ·exact HB.out.setCell (by simp) _
     case measure => simp [intOf]; omega
  ·obtain rfl : k = 256 := by omega
   obtain ⟨cs, hT⟩ := HT.out
   have hcs : cs = tabV := by
    apply Array.ext
    ·rw [hT.size]; simp [tabV]
    ·intro j h1 h2
     have := hT.at_ j (by rw [hT.size] at h1; exact h1)
     rw [Array.getElem?_eq_getElem h1] at this
     rw [Option.some.inj this]
     simp [tabV]
   subst hcs
   have HK := Lib.hid hT.blk
   go_wp2_with (first | ((with_reducible refine gate_dst (N := 23) rfl ?_); refine wpList_load_row rfl 75 (.tmp 1) rfl (w.heap.size + 1) rfl 75 tabV (0, 0) _ HK.out Tryz.underlying75 rfl (by kernel_rfl) ?_) | ((with_reducible refine gate_store (t := 75) (p := 0) rfl ?_); refine wpList_store_row rfl 75 (.tmp 0) (.tmp 23) rfl w.heap.size tabV rfl rfl 75 _ HZ.out (by kernel_rfl) (by kernel_rfl) (by kernel_rfl) ?_))
   refine bodyPost_ret (v := .agg tabV) (results_cell_row (t := 75) (fr := (0, 0)) rfl _ _ w.heap.size tabV _ rfl (setRow_heap _ _ _ _ _ _ HZ.out) Tryz.underlying75 rfl (by kernel_rfl)) rfl ⟨rfl, below_setRow HB.out (Nat.le_refl _) _⟩
end Go.Proofs.YtoaleclnilbjcaaGreatDoor.Hand
