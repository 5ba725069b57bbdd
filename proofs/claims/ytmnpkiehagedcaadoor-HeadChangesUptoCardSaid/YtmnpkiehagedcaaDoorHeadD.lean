/- head.Drop: what the walk of it gives. Condition: names and values of at most 2^40 bytes together. -/
import Derived.Test.YtmnpkiehagedcaaDoorHeadS
namespace Go.Proofs.YtmnpkiehagedcaaDoor.Hand
open Go.RowKit Go.Proofs.YtmnpkiehagedcaaDoorW.PrintWords Go.Proofs.YtmnpkiehagedcaaDoorW.PrintLast Go.Proofs.YtmnpkiehagedcaaDoorW.PrintMore
set_option linter.unusedVariables false
set_option linter.unusedSimpArgs false

def dropOne (l : List S29) (nm : ByteArray) : List S29 := l.filter fun x => !alikeB (lowBA nm) x
def dropL (l : List S29) (names : List ByteArray) : List S29 := names.foldl dropOne l
theorem dropL_mem {l : List S29} : ∀ {names : List ByteArray} {x : S29}, x ∈ dropL l names → x ∈ l := by
  intro names
  induction names generalizing l with
  | nil => intro x h; exact h
  | cons n r ih => intro x h; exact (List.mem_filter.1 (ih (l := dropOne l n) h)).1
theorem dropL_snoc (l : List S29) (names : List ByteArray) (k : Nat) (hk : k < names.length) : dropL l (names.take (k + 1)) = dropOne (dropL l (names.take k)) (rdOf ByteArray.empty names k) := by
  rw [List.take_succ_eq_append_getElem hk]
  unfold dropL
  rw [List.foldl_append]
  have : rdOf ByteArray.empty names k = names[k] := by simp [rdOf, List.getD_eq_getElem?_getD, hk]
  rw [this]; rfl

set_option maxHeartbeats 1000000 in
theorem delete_R (B : Nat) (low : ByteArray) (base : Nat) (w0 : World) (v : Value) (xs : List S29) (w : World) (hB : w.cell? ⟨B, 0, none⟩ = some (.string low))
    (hR : Kd.R k29 29 w base (fun q => base ≤ q ∧ q ≠ B) v xs) (hok : ∀ x ∈ xs, x.f0.size ≤ 140737488351232) (hb : Below base w0 w) (hbs : base ≤ w0.heap.size) :
    Calls Tryd.prog 49 #[v, .func (.func 60) #[] #[.pointer (some ⟨B, 0, none⟩)]] w fun e w' => ∃ v', e = .returned v' ∧ Kd.R k29 29 w' base (fun q => base ≤ q) v' (xs.filter fun x => !alikeB low x) ∧ Below base w0 w' := by
  rcases RowAt.ofR flatH hR with ⟨rfl, rfl⟩ | ⟨g, cap, rfl, hg, hq, hA⟩
  · have hi := Lib.hid (indexFuncH (alike_says B low) none 0 [] w (Kd.R_reads' hR).2.2 (fun _ h => by cases h) hB)
    clear hR hok
    have HB := Lib.hid hb
    go_enter Tryd.func49, Tryd.ntmps49
    go_wp2_with fail
    refine hi.out.mono ?_
    rintro e w1 ⟨rfl, hb1⟩
    rw [show firstOf (alikeB low) [] = -1 from rfl]
    have HB1 := Aside0.mk (below_then HB.out (Nat.le_trans hbs HB.out.size) hb1)
    clear hb1 hi HB hb
    go_wp2
    go_ret
    exact ⟨_, rfl, Kd.R_nil _ _ _ _ _, HB1.out⟩
  · refine (deleteFuncH (alike_says B low) g cap base w0 xs w (fun W i v hW => ?_) hA hok hB hb hg hbs).mono ?_
    · rw [World.cell?_setCell_far _ _ _ _ (show g ≠ B from hq.2)]
      exact hW
    · rintro e w1 ⟨rfl, h1, _, h2⟩
      exact ⟨_, rfl, h1.toR flatH hg hg (by decide), h2⟩

set_option maxHeartbeats 1000000 in
theorem drop_walk (A0 : Option Addr) (c0 : Nat) (l0 : List S29) (A1 : Option Addr) (c1 : Nat) (l1 : List ByteArray) (w : World) (hr0 : Kd.C k29 w A0 l0.length l0) (hc0 : l0.length ≤ c0) (hr1 : Kd.C Kd.string w A1 l1.length l1) (hsum : hdrSum l0 ≤ 1099511627776) (hsz : ∀ x ∈ l1, x.size ≤ 140737488351232) :
    Calls Tryd.prog 23 #[.slice A0 l0.length c0, .slice A1 l1.length c1] w fun e w' => ∃ v, e = .returned v ∧ Kd.V k29 29 w' w.heap.size (fun k_ => w.heap.size ≤ k_) v (dropL l0 l1) ∧ Below w.heap.size w w' := by
  have hlen := hdrSum_length l0
  have hC := Lib.hid (cloneH flatH A0 c0 l0 w hr0 hc0 (by omega))
  have HS := Lib.hid hsum
  have HR1 := Lib.hid hr1
  have HZ := Lib.hid hsz
  have hlm := hr1.2.1
  clear hr0 hr1 hsum hsz hlen
  go_enter Tryd.func23, Tryd.ntmps23
  go_wp2_with fail
  refine hC.out.mono ?_
  rintro e w1 ⟨v, rfl, hR, hb⟩
  have HO := Aside0.mk hR
  have HB := Aside0.mk hb
  clear hR hb hC
  go_wp2_with fail
  go_loopw [5, 12] (fun v ix wr => ∃ k : Nat, k ≤ l1.length ∧ ix = .int .i64 k ∧ Aside0 (Kd.R k29 29 wr w.heap.size (fun q => w.heap.size ≤ q) v (dropL l0 (l1.take k))) ∧ Aside0 (Below w.heap.size w wr)) (fun _ ix _ => l1.length - (intOf ix).toNat)
  case atStart => exact ⟨0, Nat.zero_le _, rfl, HO, HB⟩
  case round =>
    clear HO HB
    obtain ⟨k, hk, rfl, HO, HB⟩ := hrel
    by_cases hlt : k < l1.length
    · obtain ⟨ad, e1, hx0⟩ := Kd.at_string HR1.out k (by omega) (by omega)
      cases e1
      replace hx0 := (HB.out.cell (World.block_lt_of_cell? w _ hx0)).trans hx0
      rw [Int.toNat_natCast] at hx0
      have HD := Aside0.mk (dropL_snoc l0 l1 k hlt)
      have hxs : (rdOf ByteArray.empty l1 k).size ≤ 140737488351232 := HZ.out _ (by
        have : rdOf ByteArray.empty l1 k = l1[k] := by simp [rdOf, List.getD_eq_getElem?_getD, hlt]
        rw [this]; exact List.getElem_mem hlt)
      clear HR1
      generalize rdOf ByteArray.empty l1 k = x at *
      go_wp2_with fail
      refine (alike_calls x wr hxs).mono ?_
      rintro e w2 ⟨B, rfl, hB1, hB2, hcB, hb2⟩
      have HO3 := Aside0.mk (Kd.R_below (Kd.R_mono (ok' := fun q => w.heap.size ≤ q ∧ q ≠ B) (Kd.R_bound HO.out) (fun q hq => ⟨hq.1, by have := hq.2.2.1; omega⟩)) hb2)
      have HB2 := Aside0.mk (below_then HB.out (below_size HB.out) hb2)
      have HX := Lib.hid (delete_R B (lowBA x) w.heap.size w u5 (dropL l0 (l1.take k)) w2 hcB HO3.out (fun y hy => by have h1 := hdrSum_mem (dropL_mem hy); have h2 := HS.out; omega) HB2.out (Nat.le_refl _))
      rw [show ((dropL l0 (l1.take k)).filter fun y => !alikeB (lowBA x) y) = dropOne (dropL l0 (l1.take k)) x from rfl, ← HD.out] at HX
      clear HO HB HO3 HB2 hb2 hcB hx0
      go_wp2_with fail
      refine HX.out.mono ?_
      rintro e w3 ⟨v3, rfl, hR3, hb3⟩
      have HO4 := Aside0.mk hR3
      have HB4 := Aside0.mk hb3
      clear hR3 hb3 HX
      go_wp2
      go_roundw
      case rel => exact ⟨k + 1, by omega, by go_num, HO4, HB4⟩
      case measure => simp [intOf]; omega
    · obtain rfl : k = l1.length := by omega
      rw [List.take_length] at HO
      obtain ⟨A3, c3, rfl, hc3, hC3⟩ := Kd.R_reads HO.out
      have hm3 := hC3.2.1
      clear hC3 HR1 hlt
      go_wp2_with fail
      refine (clipH _ _ _ _ hc3 hm3).mono ?_
      rintro e w5 ⟨rfl, rfl⟩
      go_wp2
      go_ret
      exact ⟨_, rfl, clipV (Kd.R_V HO.out), HB.out⟩
def head_Drop.f (l0 : List S29) (l1 : List ByteArray) : Option (List S29) :=
  if hdrSum l0 ≤ 1099511627776 ∧ ∀ x ∈ l1, x.size ≤ 140737488351232 then some (dropL l0 l1) else none
theorem head_Drop.calls (A0 : Option Addr) (c0 : Nat) (l0 : List S29) (A1 : Option Addr) (c1 : Nat) (l1 : List ByteArray) (r : List S29) (w : World) (hG : GW w) (hr0 : Kd.C k29 w A0 l0.length l0) (hc0 : l0.length ≤ c0) (hr1 : Kd.C Kd.string w A1 l1.length l1) (hc1 : l1.length ≤ c1) (h : head_Drop.f l0 l1 = some r) :
    Calls Tryd.prog 23 #[.slice A0 l0.length c0, .slice A1 l1.length c1] w fun e w' => ∃ v0_ : Value, e = .returned v0_ ∧ Kd.V k29 29 w' w.heap.size (fun k_ => w.heap.size ≤ k_) v0_ r ∧ Below w.heap.size w w' := by
  unfold head_Drop.f at h
  by_cases c : hdrSum l0 ≤ 1099511627776 ∧ ∀ x ∈ l1, x.size ≤ 140737488351232
  · rw [if_pos c] at h
    obtain rfl := Option.some.inj h
    exact drop_walk A0 c0 l0 A1 c1 l1 w hr0 hc0 hr1 c.1 c.2
  · rw [if_neg c] at h; cases h
end Go.Proofs.YtmnpkiehagedcaaDoor.Hand
