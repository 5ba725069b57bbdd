/- redact.Headers: what the walk of it gives. Condition: where redact.URL is told of each location. -/
import Derived.Test.YtoaleclnilbjcaaGreatDoorFP2
import Derived.Test.YtoaleclnilbjcaaGreatDoorClone
import Derived.Lib.Hide
namespace Go.Proofs.YtoaleclnilbjcaaGreatDoor.Hand
open Go.RowKit Go.Proofs.YtoaleclnilbjcaaGreatDoorW.PrintWords Go.Proofs.YtoaleclnilbjcaaGreatDoorW.PrintLast Go.Proofs.YtoaleclnilbjcaaGreatDoorW.PrintMore
set_option linter.unusedVariables false
set_option linter.unusedSimpArgs false

theorem RowAt.putH1 {e g cap : Nat} {W : World} {ys : List S58} (h : RowAt encH 2 e g cap W ys) (i : Nat) (hi : i < ys.length) (v : ByteArray) :
  RowAt encH 2 e g cap (W.setCell ⟨g, i * 2 + 1, none⟩ (.string v)) (ys.set i ⟨(ys[i]'hi).f0, v⟩) where
 blk := by
  obtain ⟨cur, hb, hs⟩ := h.blk
  obtain ⟨c', h1, h2⟩ := setCells_blk (fr := (0, 0)) [.string v] (i * 2 + 1) W hb
  exact ⟨c', h1, by rw [h2, hs]⟩
 cell := fun j y hj k q hv => by
  have hl : ∀ x, (encH x).length = 2 := fun _ => rfl
  have hk : k < 2 := by rw [← hl y]; exact (List.getElem?_eq_some_iff.1 hv).1
  have hle := h.le
  show (W.setCells g (i * 2 + 1) [.string v]).cell? ⟨g, j * 2 + k, none⟩ = some q
  rw [List.getElem?_set] at hj
  by_cases e1 : i = j
  ·subst e1
   rw [if_pos rfl, if_pos hi] at hj
   injection hj with hj
   subst hj
   obtain rfl | rfl : k = 0 ∨ k = 1 := by omega
   ·rw [World.cell?_setCells_out g [.string v] (i * 2 + 1) W _ (fun _ _ => .inl (by show i * 2 + 0 < i * 2 + 1; omega))]
    exact h.cell i _ (List.getElem?_eq_getElem hi) 0 q hv
   ·have h1 := World.cell?_setCells_in g [.string v] (i * 2 + 1) W (fun r hr => h.there _ (by simp at hr; omega)) 0 (by simp)
    rw [Nat.add_zero] at h1
    rw [h1]
    exact hv
  ·rw [if_neg e1] at hj
   rw [World.cell?_setCells_out g [.string v] (i * 2 + 1) W _ (fun _ _ => ?_)]
   ·exact h.cell j y hj k q hv
   ·show j * 2 + k < i * 2 + 1 ∨ i * 2 + 1 + [Value.string v].length ≤ j * 2 + k
    simp only [List.length_cons, List.length_nil]
    omega
 le := by rw [List.length_set]; exact h.le
 max := h.max

theorem take_set {α : Type} (r l : List α) (j : Nat) (h1 : j < r.length) (h2 : r.length = l.length) : (r.take j ++ l.drop j).set j (r[j]'h1) = r.take (j + 1) ++ l.drop (j + 1) := by
 have e : l.drop j = l[j]'(by omega) :: l.drop (j + 1) := List.drop_eq_getElem_cons (by omega)
 rw [e, List.take_succ_eq_append_getElem h1, List.set_append_right _ _ (by rw [List.length_take]; omega), List.length_take, show j - min j r.length = 0 by omega, List.set_cons_zero, List.append_assoc]
 rfl
theorem take_same {α : Type} (r l : List α) (j : Nat) (h1 : j < r.length) (h2 : r.length = l.length) (h : r[j]'h1 = l[j]'(by omega)) : r.take j ++ l.drop j = r.take (j + 1) ++ l.drop (j + 1) := by
 have e : l.drop j = l[j]'(by omega) :: l.drop (j + 1) := List.drop_eq_getElem_cons (by omega)
 rw [e, List.take_succ_eq_append_getElem h1, List.append_assoc, h]
 rfl
def secretN (n : ByteArray) : Bool := (n.toList == [99, 111, 111, 107, 105, 101]) || (n.toList == [115, 101, 116, 45, 99, 111, 111, 107, 105, 101]) || (n.toList == [97, 117, 116, 104, 111, 114, 105, 122, 97, 116, 105, 111, 110]) || (n.toList == [112, 114, 111, 120, 121, 45, 97, 117, 116, 104, 111, 114, 105, 122, 97, 116, 105, 111, 110])
def cleanV (k : Nat) (n v : ByteArray) : Option ByteArray :=
 if secretN n = true then some (if v.toList.isEmpty = false ∧ valueB v = true then ⟨#[42]⟩ else v)
 else if (n.toList == [108, 111, 99, 97, 116, 105, 111, 110]) = true ∧ valueB v = true then redact_URL.f k v else some v
def cleanL (k : Nat) : List S58 → Option (List S58)
 | [] => some []
 | x :: t => if x.f0.size ≤ 140737488351232 then (cleanV k (lowBA x.f0) x.f1).bind fun v => (cleanL k t).bind fun r => some (⟨x.f0, v⟩ :: r) else none
theorem cleanL_at (k : Nat) : ∀ (l r : List S58), cleanL k l = some r → r.length = l.length ∧ ∀ (j : Nat) (h : j < l.length) (h2 : j < r.length), (l[j]'h).f0.size ≤ 140737488351232 ∧ cleanV k (lowBA (l[j]'h).f0) (l[j]'h).f1 = some (r[j]'h2).f1 ∧ (r[j]'h2).f0 = (l[j]'h).f0
 | [], r, h => by
  obtain rfl := Option.some.inj h
  exact ⟨rfl, fun j h => absurd h (Nat.not_lt_zero _)⟩
 | x :: t, r, h => by
  unfold cleanL at h
  split at h
  case isFalse => cases h
  rename_i hx
  obtain ⟨v, hv, h⟩ := Option.bind_eq_some_iff.1 h
  obtain ⟨q, hq, h⟩ := Option.bind_eq_some_iff.1 h
  obtain rfl := Option.some.inj h
  obtain ⟨h1, h2⟩ := cleanL_at k t q hq
  refine ⟨by rw [List.length_cons, List.length_cons, h1], fun j hj hj2 => ?_⟩
  cases j with
  | zero => exact ⟨hx, hv, rfl⟩
  | succ j => exact h2 j (by simpa using hj) (by simpa using hj2)
def redact_Headers.f (k : Nat) (l0 : List S58) : Option (List S58) := if l0.length ≤ 1099511627776 then cleanL k l0 else none
set_option maxHeartbeats 4000000 in
set_option maxRecDepth 100000 in
theorem redact_Headers.calls (k : Nat) (A0 : Option Addr) (c0 : Nat) (l0 : List S58) (r : List S58) (w : World) (hG : GW w) (hr0 : Kd.C k58 w A0 l0.length l0) (hc0 : l0.length ≤ c0) (h : redact_Headers.f k l0 = some r) :
  Calls Tryz.prog 15 #[.slice A0 l0.length c0] w fun e w' => ∃ v, e = .returned v ∧ Kd.V k58 58 w' w.heap.size (fun k_ => w.heap.size ≤ k_) v r ∧ Below w.heap.size w w' := by
 unfold redact_Headers.f at h
 by_cases hm : l0.length ≤ 1099511627776
 case neg => rw [if_neg hm] at h; cases h
 rw [if_pos hm] at h
 obtain ⟨hrl, hat⟩ := cleanL_at k l0 r h
 have HAT := Lib.hid hat
 have HG := Lib.hid hG
 have HC := Lib.hid (cloneH flatH A0 c0 l0 w hr0 hc0 hm)
 clear h hat hr0 hc0 hG
 go_enter Tryz.func15, Tryz.ntmps15
 go_wp2_with fail
 with_reducible refine HC.out.mono ?_
 rintro e w1 ⟨v1, rfl, hR, hb1⟩
 have HB1 := Lib.hid hb1
 rcases RowAt.ofR flatH hR with ⟨rfl, rfl⟩ | ⟨g, cap, rfl, hbg, _, hrow⟩
 ·have hr : r = [] := List.length_eq_zero_iff.1 hrl
  subst hr
  have HCl := Lib.hid (fun w => clipH none 0 0 w (Nat.le_refl _) (by decide))
  clear hR hb1 HC HAT
  go_wp2
  go_loopg [10] 0 (fun gk x wr => x = .int .i64 0 ∧ wr = w1)
  case atStart => exact ⟨rfl, rfl⟩
  case round =>
   obtain ⟨rfl, rfl⟩ := hrel
   go_wp2_with (go_at_call 36; with_reducible refine (HCl.out _).mono ?_; rintro e w2 ⟨rfl, rfl⟩)
   go_ret
   exact ⟨_, rfl, Kd.V_nil _ _ _ _ _, HB1.out⟩
 ·have HW := Lib.hid hrow
  have hcap := hrow.le
  have hmax := hrow.max
  have HCl := Lib.hid (fun w => clipH (some ⟨g, 0, none⟩) l0.length cap w hcap (by unfold maxLen at hmax; omega))
  clear hR hb1 hrow HC
  go_wp2_with fail
  go_loopg [4, 5, 10] l0.length (fun gk _ _ ix wr => ∃ j : Nat, j + gk = l0.length ∧ ix = .int .i64 j ∧ Hid (RowAt encH 2 58 g cap wr (r.take j ++ l0.drop j)) ∧ Hid (Below w.heap.size w wr))
  case atStart => exact ⟨0, by omega, rfl, Lib.hid HW.out, HB1⟩
  case round =>
   obtain ⟨j, hj, rfl, HR, HB⟩ := hrel
   clear HW HB1
   cases gk with
   | zero =>
    obtain rfl : j = l0.length := by omega
    go_wp2_with (go_at_call 36; with_reducible refine (HCl.out _).mono ?_; rintro e w2 ⟨rfl, rfl⟩)
    go_ret
    have h1 := HR.out
    rw [List.drop_length, List.append_nil, ← hrl, List.take_length] at h1
    refine ⟨_, rfl, ?_, HB.out⟩
    show Kd.V k58 58 wr w.heap.size _ (.slice (some ⟨g, 0, none⟩) l0.length l0.length) r
    rw [← hrl]
    exact clipV (Kd.R_V (base' := w.heap.size) (h1.toR (base := w.heap.size) (ok := fun k_ => w.heap.size ≤ k_) flatH hbg hbg (by decide)))
   | succ gk =>
    have hlt : j < l0.length := by omega
    have HC := RowAt.reads flatH HR.out
    have hyl : (r.take j ++ l0.drop j).length = l0.length := by rw [List.length_append, List.length_take, List.length_drop]; omega
    obtain ⟨ad, e1, hx0, hx1⟩ := at_T58 HC j (by omega) (by omega)
    cases e1
    have hz : (⟨g, 0, none⟩ : Addr).add (j * 2) = ⟨g, j * 2, none⟩ := by unfold Addr.add; split <;> simp_all
    rw [Int.toNat_natCast, hz] at hx0 hx1
    replace hx1 : wr.cell? ⟨g, j * 2 + 1, none⟩ = some (.string (rd_T58 (r.take j ++ l0.drop j) (j : Int)).f1) := hx1
    have hxe : rd_T58 (r.take j ++ l0.drop j) (j : Int) = l0[j] := by
     unfold rd_T58
     rw [Int.toNat_natCast, List.getD_eq_getElem?_getD, List.getElem?_append_right (by rw [List.length_take]; omega), List.length_take, List.getElem?_drop, List.getElem?_eq_getElem (by omega)]
     simp only [Option.getD_some]
     congr 1
     omega
    rw [hxe] at hx0 hx1
    obtain ⟨hA0, hA1, hA2⟩ := HAT.out j hlt (by omega)
    generalize hx : l0[j] = x at hx0 hx1 hA0 hA1 hA2
    generalize hy : r[j]'(by omega) = y at hA1 hA2
    have HY := Lib.hid hy
    have HA1 := Lib.hid hA1
    have HA2 := Lib.hid hA2
    clear hA1 hA2 hy hxe
    have HX := Lib.hid hx
    have HX0 := Lib.hid hx0
    have HX1 := Lib.hid hx1
    clear hx HC
    have HGR := Lib.hid (show g < wr.heap.size from HR.out.lt)
    go_wp2_with fail
    have HBa := Lib.hid (below_alloc (Below.refl wr.heap.size wr) (.cells #[.string x.f0, .string x.f1] 58))
    have q0 : (wr.alloc (.cells #[.string x.f0, .string x.f1] 58)).cell? ⟨wr.heap.size, 0, none⟩ = some (.string x.f0) := by go_simp
    have q1 : (wr.alloc (.cells #[.string x.f0, .string x.f1] 58)).cell? ⟨wr.heap.size, 1, none⟩ = some (.string x.f1) := by go_simp
    have HR2 := Lib.hid (HR.out.below HBa.out)
    have HB2 := Lib.hid (below_step HB.out HBa.out)
    generalize wr.alloc (.cells #[.string x.f0, .string x.f1] 58) = wh at HR2 HB2 q0 q1
    have HLw := Lib.hid (lower_calls x.f0 wh hA0)
    clear HR HB HBa hx0 hx1 HX0 HX1
    generalize hn : lowBA x.f0 = n at HLw
    have HN := Lib.hid hn
    clear hn
    with_reducible refine HLw.out.mono ?_
    rintro e w2 ⟨rfl, hb2⟩
    have HR3 := Lib.hid (HR2.out.below hb2)
    have HB3 := Lib.hid (below_step HB2.out hb2)
    replace q0 := pw_cell_below hb2 q0
    replace q1 := pw_cell_below hb2 q1
    clear hb2 HLw HR2 HB2
    have HVal := Lib.hid (value_calls x.f1)
    have HU := Lib.hid (fun r' W h h2 => redact_URL.calls k x.f1 r' W h h2)
    have HVb : Hid (cleanV k n x.f1 = some y.f1) := Lib.hid (by rw [← HN.out]; exact HA1.out)
    have KSame : Hid (y.f1 = x.f1 → r.take j ++ l0.drop j = r.take (j + 1) ++ l0.drop (j + 1)) := Lib.hid fun h => take_same r l0 j (by omega) hrl (by have h2 := HA2.out; rw [HY.out, HX.out]; cases x; cases y; simp only at h h2; rw [h, h2])
    have K3 : Hid (∀ h : j < (r.take j ++ l0.drop j).length, (r.take j ++ l0.drop j)[j]'h = x) := Lib.hid fun h => by
      rw [List.getElem_append_right (by rw [List.length_take]; omega)]
      simp only [List.getElem_drop, List.length_take]
      rw [← HX.out]
      congr 1
      omega
    have KSet : Hid (∀ (v : ByteArray) (W : World), y.f1 = v → RowAt encH 2 58 g cap W (r.take j ++ l0.drop j) → RowAt encH 2 58 g cap (W.setCell ⟨g, j * 2 + 1, none⟩ (.string v)) (r.take (j + 1) ++ l0.drop (j + 1))) := Lib.hid fun v W h hr => by
     subst h
     have h1 := hr.putH1 j (by omega) y.f1
     have h2 := HA2.out
     rw [K3.out, ← h2] at h1
     rw [← take_set r l0 j (by omega) hrl, HY.out]
     exact h1
    have KCell : Hid (∀ W : World, RowAt encH 2 58 g cap W (r.take j ++ l0.drop j) → W.cell? ⟨g, j * 2 + 1, none⟩ = some (.string x.f1)) := Lib.hid fun W hr => by
     have h1 : (r.take j ++ l0.drop j)[j]? = some x := by rw [List.getElem?_eq_getElem (by omega), K3.out]
     exact hr.cell j x h1 1 _ rfl
    have HG3 := Lib.hid (HG.out.below HB3.out)
    have H5 : ((n.toList == [99, 111, 111, 107, 105, 101]) = true) ∨ ((n.toList == [99, 111, 111, 107, 105, 101]) = false ∧ (n.toList == [115, 101, 116, 45, 99, 111, 111, 107, 105, 101]) = true) ∨ ((n.toList == [99, 111, 111, 107, 105, 101]) = false ∧ (n.toList == [115, 101, 116, 45, 99, 111, 111, 107, 105, 101]) = false ∧ (n.toList == [97, 117, 116, 104, 111, 114, 105, 122, 97, 116, 105, 111, 110]) = true) ∨ ((n.toList == [99, 111, 111, 107, 105, 101]) = false ∧ (n.toList == [115, 101, 116, 45, 99, 111, 111, 107, 105, 101]) = false ∧ (n.toList == [97, 117, 116, 104, 111, 114, 105, 122, 97, 116, 105, 111, 110]) = false ∧ (n.toList == [112, 114, 111, 120, 121, 45, 97, 117, 116, 104, 111, 114, 105, 122, 97, 116, 105, 111, 110]) = true) ∨ ((n.toList == [99, 111, 111, 107, 105, 101]) = false ∧ (n.toList == [115, 101, 116, 45, 99, 111, 111, 107, 105, 101]) = false ∧ (n.toList == [97, 117, 116, 104, 111, 114, 105, 122, 97, 116, 105, 111, 110]) = false ∧ (n.toList == [112, 114, 111, 120, 121, 45, 97, 117, 116, 104, 111, 114, 105, 122, 97, 116, 105, 111, 110]) = false) := by
     generalize (n.toList == [99, 111, 111, 107, 105, 101]) = b1
     generalize (n.toList == [115, 101, 116, 45, 99, 111, 111, 107, 105, 101]) = b2
     generalize (n.toList == [97, 117, 116, 104, 111, 114, 105, 122, 97, 116, 105, 111, 110]) = b3
     generalize (n.toList == [112, 114, 111, 120, 121, 45, 97, 117, 116, 104, 111, 114, 105, 122, 97, 116, 105, 111, 110]) = b4
     revert b1 b2 b3 b4
     decide
    by_cases hs : secretN n = true
    ·have ha : (if x.f1.toList.isEmpty = false ∧ valueB x.f1 = true then ⟨#[42]⟩ else x.f1) = y.f1 := by
      have h := HVb.out
      unfold cleanV at h
      rw [if_pos hs] at h
      exact Option.some.inj h
     have HVal := Lib.hid (value_calls x.f1)
     generalize valueB x.f1 = vb at HVal ha
     unfold secretN at hs
     rcases H5 with hc1 | ⟨hc1, hc2⟩ | ⟨hc1, hc2, hc3⟩ | ⟨hc1, hc2, hc3, hc4⟩ | ⟨hc1, hc2, hc3, hc4⟩
     case inr.inr.inr.inr => rw [hc1, hc2, hc3, hc4] at hs; cases hs
     all_goals
      clear hs
      cases hv : x.f1.toList.isEmpty
      ·cases vb
       ·rw [if_neg (by simp)] at ha
        have HE := Lib.hid (KSame.out ha.symm)
        clear ha
        go_wp2_with (go_at_call 35; with_reducible refine (HVal.out _).mono ?_; rintro e w3 ⟨rfl, hb3⟩; have HB4 := Lib.hid hb3; clear hb3)
        go_roundg gk
        case measure => omega
        case rel => exact ⟨j + 1, by omega, by go_num, Lib.hid (by rw [← HE.out]; exact HR3.out.below HB4.out), Lib.hid (below_step HB3.out HB4.out)⟩
       ·rw [if_pos ⟨hv, rfl⟩] at ha
        have HE := Lib.hid ha.symm
        clear ha
        go_wp2_with (go_at_call 35; with_reducible refine (HVal.out _).mono ?_; rintro e w3 ⟨rfl, hb3⟩; have HB4 := Lib.hid hb3; have hce := KCell.out _ (HR3.out.below hb3); have hfr := (HR3.out.below hb3).free (j * 2 + 1); clear hb3)
        go_roundg gk
        case measure => omega
        case rel => exact ⟨j + 1, by omega, by go_num, Lib.hid (KSet.out _ _ HE.out (HR3.out.below HB4.out)), Lib.hid ((below_step HB3.out HB4.out).setCell (p := ⟨g, j * 2 + 1, none⟩) hbg _)⟩
      ·rw [if_neg (by rw [hv]; simp)] at ha
       have HE := Lib.hid (KSame.out ha.symm)
       clear ha
       go_wp2
       go_roundg gk
       case measure => omega
       case rel => exact ⟨j + 1, by omega, by go_num, Lib.hid (by rw [← HE.out]; exact HR3.out), HB3⟩
    ·have hs2 : secretN n = false := by simpa using hs
     have ha : (if (n.toList == [108, 111, 99, 97, 116, 105, 111, 110]) = true ∧ valueB x.f1 = true then redact_URL.f k x.f1 else some x.f1) = some y.f1 := by
      have h := HVb.out
      unfold cleanV at h
      rw [if_neg hs] at h
      exact h
     have HVal := Lib.hid (value_calls x.f1)
     generalize valueB x.f1 = vb at HVal ha
     unfold secretN at hs2
     rcases H5 with hc1 | ⟨hc1, hc2⟩ | ⟨hc1, hc2, hc3⟩ | ⟨hc1, hc2, hc3, hc4⟩ | ⟨hc1, hc2, hc3, hc4⟩
     case inl => rw [hc1] at hs2; cases hs2
     case inr.inl => rw [hc1, hc2] at hs2; cases hs2
     case inr.inr.inl => rw [hc1, hc2, hc3] at hs2; cases hs2
     case inr.inr.inr.inl => rw [hc1, hc2, hc3, hc4] at hs2; cases hs2
     clear hs hs2
     cases hc5 : (n.toList == [108, 111, 99, 97, 116, 105, 111, 110])
     ·rw [if_neg (by rw [hc5]; simp)] at ha
      have HE := Lib.hid (KSame.out (Option.some.inj ha).symm)
      clear ha
      go_wp2
      go_roundg gk
      case measure => omega
      case rel => exact ⟨j + 1, by omega, by go_num, Lib.hid (by rw [← HE.out]; exact HR3.out), HB3⟩
     ·cases vb
      ·rw [if_neg (by simp)] at ha
       have HE := Lib.hid (KSame.out (Option.some.inj ha).symm)
       clear ha
       go_wp2_with (go_at_call 35; with_reducible refine (HVal.out _).mono ?_; rintro e w3 ⟨rfl, hb3⟩; have HB4 := Lib.hid hb3; clear hb3)
       go_roundg gk
       case measure => omega
       case rel => exact ⟨j + 1, by omega, by go_num, Lib.hid (by rw [← HE.out]; exact HR3.out.below HB4.out), Lib.hid (below_step HB3.out HB4.out)⟩
      ·rw [if_pos ⟨hc5, rfl⟩] at ha
       have HUy := Lib.hid (fun W hG => redact_URL.calls k x.f1 y.f1 W hG ha)
       clear ha
       go_wp2_with (first | (go_at_call 35; with_reducible refine (HVal.out _).mono ?_; rintro e w3 ⟨rfl, hb3⟩; have HB4 := Lib.hid hb3; replace q0 := pw_cell_below hb3 q0; replace q1 := pw_cell_below hb3 q1; clear hb3) | (go_at_call 10; with_reducible refine (HUy.out _ (HG3.out.below HB4.out)).mono ?_; rintro e w4 ⟨rfl, hb4⟩; have HB5 := Lib.hid hb4; have hce := KCell.out _ ((HR3.out.below HB4.out).below hb4); have hfr := ((HR3.out.below HB4.out).below hb4).free (j * 2 + 1); clear hb4))
       go_roundg gk
       case measure => omega
       case rel => exact ⟨j + 1, by omega, by go_num, Lib.hid (KSet.out _ _ rfl ((HR3.out.below HB4.out).below HB5.out)), Lib.hid ((below_step (below_step HB3.out HB4.out) HB5.out).setCell (p := ⟨g, j * 2 + 1, none⟩) hbg _)⟩
end Go.Proofs.YtoaleclnilbjcaaGreatDoor.Hand
