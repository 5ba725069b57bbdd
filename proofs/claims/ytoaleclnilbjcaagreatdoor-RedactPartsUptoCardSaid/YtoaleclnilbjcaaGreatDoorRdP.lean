/- What redact.URL, redact.Headers and their references compute, over lists of bytes: the same. Conditions: at most 2^40 bytes. -/
import Derived.Test.YtoaleclnilbjcaaGreatDoorRdF
import Derived.Test.YtoaleclnilbjcaaGreatDoorRdH
import Derived.Test.YtoaleclnilbjcaaGreatDoorUrlS
import Derived.Test.YtoaleclnilbjcaaGreatDoorFQ1
namespace Go.Proofs.YtoaleclnilbjcaaGreatDoor.Hand
open Go.RowKit Go.Proofs.YtoaleclnilbjcaaGreatDoorW.PrintWords Go.Proofs.YtoaleclnilbjcaaGreatDoorW.PrintLast Go.Proofs.YtoaleclnilbjcaaGreatDoorW.PrintMore
set_option linter.unusedVariables false
set_option linter.unusedSimpArgs false

abbrev pfx2 : List UInt8 := [47, 47]
abbrev pfx7 : List UInt8 := [104, 116, 116, 112, 58, 47, 47]
abbrev pfx8 : List UInt8 := [104, 116, 116, 112, 115, 58, 47, 47]
def pre27 (l : List UInt8) : Nat := if (l.map low8).take 2 = pfx2 then 2 else if (l.map low8).take 7 = pfx7 then 7 else if (l.map low8).take 8 = pfx8 then 8 else 0
theorem pre_take (p m : List UInt8) : Lib.hasPrefix m p = decide (m.take p.length = p) := by
 unfold Lib.hasPrefix
 rw [Bool.eq_iff_iff, decide_eq_true_iff, List.isPrefixOf_iff_prefix, List.prefix_iff_eq_take]
 exact eq_comm
theorem low_take (l : List UInt8) (n j : Nat) (h : j ≤ n ∨ l.length ≤ n) : ((l.take n).map low8).take j = (l.map low8).take j := by
 rw [List.map_take, List.take_take]
 rcases h with h | h
 ·rw [Nat.min_eq_left h]
 ·by_cases c : j ≤ n
  ·rw [Nat.min_eq_left c]
  ·rw [Nat.min_eq_right (by omega), List.take_of_length_le (by simpa using h), List.take_of_length_le (by simp; omega)]
theorem take_len {p m : List UInt8} (h : m.take p.length = p) : p.length ≤ m.length := by
 have := congrArg List.length h
 rw [List.length_take] at this
 omega
theorem pre27_le (l : List UInt8) : pre27 l ≤ l.length := by
 unfold pre27
 split
 ·rename_i h; simpa using take_len (p := pfx2) h
 ·split
  ·rename_i h; simpa using take_len (p := pfx7) h
  ·split
   ·rename_i h; simpa using take_len (p := pfx8) h
   ·omega
theorem progAhead (l : List UInt8) (h : l.length ≤ 1099511627776) : Ev (fun k => redact_ahead.f k (ba l)) (ba (l.take (pre27 l)), decide (pre27 l ≠ 0)) ∨ (pre27 l = 0 ∧ Ev (fun k => redact_ahead.f k (ba l)) (ba [], false)) := by
 obtain ⟨n, hn, hn8, hnl⟩ : ∃ n : Nat, mn ((ba l).size : Int) 8 = (n : Int) ∧ (8 ≤ n ∨ l.length ≤ n) ∧ n ≤ l.length := by
  unfold mn
  rw [ba_size']
  split
  ·exact ⟨8, rfl, .inl (by omega), by omega⟩
  ·exact ⟨l.length, rfl, .inr (Nat.le_refl _), Nat.le_refl _⟩
 have hpre : ∀ p : List UInt8, p.length ≤ 8 → strings_HasPrefix.f (ba ((l.take n).map low8)) (ba p) = some (decide ((l.map low8).take p.length = p)) := by
  intro p hp
  unfold strings_HasPrefix.f
  rw [ba_data, ba_data, pre_take, low_take l n p.length (by omega)]
 have start : ∀ r, Ev (fun k => redact_ahead.l0 k (ba l) (ba ((l.take n).map low8)) [ba pfx2, ba pfx7, ba pfx8] 3 0) r → Ev (fun k => redact_ahead.f k (ba l)) r := by
  intro r hr
  unfold redact_ahead.f
  rw [hn]
  refine Ev.if_pos (by omega) (Ev.if_pos (by rw [ba_size']; omega) ?_)
  rw [Int.toNat_natCast, ba_extract, List.drop_zero, Nat.sub_zero, progLower _ (by rw [List.length_take]; omega)]
  exact hr
 have hit : ∀ p : List UInt8, p.length ≤ 8 → (l.map low8).take p.length = p → ∀ k : Nat, (if 0 ≤ ((ba p).size : Int) then (if ((ba p).size : Int) ≤ ((ba l).size : Int) then (some ((ba l).extract 0 (((ba p).size : Int) : Int).toNat, true)) else (none)) else (none)) = some (ba (l.take p.length), true) := by
  intro p _ hp k
  have := take_len hp
  rw [List.length_map] at this
  rw [if_pos (by omega), if_pos (by rw [ba_size', ba_size']; omega), Int.toNat_natCast, ba_extract, ba_size']
  simp
 have r0 : rdOf ByteArray.empty [ba pfx2, ba pfx7, ba pfx8] 0 = ba pfx2 := rfl
 have r1 : rdOf ByteArray.empty [ba pfx2, ba pfx7, ba pfx8] 1 = ba pfx7 := rfl
 have r2 : rdOf ByteArray.empty [ba pfx2, ba pfx7, ba pfx8] 2 = ba pfx8 := rfl
 unfold pre27
 by_cases c2 : (l.map low8).take 2 = pfx2
 ·left
  refine start _ ?_
  refine Ev.step (fun k => by rw [redact_ahead.l0]) ?_
  refine Ev.if_pos (by decide) (Ev.if_pos (by decide) (Ev.if_pos (by decide) ?_))
  rw [r0]
  refine Ev.some_bind (fun _ => hpre pfx2 (by decide)) (Ev.if_pos (decide_eq_true c2) ?_)
  rw [if_pos c2]
  exact Ev.of_all (hit pfx2 (by decide) c2)
 ·rw [if_neg c2]
  have s1 : ∀ r, Ev (fun k => redact_ahead.l0 k (ba l) (ba ((l.take n).map low8)) [ba pfx2, ba pfx7, ba pfx8] 3 1) r → Ev (fun k => redact_ahead.f k (ba l)) r := by
   intro r hr
   refine start _ ?_
   refine Ev.step (fun k => by rw [redact_ahead.l0]) ?_
   refine Ev.if_pos (by decide) (Ev.if_pos (by decide) (Ev.if_pos (by decide) ?_))
   rw [r0]
   refine Ev.some_bind (fun _ => hpre pfx2 (by decide)) (Ev.if_neg (fun e => c2 (of_decide_eq_true e)) ?_)
   rw [show wrap64 (0 + 1) = 1 from wrap_ok _ (by omega) (by omega)]
   exact hr
  by_cases c7 : (l.map low8).take 7 = pfx7
  ·left
   refine s1 _ ?_
   refine Ev.step (fun k => by rw [redact_ahead.l0]) ?_
   refine Ev.if_pos (by decide) (Ev.if_pos (by decide) (Ev.if_pos (by decide) ?_))
   rw [r1]
   refine Ev.some_bind (fun _ => hpre pfx7 (by decide)) (Ev.if_pos (decide_eq_true c7) ?_)
   rw [if_pos c7]
   exact Ev.of_all (hit pfx7 (by decide) c7)
  ·rw [if_neg c7]
   have s2 : ∀ r, Ev (fun k => redact_ahead.l0 k (ba l) (ba ((l.take n).map low8)) [ba pfx2, ba pfx7, ba pfx8] 3 2) r → Ev (fun k => redact_ahead.f k (ba l)) r := by
    intro r hr
    refine s1 _ ?_
    refine Ev.step (fun k => by rw [redact_ahead.l0]) ?_
    refine Ev.if_pos (by decide) (Ev.if_pos (by decide) (Ev.if_pos (by decide) ?_))
    rw [r1]
    refine Ev.some_bind (fun _ => hpre pfx7 (by decide)) (Ev.if_neg (fun e => c7 (of_decide_eq_true e)) ?_)
    rw [show wrap64 (1 + 1) = 2 from wrap_ok _ (by omega) (by omega)]
    exact hr
   by_cases c8 : (l.map low8).take 8 = pfx8
   ·left
    refine s2 _ ?_
    refine Ev.step (fun k => by rw [redact_ahead.l0]) ?_
    refine Ev.if_pos (by decide) (Ev.if_pos (by decide) (Ev.if_pos (by decide) ?_))
    rw [r2]
    refine Ev.some_bind (fun _ => hpre pfx8 (by decide)) (Ev.if_pos (decide_eq_true c8) ?_)
    rw [if_pos c8]
    exact Ev.of_all (hit pfx8 (by decide) c8)
   ·right
    rw [if_neg c8]
    refine ⟨rfl, s2 _ ?_⟩
    refine Ev.step (fun k => by rw [redact_ahead.l0]) ?_
    refine Ev.if_pos (by decide) (Ev.if_pos (by decide) (Ev.if_pos (by decide) ?_))
    rw [r2]
    refine Ev.some_bind (fun _ => hpre pfx8 (by decide)) (Ev.if_neg (fun e => c8 (of_decide_eq_true e)) ?_)
    rw [show wrap64 (2 + 1) = 3 from wrap_ok _ (by omega) (by omega)]
    refine Ev.step (fun k => by rw [redact_ahead.l0]) ?_
    exact Ev.if_neg (by decide) (Ev.now _)
theorem refBegins (l p : List UInt8) (h : l.length ≤ 1099511627776) : Ev (fun k => pursuivantref27_begins.f k (ba l) (ba p)) (decide ((l.map low8).take p.length = p)) := by
 unfold pursuivantref27_begins.f
 rw [ba_size', ba_size']
 refine Ev.ite (fun c => ?_) (fun c => ?_)
 ·refine Ev.if_pos (by omega) (Ev.if_pos (by omega) ?_)
  rw [ba_extract, List.drop_zero, Nat.sub_zero]
  refine Ev.bind (refLowerE _ (by rw [List.length_take]; omega)) ?_
  rw [ba_list, ba_list, List.map_take]
  have : (List.take p.length (l.map low8) == p) = decide ((l.map low8).take p.length = p) := by
   rw [Bool.eq_iff_iff, decide_eq_true_iff, beq_iff_eq]
  rw [this]
  exact Ev.now _
 ·rw [decide_eq_false (fun e => c (by have := take_len e; rw [List.length_map] at this; omega))]
  exact Ev.now _
def stop27 (c : UInt8) : Bool := decide (c = 47 ∨ c = 63 ∨ c = 35)
def who8 (x : List UInt8) : U8 := ⟨[104, 116, 116, 112], x, [97], 0, [47], false, [], false, []⟩
def user27 (x : List UInt8) : Bool := !decide (x = []) && (who8 x).good
def fin27 (n : Nat) (l a : List UInt8) : List UInt8 := match lastAt a with
 | none => l
 | some (x, _) => if user27 x = true then l.take n ++ 42 :: l.drop (n + x.length) else l
def red8 (l : List UInt8) : List UInt8 := if pre27 l = 0 ∨ 2048 < l.length then l else fin27 (pre27 l) l ((l.drop (pre27 l)).takeWhile (fun c => !stop27 c))
theorem who_small (x : List UInt8) (h : x.length ≤ 1099511627) : (who8 x).Small := ⟨by simp [who8], h, by simp [who8], by simp [who8], by simp [who8], by simp [who8]⟩
theorem progUser (x : List UInt8) (h : x.length ≤ 1099511627) : Ev (fun k => redact_user.f k (ba x)) (user27 x) := by
 unfold redact_user.f user27
 rw [ba_list]
 refine Ev.ite (fun c => ?_) (fun c => ?_)
 ·rw [decide_eq_true c]; exact Ev.now _
 ·rw [decide_eq_false c]
  exact Ev.bind (progGood (who8 x) (who_small x h)) (Ev.now _)
theorem idx_stops : ∀ (l : List UInt8), (Lib.indexAny l stops.data.toList = -1 ∧ l.takeWhile (fun c => !stop27 c) = l) ∨ (Lib.indexAny l stops.data.toList = ((l.takeWhile (fun c => !stop27 c)).length : Int) ∧ (l.takeWhile (fun c => !stop27 c)).length < l.length)
 | [] => .inl ⟨rfl, rfl⟩
 | c :: l => by
  have hs : stops.data.toList.contains c = stop27 c := of_decide_eq_true (u8_all (P := fun c => decide (stops.data.toList.contains c = stop27 c)) (by decide +kernel) c)
  unfold Lib.indexAny
  rw [hs, List.takeWhile_cons]
  cases hc : stop27 c with
  | true => right; simp
  | false =>
   rcases idx_stops l with ⟨h1, h2⟩ | ⟨h1, h2⟩
   ·left; rw [h1]; simp [h2]
   ·right
    rw [h1]
    refine ⟨?_, by simp; omega⟩
    simp
    try omega
theorem tw_take (l : List UInt8) (p : UInt8 → Bool) : l.take (l.takeWhile p).length = l.takeWhile p := by
 have h := @List.take_left _ (l.takeWhile p) (l.dropWhile p)
 rwa [List.takeWhile_append_dropWhile] at h
theorem tw_le (l : List UInt8) (p : UInt8 → Bool) : (l.takeWhile p).length ≤ l.length := by
 have := congrArg List.length (tw_take l p)
 rw [List.length_take] at this
 omega
theorem progFin (l : List UInt8) (n : Nat) (hn : n ≤ l.length) (h : l.length ≤ 2048) :
  Ev (fun k => redact_URL.j1 k (ba l) (ba (l.take n)) (ba (l.drop n)) (((l.drop n).takeWhile (fun c => !stop27 c)).length : Int)) (ba (fin27 n l ((l.drop n).takeWhile (fun c => !stop27 c)))) := by
 have hle := tw_le (l.drop n) (fun c => !stop27 c)
 have htk := tw_take (l.drop n) (fun c => !stop27 c)
 generalize hd : l.drop n = d at *
 have hdl : d.length = l.length - n := by rw [← hd, List.length_drop]
 generalize d.takeWhile (fun c => !stop27 c) = a at *
 refine Ev.step (fun k => by rw [redact_URL.j1]) ?_
 refine Ev.if_pos (by omega) (Ev.if_pos (by rw [ba_size']; omega) ?_)
 rw [Int.toNat_natCast, ba_extract, List.drop_zero, Nat.sub_zero, htk]
 have hlast : strings_LastIndexByte.f (ba a) 64 = some (Lib.lastIndexByte (ba a) 64) := by
  unfold strings_LastIndexByte.f
  rw [if_pos (by rw [ba_size']; omega)]
 rw [hlast]
 rcases split_last 64 a with hm | ⟨x, y, rfl, hy⟩
 ·have h1 := lastIdx_none (ba a) 64 (by rw [ba_data]; exact hm)
  rw [show ((64 : UInt8).toNat : Int) = 64 from rfl] at h1
  rw [h1]
  refine Ev.some_bind (fun _ => rfl) (Ev.if_pos (by decide) ?_)
  unfold fin27
  rw [lastAt_miss a hm]
  exact Ev.now _
 ·have h1 := lastIdx_some x y 64 hy
  rw [show ((64 : UInt8).toNat : Int) = 64 from rfl] at h1
  rw [h1]
  simp only [List.length_append, List.length_cons] at hle
  refine Ev.some_bind (fun _ => rfl) (Ev.if_neg (by omega) (Ev.if_pos (by omega) (Ev.if_pos (by rw [ba_size']; omega) ?_)))
  rw [Int.toNat_natCast, ba_extract, ba_extract, List.drop_zero, Nat.sub_zero]
  have e1 : d.take x.length = x := by
   have := congrArg (List.take x.length) htk
   rw [List.take_take] at this
   simpa using this
  have e2 : (d.drop x.length).take ((ba d).size - x.length) = l.drop (n + x.length) := by
   rw [ba_size', List.take_of_length_le (by rw [List.length_drop]; omega), ← hd, List.drop_drop]
  rw [e1, e2]
  refine Ev.bind (progUser x (by omega)) ?_
  unfold fin27
  rw [lastAt_hit x y hy]
  simp only
  refine Ev.ite (fun c => ?_) (fun c => ?_)
  ·rw [if_pos c]
   refine Ev.if_pos (by (first | omega | (simp only [ba_size', List.length_append, List.length_cons, List.length_nil]; omega) | (simp; omega) | (simp; done))) (Ev.if_pos ?_ ?_)
   ·rw [show (⟨#[42]⟩ : ByteArray) = ba [42] from rfl]
    simp only [ba_app, ba_size', List.length_append, List.length_cons, List.length_nil, List.length_take, List.length_drop]
    omega
   ·rw [show (⟨#[42]⟩ : ByteArray) = ba [42] from rfl, ba_app, ba_app, List.append_assoc]
    exact Ev.now _
  ·rw [if_neg c]; exact Ev.now _
theorem progURL (l : List UInt8) (h : l.length ≤ 1099511627776) : Ev (fun k => redact_URL.f k (ba l)) (ba (red8 l)) := by
 unfold redact_URL.f
 have j0t : ∀ x, Ev (fun k => redact_URL.j0 k (ba l) x true) (ba l) := by
  intro x
  refine Ev.step (fun k => by rw [redact_URL.j0]) ?_
  exact Ev.if_pos rfl (Ev.now _)
 unfold red8
 by_cases h0 : pre27 l = 0
 ·rw [if_pos (.inl h0)]
  rcases progAhead l h with h1 | ⟨_, h1⟩
  ·exact Ev.bind h1 (Ev.if_neg (by simp [h0]) (j0t _))
  ·exact Ev.bind h1 (Ev.if_neg (by simp) (j0t _))
 ·rcases progAhead l h with h1 | ⟨h1, _⟩
  rotate_left
  ·exact absurd h1 h0
  refine Ev.bind h1 (Ev.if_pos (by simpa using h0) ?_)
  by_cases hl : 2048 < l.length
  ·rw [if_pos (.inr hl), show decide (((ba l).size : Int) > 2048) = true from decide_eq_true (by rw [ba_size']; omega)]
   exact j0t _
  ·rw [if_neg (fun e => e.elim h0 hl), show decide (((ba l).size : Int) > 2048) = false from decide_eq_false (by rw [ba_size']; omega)]
   have hle := pre27_le l
   generalize pre27 l = n at *
   have hsz : (ba (l.take n)).size = n := by rw [ba_size', List.length_take]; omega
   refine Ev.step (fun k => by rw [redact_URL.j0]) ?_
   refine Ev.if_neg (by simp) (Ev.if_pos (by omega) (Ev.if_pos (by rw [hsz, ba_size']; omega) ?_))
   rw [hsz, ba_extract, ba_size', List.take_of_length_le (show (l.drop n).length ≤ l.length - n by rw [List.length_drop]; omega)]
   have hix : strings_IndexAny.f (ba (l.drop n)) (⟨#[47, 63, 35]⟩ : ByteArray) = some (Lib.indexAny (l.drop n) stops.data.toList) := by
    unfold strings_IndexAny.f
    rw [if_pos ⟨by rw [ba_size', List.length_drop]; omega, rfl⟩, ba_data]
   rw [hix]
   have hfin := progFin l n hle (by omega)
   refine Ev.some_bind (fun _ => rfl) ?_
   rcases idx_stops (l.drop n) with ⟨i1, i2⟩ | ⟨i1, i2⟩
   ·rw [i1]
    refine Ev.if_pos (by decide) ?_
    rw [ba_size']
    rw [i2] at hfin ⊢
    exact hfin
   ·rw [i1]
    exact Ev.if_neg (by omega) hfin
def atOf (n : Nat) (p : List UInt8) : Int := match lastAt p with
 | none => -1
 | some (x, _) => ((n + x.length : Nat) : Int)
theorem atOf_64 (n : Nat) (p : List UInt8) : atOf n (p ++ [64]) = ((n + p.length : Nat) : Int) := by
 unfold atOf
 rw [lastAt_hit p [] (by simp)]
theorem atOf_other (n : Nat) (p : List UInt8) (c : UInt8) (h : c ≠ 64) : atOf n (p ++ [c]) = atOf n p := by
 unfold atOf
 rcases split_last 64 p with hm | ⟨x, y, rfl, hy⟩
 ·rw [lastAt_miss p hm, lastAt_miss _ (by simp [hm, h.symm])]
 ·rw [lastAt_hit x y hy, List.append_assoc, List.cons_append, lastAt_hit x (y ++ [c]) (by simp [hy, h.symm])]
theorem refFin (l p q pre : List UInt8) (hl : l = pre ++ p ++ q) (h : l.length ≤ 2048) (i : Int) :
  Ev (fun k => pursuivantref27_URL.j5 k (ba l) (pre.length : Int) (atOf pre.length p) i false) (ba (fin27 pre.length l p)) := by
 refine Ev.step (fun k => by rw [pursuivantref27_URL.j5]) ?_
 have hlen : l.length = pre.length + p.length + q.length := by rw [hl]; simp; omega
 refine Ev.if_neg (by simp) ?_
 unfold fin27 atOf
 rcases split_last 64 p with hm | ⟨x, y, rfl, hy⟩
 ·rw [lastAt_miss p hm]
  exact Ev.if_pos (show (-1 : Int) ≤ (pre.length : Int) by omega) (Ev.now _)
 ·rw [lastAt_hit x y hy]
  simp only
  simp only [List.length_append, List.length_cons] at hlen
  by_cases c0 : x = []
  ·subst c0
   rw [if_neg (show ¬user27 [] = true by simp [user27])]
   exact Ev.if_pos (show ((pre.length + ([] : List UInt8).length : Nat) : Int) ≤ (pre.length : Int) by simp) (Ev.now _)
  ·have hx : 0 < x.length := List.length_pos_iff.2 c0
   refine Ev.if_neg (by omega) (Ev.if_pos (by omega) (Ev.if_pos (by omega) (Ev.if_pos (by rw [ba_size']; omega) ?_)))
   simp only [Int.toNat_natCast, ba_extract]
   have e1 : (l.drop pre.length).take (pre.length + x.length - pre.length) = x := by
    rw [hl]; simp
   rw [e1]
   have hu : user27 x = (who8 x).good := by unfold user27; rw [decide_eq_false c0]; rfl
   rw [hu]
   refine Ev.bind (refGoodU (who8 x) (who_small x (by omega))) (Ev.ite (fun c => ?_) (fun c => ?_))
   ·rw [if_pos c]
    refine Ev.if_pos (by rw [ba_size']; omega) (Ev.if_pos (by rw [ba_size', List.length_take, List.length_drop]; omega) (Ev.if_pos (by omega) (Ev.if_pos ?_ ?_)))
    ·rw [show (⟨#[42]⟩ : ByteArray) = ba [42] from rfl]
     simp only [ba_app, ba_size', List.length_append, List.length_cons, List.length_nil, List.length_take, List.length_drop]
     omega
    ·rw [show (⟨#[42]⟩ : ByteArray) = ba [42] from rfl, ba_app, ba_app, List.append_assoc, List.drop_zero, Nat.sub_zero, ba_size', List.take_of_length_le (show (l.drop (pre.length + x.length)).length ≤ l.length - (pre.length + x.length) by rw [List.length_drop]; omega)]
     exact Ev.now _
   ·rw [if_neg c]; exact Ev.now _
theorem refGo27 (l pre : List UInt8) (h : l.length ≤ 2048) : ∀ (q p : List UInt8), l = pre ++ p ++ q →
  Ev (fun k => pursuivantref27_URL.l0 k (ba l) (pre.length : Int) (atOf pre.length p) ((pre.length + p.length : Nat) : Int)) (ba (fin27 pre.length l (p ++ q.takeWhile (fun c => !stop27 c)))) := by
 intro q
 induction q with
 | nil =>
  intro p hl
  have hlen : l.length = pre.length + p.length := by rw [hl]; simp
  refine Ev.step (fun k => by rw [pursuivantref27_URL.l0]) ?_
  refine Ev.if_neg (by rw [ba_size']; omega) ?_
  rw [List.takeWhile_nil, List.append_nil]
  exact refFin l p [] pre hl h _
 | cons c q ih =>
  intro p hl
  have hlen : l.length = pre.length + p.length + (q.length + 1) := by rw [hl]; simp; omega
  have hb : bt (ba l) ((pre.length + p.length : Nat) : Int) = (c.toNat : Int) := by
   have := bt_mid (pre ++ p) c q
   rw [List.length_append] at this
   rw [hl]; exact this
  have hstop : ∀ c' : UInt8, stop27 c' = true → c' = c → Ev (fun k => pursuivantref27_URL.j5 k (ba l) (pre.length : Int) (atOf pre.length p) ((pre.length + p.length : Nat) : Int) false) (ba (fin27 pre.length l (p ++ (c :: q).takeWhile (fun c => !stop27 c)))) := by
   intro c' hs e
   subst e
   rw [List.takeWhile_cons, hs]
   simpa using refFin l p (c' :: q) pre hl h _
  refine Ev.step (fun k => by rw [pursuivantref27_URL.l0]) ?_
  refine Ev.if_pos (by rw [ba_size']; omega) (Ev.if_pos (by omega) ?_)
  rw [hb]
  refine Ev.ite (fun c1 => ?_) (fun c1 => ?_)
  ·exact hstop 47 (by decide) ((c_eq c 47 (by omega)).1 c1).symm
  ·refine Ev.ite (fun c2 => ?_) (fun c2 => ?_)
   ·exact hstop 63 (by decide) ((c_eq c 63 (by omega)).1 c2).symm
   ·by_cases c3 : (c.toNat : Int) = 35
    ·rw [show ((c.toNat : Int) != 35) = false from by simp [c3]]
     exact hstop 35 (by decide) ((c_eq c 35 (by omega)).1 c3).symm
    ·rw [show ((c.toNat : Int) != 35) = true from by simpa using c3]
     have hns : stop27 c = false := decide_eq_false (fun e => by rcases e with rfl | rfl | rfl <;> simp at c1 c2 c3)
     have hn := ih (p ++ [c]) (by rw [hl]; simp)
     rw [List.takeWhile_cons, hns]
     simp only [Bool.not_false, if_true]
     rw [show p ++ c :: q.takeWhile (fun c => !stop27 c) = (p ++ [c]) ++ q.takeWhile (fun c => !stop27 c) by simp]
     rw [List.length_append, List.length_singleton, ← Nat.add_assoc] at hn
     refine Ev.step (fun k => by rw [pursuivantref27_URL.j5]) ?_
     refine Ev.if_pos rfl (Ev.if_pos (by omega) (Ev.if_pos (by rw [ba_size']; omega) ?_))
     rw [hb, wrap_nat _ (show pre.length + p.length < 9223372036854775807 by omega)]
     refine Ev.ite (fun c4 => ?_) (fun c4 => ?_)
     ·have e4 : c = 64 := (c_eq c 64 (by omega)).1 c4
      subst e4
      rw [atOf_64] at hn
      exact hn
     ·rw [atOf_other _ _ _ (fun e => c4 (by rw [e]; rfl))] at hn
      exact hn
theorem refURL (l : List UInt8) (h : l.length ≤ 1099511627776) : Ev (fun k => pursuivantref27_URL.f k (ba l)) (ba (red8 l)) := by
 have main : ∀ n : Nat, n = pre27 l → Ev (fun k => pursuivantref27_URL.j2 k (ba l) (n : Int)) (ba (red8 l)) := by
  intro n hn
  refine Ev.step (fun k => by rw [pursuivantref27_URL.j2]) ?_
  unfold red8
  refine Ev.ite (fun c => ?_) (fun c => ?_)
  ·rw [if_pos (.inl (by omega))]
   refine Ev.step (fun k => by rw [pursuivantref27_URL.j3]) ?_
   exact Ev.if_pos rfl (Ev.now _)
  ·by_cases hl : 2048 < l.length
   ·rw [if_pos (.inr hl), show decide (((ba l).size : Int) > 2048) = true from decide_eq_true (by rw [ba_size']; omega)]
    refine Ev.step (fun k => by rw [pursuivantref27_URL.j3]) ?_
    exact Ev.if_pos rfl (Ev.now _)
   ·rw [if_neg (by omega), show decide (((ba l).size : Int) > 2048) = false from decide_eq_false (by rw [ba_size']; omega)]
    refine Ev.step (fun k => by rw [pursuivantref27_URL.j3]) ?_
    refine Ev.if_neg (by simp) ?_
    rw [← hn]
    have hle : n ≤ l.length := by rw [hn]; exact pre27_le l
    have := refGo27 l (l.take n) (by omega) (l.drop n) [] (by simp)
    rw [List.length_take, Nat.min_eq_left hle] at this
    exact this
 unfold pursuivantref27_URL.f
 refine Ev.bind (refBegins l pfx2 h) ?_
 have j1 : ∀ n : Nat, ((l.map low8).take 8 ≠ pfx8 → n = pre27 l) → ((l.map low8).take 8 = pfx8 → 8 = pre27 l) → Ev (fun k => pursuivantref27_URL.j1 k (ba l) (n : Int)) (ba (red8 l)) := by
  intro n h1 h2
  refine Ev.step (fun k => by rw [pursuivantref27_URL.j1]) ?_
  refine Ev.bind (refBegins l pfx8 h) (Ev.ite (fun c => ?_) (fun c => ?_))
  ·exact main 8 (h2 (of_decide_eq_true c))
  ·exact main n (h1 (fun e => c (decide_eq_true e)))
 have j0 : ∀ n : Nat, ((l.map low8).take 7 ≠ pfx7 → (l.map low8).take 8 ≠ pfx8 → n = pre27 l) → ((l.map low8).take 7 = pfx7 → 7 = pre27 l) → ((l.map low8).take 8 = pfx8 → 8 = pre27 l) → Ev (fun k => pursuivantref27_URL.j0 k (ba l) (n : Int)) (ba (red8 l)) := by
  intro n h1 h2 h3
  refine Ev.step (fun k => by rw [pursuivantref27_URL.j0]) ?_
  refine Ev.bind (refBegins l pfx7 h) (Ev.ite (fun c => ?_) (fun c => ?_))
  ·exact j1 7 (fun _ => h2 (of_decide_eq_true c)) h3
  ·exact j1 n (h1 (fun e => c (decide_eq_true e))) h3
 -- a text begins with one of the three at most
 have n78 : (l.map low8).take 8 = pfx8 → (l.map low8).take 7 ≠ pfx7 := fun e8 e7 => by
  have := congrArg (List.take 7) e8
  rw [List.take_take, show min 7 8 = 7 from rfl, e7] at this
  exact absurd this (by decide)
 have n28 : (l.map low8).take 8 = pfx8 → (l.map low8).take 2 ≠ pfx2 := fun e8 e7 => by
  have := congrArg (List.take 2) e8
  rw [List.take_take, show min 2 8 = 2 from rfl, e7] at this
  exact absurd this (by decide)
 have n27 : (l.map low8).take 7 = pfx7 → (l.map low8).take 2 ≠ pfx2 := fun e8 e7 => by
  have := congrArg (List.take 2) e8
  rw [List.take_take, show min 2 7 = 2 from rfl, e7] at this
  exact absurd this (by decide)
 have p7 : (l.map low8).take 7 = pfx7 → 7 = pre27 l := fun e => by unfold pre27; rw [if_neg (n27 e), if_pos e]
 have p8 : (l.map low8).take 8 = pfx8 → 8 = pre27 l := fun e => by unfold pre27; rw [if_neg (n28 e), if_neg (n78 e), if_pos e]
 refine Ev.ite (fun c => ?_) (fun c => ?_)
 ·exact j0 2 (fun _ _ => by have c' : (l.map low8).take 2 = pfx2 := of_decide_eq_true c; unfold pre27; rw [if_pos c']) p7 p8
 ·exact j0 0 (fun e7 e8 => by have c' : ¬(l.map low8).take 2 = pfx2 := fun e => c (decide_eq_true e); unfold pre27; rw [if_neg c', if_neg e7, if_neg e8]) p7 p8
end Go.Proofs.YtoaleclnilbjcaaGreatDoor.Hand
