/- What package ascii and its reference compute, over lists of bytes. Conditions: at most 2^40 bytes (2^31 for List). -/
import Derived.Test.YtfibkgmbgdaeoaaGreatDoorFA1
import Derived.Test.YtfibkgmbgdaeoaaGreatDoorFP1
import Derived.Test.YtfibkgmbgdaeoaaGreatDoorFPB1
import Derived.Test.YtfibkgmbgdaeoaaGreatDoorPlain
import Derived.Test.YtfibkgmbgdaeoaaGreatDoorLow
import Derived.Test.YtfibkgmbgdaeoaaGreatDoorList
import Derived.Lib.SplitLaws
import Derived.Lib.SlTrimSet
namespace Go.Proofs.YtfibkgmbgdaeoaaGreatDoor.Hand
open Go.RowKit Go.Proofs.YtfibkgmbgdaeoaaGreatDoorW.PrintWords Go.Proofs.YtfibkgmbgdaeoaaGreatDoorW.PrintLast Go.Proofs.YtfibkgmbgdaeoaaGreatDoorW.PrintMore
set_option linter.unusedVariables false
set_option linter.unusedSimpArgs false

theorem u8_all {P : UInt8 → Bool} (h : (List.range 256).all (fun n => P (UInt8.ofNat n)) = true) (c : UInt8) : P c = true := by
 have := List.all_eq_true.1 h c.toNat (List.mem_range.2 c.toNat_lt)
 rwa [show UInt8.ofNat c.toNat = c from by simp] at this
def low8 (c : UInt8) : UInt8 := if 65 ≤ c.toNat ∧ c.toNat ≤ 90 then c + 32 else c
theorem low8_turn (c : UInt8) : turnC 65 90 32 (c.toNat : Int) = ((low8 c).toNat : Int) := of_decide_eq_true (u8_all (P := fun c => decide (turnC 65 90 32 (c.toNat : Int) = ((low8 c).toNat : Int))) (by decide +kernel) c)
theorem lowBA_ba (l : List UInt8) : lowBA (ba l) = ba (l.map low8) := by
 unfold lowBA
 rw [bytesOf, ba_data, List.map_map, ← strOfNums_bytes (l.map low8), List.map_map]
 congr 1
 exact List.map_congr_left fun c _ => low8_turn c
theorem progLower (l : List UInt8) (h : l.length ≤ 1099511627776) : ascii_Lower.f (ba l) = some (ba (l.map low8)) := by
 unfold ascii_Lower.f; rw [if_pos (by (first | omega | (simp only [ba_size', List.length_append, List.length_cons, List.length_nil]; omega) | (simp; omega) | (simp; done))), lowBA_ba]
theorem refLower_go : ∀ (q p : List UInt8) (out : List Int), p.length + q.length ≤ 1099511627776 → out.length = p.length →
  Ev (fun k => pursuivantref04_Lower.l0 k (ba (p ++ q)) out (p.length : Int)) (strOfNums (out ++ q.map fun c => ((low8 c).toNat : Int))) := by
 intro q
 induction q with
 | nil =>
  intro p out h ho
  refine Ev.step (fun k => by rw [pursuivantref04_Lower.l0]) ?_
  refine Ev.if_neg (by (first | omega | (simp only [ba_size', List.length_append, List.length_cons, List.length_nil]; omega) | (simp; omega) | (simp; done))) ?_
  simpa using Ev.now _
 | cons c q ih =>
  intro p out h ho
  simp only [List.length_cons] at h
  refine Ev.step (fun k => by rw [pursuivantref04_Lower.l0]) ?_
  refine Ev.if_pos (by (first | omega | (simp only [ba_size', List.length_append, List.length_cons, List.length_nil]; omega) | (simp; omega) | (simp; done))) (Ev.if_pos (by omega) ?_)
  have hn := ih (p ++ [c]) (out ++ [((low8 c).toNat : Int)]) (by (first | omega | (simp only [ba_size', List.length_append, List.length_cons, List.length_nil]; omega) | (simp; omega) | (simp; done))) (by (first | omega | (simp only [ba_size', List.length_append, List.length_cons, List.length_nil]; omega) | (simp; omega) | (simp; done)))
  rw [List.append_assoc, List.singleton_append, List.append_assoc, List.singleton_append, List.length_append, List.length_singleton] at hn
  simp only [bt_mid, wrap_nat _ (show p.length < 9223372036854775807 by omega)]
  have hl : out.length < 140737488355328 := by omega
  have e := low8_turn c
  unfold turnC at e
  rw [List.map_cons]
  by_cases h1 : (c.toNat : Int) ≥ 65
  ·refine Ev.if_pos h1 ?_
   by_cases h2 : (c.toNat : Int) ≤ 90
   ·refine Ev.if_pos h2 (Ev.if_pos hl ?_)
    rw [if_pos ⟨h1, h2⟩] at e
    rw [e]; exact hn
   ·refine Ev.if_neg h2 (Ev.if_pos hl ?_)
    rw [if_neg (fun h => h2 h.2)] at e
    rw [← e] at hn ⊢; exact hn
  ·refine Ev.if_neg h1 (Ev.if_pos hl ?_)
   rw [if_neg (fun h => h1 h.1)] at e
   rw [← e] at hn ⊢; exact hn
theorem refLowerE (l : List UInt8) (h : l.length ≤ 1099511627776) : Ev (fun k => pursuivantref04_Lower.f k (ba l)) (ba (l.map low8)) := by
 have := refLower_go l [] [] (by simpa using h) rfl
 unfold pursuivantref04_Lower.f
 rw [← strOfNums_bytes (l.map low8), List.map_map]
 simpa [Function.comp_def] using this
def sign8 (c : UInt8) : Bool := (48 ≤ c.toNat ∧ c.toNat ≤ 57) ∨ (65 ≤ c.toNat ∧ c.toNat ≤ 90) ∨ (97 ≤ c.toNat ∧ c.toNat ≤ 122) ∨ c = 33 ∨ (35 ≤ c.toNat ∧ c.toNat ≤ 39) ∨ c = 42 ∨ c = 43 ∨ c = 45 ∨ c = 46 ∨ (94 ≤ c.toNat ∧ c.toNat ≤ 96) ∨ c = 124 ∨ c = 126
def tok8 (l : List UInt8) : Bool := l.all sign8 && !l.isEmpty
theorem progSign (c : UInt8) : Ev (fun k => ascii_sign.f k (c.toNat : Int)) (sign8 c) :=
 Ev.of (k := 4) (ascii_sign.mono _) (of_decide_eq_true (u8_all (P := fun c => decide (ascii_sign.f 4 (c.toNat : Int) = some (sign8 c))) (by decide +kernel) c))
theorem progToken_go : ∀ (q p : List UInt8), p.length + q.length ≤ 1099511627776 →
  Ev (fun k => ascii_Token.l0 k (ba (p ++ q)) ((p ++ q).length : Int) (p.length : Int)) (q.all sign8 && !(p ++ q).isEmpty) := by
 intro q
 induction q with
 | nil =>
  intro p h
  refine Ev.step (fun k => by rw [ascii_Token.l0]) ?_
  refine Ev.if_neg (by (first | omega | (simp only [ba_size', List.length_append, List.length_cons, List.length_nil]; omega) | (simp; omega) | (simp; done))) ?_
  rw [ba_list, show (p ++ [] != ([] : List UInt8)) = ([].all sign8 && !(p ++ []).isEmpty) from by cases p <;> simp]
  exact Ev.now _
 | cons c q ih =>
  intro p h
  simp only [List.length_cons] at h
  refine Ev.step (fun k => by rw [ascii_Token.l0]) ?_
  refine Ev.if_pos (by (first | omega | (simp only [ba_size', List.length_append, List.length_cons, List.length_nil]; omega) | (simp; omega) | (simp; done))) (Ev.if_pos (by omega) (Ev.if_pos (by (first | omega | (simp only [ba_size', List.length_append, List.length_cons, List.length_nil]; omega) | (simp; omega) | (simp; done))) ?_))
  simp only [bt_mid, wrap_nat _ (show p.length < 9223372036854775807 by omega)]
  refine Ev.bind (progSign c) ?_
  have hn := ih (p ++ [c]) (by (first | omega | (simp only [ba_size', List.length_append, List.length_cons, List.length_nil]; omega) | (simp; omega) | (simp; done)))
  rw [List.append_assoc, List.singleton_append, show (p ++ [c]).length = p.length + 1 from by simp] at hn
  by_cases hs : sign8 c = true
  ·refine Ev.if_pos hs ?_
   simp only [List.all_cons, hs, Bool.true_and]
   exact hn
  ·refine Ev.if_neg hs ?_
   rw [Bool.not_eq_true] at hs
   simp only [List.all_cons, hs, Bool.false_and]
   exact Ev.now _
theorem progToken (l : List UInt8) (h : l.length ≤ 1099511627776) : Ev (fun k => ascii_Token.f k (ba l)) (tok8 l) := by
 have := progToken_go l [] (by simpa using h)
 unfold ascii_Token.f tok8
 simpa using this
theorem refSign (c : UInt8) : pursuivantref04_Sign.f (c.toNat : Int) = some (sign8 c) :=
 of_decide_eq_true (u8_all (P := fun c => decide (pursuivantref04_Sign.f (c.toNat : Int) = some (sign8 c))) (by decide +kernel) c)
theorem refToken_go : ∀ (q p : List UInt8), p.length + q.length ≤ 1099511627776 →
  Ev (fun k => pursuivantref04_Token.l0 k (ba (p ++ q)) (p.length : Int)) (q.all sign8 && !(p ++ q).isEmpty) := by
 intro q
 induction q with
 | nil =>
  intro p h
  refine Ev.step (fun k => by rw [pursuivantref04_Token.l0]) ?_
  refine Ev.if_neg (by (first | omega | (simp only [ba_size', List.length_append, List.length_cons, List.length_nil]; omega) | (simp; omega) | (simp; done))) ?_
  exact Ev.congr (fun k => by rw [ba_size']; congr 1; cases p <;> simp <;> omega) (Ev.now _)
 | cons c q ih =>
  intro p h
  simp only [List.length_cons] at h
  refine Ev.step (fun k => by rw [pursuivantref04_Token.l0]) ?_
  refine Ev.if_pos (by (first | omega | (simp only [ba_size', List.length_append, List.length_cons, List.length_nil]; omega) | (simp; omega) | (simp; done))) (Ev.if_pos (by omega) ?_)
  simp only [bt_mid, wrap_nat _ (show p.length < 9223372036854775807 by omega), refSign, Option.bind_some]
  have hn := ih (p ++ [c]) (by (first | omega | (simp only [ba_size', List.length_append, List.length_cons, List.length_nil]; omega) | (simp; omega) | (simp; done)))
  rw [List.append_assoc, List.singleton_append, show (p ++ [c]).length = p.length + 1 from by simp] at hn
  by_cases hs : sign8 c = true
  ·refine Ev.if_pos hs ?_
   simp only [List.all_cons, hs, Bool.true_and]
   exact hn
  ·refine Ev.if_neg hs ?_
   rw [Bool.not_eq_true] at hs
   simp only [List.all_cons, hs, Bool.false_and]
   exact Ev.now _
theorem refToken (l : List UInt8) (h : l.length ≤ 1099511627776) : Ev (fun k => pursuivantref04_Token.f k (ba l)) (tok8 l) := by
 have := refToken_go l [] (by simpa using h)
 unfold pursuivantref04_Token.f tok8
 simpa using this
def white8 (c : UInt8) : Bool := [32, 9].contains c
def trim8 (l : List UInt8) : List UInt8 := Lib.trimS l [32, 9]
theorem trimBA_ba (l : List UInt8) : trimBA (ba l) = ba (trim8 l) := by unfold trimBA trim8 ba; simp
def cutL (l : List UInt8) : List UInt8 := l.dropWhile white8
def cutR (l : List UInt8) : List UInt8 := (l.reverse.dropWhile white8).reverse
theorem trim8_eq (l : List UInt8) : trim8 l = cutL (cutR l) := rfl
theorem cutR_cons (c : UInt8) (l : List UInt8) : cutR (c :: l) = if cutR l = [] ∧ white8 c = true then [] else c :: cutR l := by
 unfold cutR
 rw [List.reverse_cons, List.dropWhile_append]
 by_cases h : (l.reverse.dropWhile white8) = []
 ·by_cases hc : white8 c = true
  ·simp [h, hc]
  ·simp [h, hc]
 ·have hi : (l.reverse.dropWhile white8).isEmpty = false := by simpa using h
  rw [hi]
  simp [h]
theorem cut_turn : ∀ l, cutL (cutR l) = cutR (cutL l)
 | [] => rfl
 | c :: l => by
  have ih := cut_turn l
  rw [cutR_cons]
  by_cases hc : white8 c = true
  ·rw [show cutL (c :: l) = cutL l from by simp [cutL, hc], ← ih]
   by_cases hr : cutR l = []
   ·rw [if_pos ⟨hr, hc⟩, hr]
   ·rw [if_neg (fun h => hr h.1)]
    simp [cutL, hc]
  ·rw [show cutL (c :: l) = c :: l from by simp [cutL, hc], if_neg (fun h => hc h.2), cutR_cons, if_neg (fun h => hc h.2)]
   simp [cutL, hc]
theorem cutL_cutL (l : List UInt8) : cutL (cutL l) = cutL l := by
 unfold cutL
 induction l with
 | nil => rfl
 | cons c l ih =>
  by_cases hc : white8 c = true
  ·simp [List.dropWhile_cons, hc, ih]
  ·simp [List.dropWhile_cons, hc]
theorem cutR_cutR (l : List UInt8) : cutR (cutR l) = cutR l := by
 have := cutL_cutL l.reverse
 unfold cutL at this
 unfold cutR
 rw [List.reverse_reverse, this]
theorem trim8_trim8 (l : List UInt8) : trim8 (trim8 l) = trim8 l := by
 simp only [trim8_eq]
 rw [cut_turn (cutL (cutR l)), cutL_cutL, ← cut_turn, cutR_cutR]
theorem cutL_sub (l : List UInt8) : ∀ c ∈ cutL l, c ∈ l := fun c h => (List.dropWhile_sublist _).subset h
theorem cutR_sub (l : List UInt8) : ∀ c ∈ cutR l, c ∈ l := fun c h => by
 have := (List.dropWhile_sublist white8).subset (List.mem_reverse.1 h)
 exact List.mem_reverse.1 this
theorem trim8_sub (l : List UInt8) : ∀ c ∈ trim8 l, c ∈ l := fun c h => cutR_sub l c (cutL_sub _ c h)
theorem trim8_length (l : List UInt8) : (trim8 l).length ≤ l.length := by
 rw [trim8_eq]
 have h1 := (List.dropWhile_sublist (l := cutR l) white8).length_le
 have h2 := (List.dropWhile_sublist (l := l.reverse) white8).length_le
 unfold cutL
 unfold cutR at h1 ⊢
 simp only [List.length_reverse] at *
 omega
theorem progTrim (l : List UInt8) (h : l.length ≤ 1099511627776) : ascii_Trim.f (ba l) = some (ba (trim8 l)) := by
 unfold ascii_Trim.f strings_Trim.f
 rw [if_pos ⟨by simp; omega, by decide, by decide⟩, ba_data]
 rfl
theorem refTrim_r : ∀ r : List UInt8, r.length ≤ 1099511627776 → Ev (fun k => pursuivantref04_Trim.l1 k (ba r.reverse)) (ba (cutR r.reverse)) := by
 intro r
 induction r with
 | nil =>
  intro _
  refine Ev.step (fun k => by rw [pursuivantref04_Trim.l1]) ?_
  refine Ev.if_neg (by (first | omega | (simp only [ba_size', List.length_append, List.length_cons, List.length_nil]; omega) | (simp; omega) | (simp; done))) ?_
  exact Ev.now _
 | cons c r ih =>
  intro h
  simp only [List.length_cons] at h
  have hn := ih (by omega)
  refine Ev.step (fun k => by rw [pursuivantref04_Trim.l1]) ?_
  have hs : ((ba (r.reverse ++ [c])).size : Int) = ((r.reverse.length + 1 : Nat) : Int) := by simp
  have hw : wrap64 (((r.reverse.length + 1 : Nat) : Int) - 1) = (r.reverse.length : Int) := by simp only [List.length_reverse]; rw [wrap_ok] <;> omega
  simp only [List.reverse_cons, hs, hw, bt_mid, Int.toNat_natCast]
  refine Ev.if_pos (by omega) (Ev.if_pos (by omega) (Ev.if_pos (by omega) ?_))
  have hx : (ba (r.reverse ++ [c])).extract 0 r.reverse.length = ba r.reverse := by simp
  rw [hx]
  by_cases h1 : c = 32
  ·subst h1
   refine Ev.if_pos (by decide) (Ev.if_pos (by omega) ?_)
   have e : cutR (r.reverse ++ [32]) = cutR r.reverse := by simp [cutR, white8]
   rw [e]; exact hn
  ·refine Ev.if_neg (fun h => h1 ((c_eq c 32 (by omega)).1 h)) ?_
   by_cases h2 : c = 9
   ·subst h2
    refine Ev.if_pos (by decide) (Ev.if_pos (by omega) ?_)
    have e : cutR (r.reverse ++ [9]) = cutR r.reverse := by simp [cutR, white8]
    rw [e]; exact hn
   ·refine Ev.if_neg (fun h => h2 ((c_eq c 9 (by omega)).1 h)) ?_
    have e : cutR (r.reverse ++ [c]) = r.reverse ++ [c] := by simp [cutR, white8, h1, h2]
    rw [e]; exact Ev.now _
theorem refTrim_l : ∀ l : List UInt8, l.length ≤ 1099511627776 → Ev (fun k => pursuivantref04_Trim.l0 k (ba l)) (ba (cutR (cutL l))) := by
 intro l
 have ends : ∀ l : List UInt8, l.length ≤ 1099511627776 → Ev (fun k => pursuivantref04_Trim.j1 k (ba l)) (ba (cutR l)) := by
  intro l h
  refine Ev.step (fun k => by rw [pursuivantref04_Trim.j1]) ?_
  have := refTrim_r l.reverse (by simpa using h)
  simpa using this
 induction l with
 | nil =>
  intro h
  refine Ev.step (fun k => by rw [pursuivantref04_Trim.l0]) ?_
  exact Ev.if_neg (by (first | omega | (simp only [ba_size', List.length_append, List.length_cons, List.length_nil]; omega) | (simp; omega) | (simp; done))) (ends _ h)
 | cons c l ih =>
  intro h
  have h0 := h
  simp only [List.length_cons] at h
  refine Ev.step (fun k => by rw [pursuivantref04_Trim.l0]) ?_
  refine Ev.if_pos (by (first | omega | (simp only [ba_size', List.length_append, List.length_cons, List.length_nil]; omega) | (simp; omega) | (simp; done))) (Ev.if_pos (by (first | omega | (simp only [ba_size', List.length_append, List.length_cons, List.length_nil]; omega) | (simp; omega) | (simp; done))) ?_)
  have hx : (ba (c :: l)).extract 1 (ba (c :: l)).size = ba l := by simp
  simp only [bt_zero, hx]
  by_cases h1 : c = 32
  ·subst h1
   refine Ev.if_pos (by decide) (Ev.if_pos (by (first | omega | (simp only [ba_size', List.length_append, List.length_cons, List.length_nil]; omega) | (simp; omega) | (simp; done))) ?_)
   exact ih (by omega)
  ·refine Ev.if_neg (fun h => h1 ((c_eq c 32 (by omega)).1 h)) ?_
   by_cases h2 : c = 9
   ·subst h2
    refine Ev.if_pos (by decide) (Ev.if_pos (by (first | omega | (simp only [ba_size', List.length_append, List.length_cons, List.length_nil]; omega) | (simp; omega) | (simp; done))) ?_)
    exact ih (by omega)
   ·refine Ev.if_neg (fun h => h2 ((c_eq c 9 (by omega)).1 h)) ?_
    have e : cutL (c :: l) = c :: l := by simp [cutL, white8, h1, h2]
    rw [e]; exact ends _ h0
theorem refTrim (l : List UInt8) (h : l.length ≤ 1099511627776) : Ev (fun k => pursuivantref04_Trim.f k (ba l)) (ba (trim8 l)) := by
 unfold pursuivantref04_Trim.f
 rw [trim8_eq, cut_turn]
 exact refTrim_l l h
def splitC : List UInt8 → List (List UInt8)
 | [] => [[]]
 | c :: l => if c = 44 then [] :: splitC l else match splitC l with | [] => [[c]] | x :: r => (c :: x) :: r
theorem splitC_ne (l : List UInt8) : splitC l ≠ [] := by
 cases l with
 | nil => simp [splitC]
 | cons c l =>
  unfold splitC
  split
  ·simp
  ·split <;> simp
theorem splitK_C : ∀ l, Lib.splitK [44] 0 (Lib.count l [44]) l = splitC l
 | [] => rfl
 | c :: l => by
  have ih := splitK_C l
  by_cases hc : c = 44
  ·subst hc
   rw [Lib.count_cons_eq, Nat.add_comm]
   have hix : Lib.index (44 :: l) [44] = 0 := by rw [Lib.index]; simp [List.isPrefixOf]
   rw [Lib.splitK, hix]
   simp only [splitC, if_pos, Int.toNat_zero]
   simp [ih]
  ·rw [Lib.count_cons_ne c 44 l hc]
   have hp : ([44] : List UInt8).isPrefixOf (c :: l) = false := by simp [List.isPrefixOf, Ne.symm hc]
   have hix : Lib.index (c :: l) [44] = if Lib.index l [44] == -1 then -1 else Lib.index l [44] + 1 := by rw [Lib.index, hp]; simp
   rw [splitC, if_neg hc, ← ih]
   cases Lib.count l [44] with
   | zero => rfl
   | succ m =>
    rw [Lib.splitK, Lib.splitK, hix]
    by_cases hm : Lib.index l [44] = -1
    ·simp [hm]
    ·have hge := Lib.index_ge l [44]
     have h1 : ¬ (Lib.index l [44] == -1) = true := by simpa using hm
     rw [if_neg h1, if_neg h1, if_neg (by (first | omega | (simp only [ba_size', List.length_append, List.length_cons, List.length_nil]; omega) | (simp; omega) | (simp; done)))]
     obtain ⟨j, hj⟩ : ∃ j : Nat, Lib.index l [44] = j := ⟨(Lib.index l [44]).toNat, by omega⟩
     rw [hj]
     simp only [Int.toNat_natCast, Int.toNat_natCast_add_one]
     simp
theorem map_ba (xs : List ByteArray) : (xs.map (·.data.toList)).map ba = xs := by
 rw [List.map_map]
 conv => rhs; rw [← List.map_id xs]
 refine List.map_congr_left fun x _ => ?_
 simp [ba]
theorem partsBA_ba (l : List UInt8) : partsBA (ba l) = (splitC l).map ba := by
 rw [← map_ba (partsBA (ba l))]
 congr 1
 unfold partsBA
 rw [Lib.splitB_data, ba_data, ← splitK_C]
 unfold Lib.countB
 rw [ba_data]
def list8 (l : List UInt8) : List (List UInt8) := ((splitC l).map trim8).filter (fun x => !x.isEmpty)
theorem listBA_ba (l : List UInt8) : listBA (ba l) = (list8 l).map ba := by
 unfold listBA list8
 have e : ((splitC l).map ba).map trimBA = ((splitC l).map trim8).map ba := by
  rw [List.map_map, List.map_map]
  exact List.map_congr_left fun x _ => trimBA_ba x
 rw [partsBA_ba, e, List.filter_map]
 congr 2
 funext x
 simp [emptyBA]
def splitCur (cur : List UInt8) (l : List UInt8) : List (List UInt8) := match splitC l with | [] => [cur] | x :: r => (cur ++ x) :: r
theorem splitCur_nil (cur : List UInt8) : splitCur cur [] = [cur] := by simp [splitCur, splitC]
theorem splitCur_comma (cur l : List UInt8) : splitCur cur (44 :: l) = cur :: splitCur [] l := by
 simp only [splitCur, splitC, if_pos]
 simp only [List.append_nil, List.nil_append]
 cases h : splitC l with
 | nil => exact absurd h (splitC_ne l)
 | cons x r => rfl
theorem splitCur_other (cur l : List UInt8) (c : UInt8) (hc : c ≠ 44) : splitCur cur (c :: l) = splitCur (cur ++ [c]) l := by
 simp only [splitCur, splitC, if_neg hc]
 cases h : splitC l with
 | nil => exact absurd h (splitC_ne l)
 | cons x r => simp
theorem splitC_cur (l : List UInt8) : splitC l = splitCur [] l := by
 simp only [splitCur]
 cases h : splitC l with
 | nil => exact absurd h (splitC_ne l)
 | cons x r => rfl
theorem splitC_mem : ∀ (l x : List UInt8), x ∈ splitC l → 44 ∉ x ∧ ∀ c ∈ x, c ∈ l
 | [], x, h => by simp [splitC] at h; subst h; simp
 | c :: l, x, h => by
  have ih := splitC_mem l
  rw [splitC] at h
  split at h
  ·rcases List.mem_cons.1 h with rfl | h
   ·simp
   ·exact ⟨(ih x h).1, fun d hd => List.mem_cons_of_mem _ ((ih x h).2 d hd)⟩
  ·rename_i hc
   split at h
   ·rename_i e; exact absurd e (splitC_ne l)
   ·rename_i y r e
    rcases List.mem_cons.1 h with rfl | h
    ·have h1 := ih y (by rw [e]; simp)
     refine ⟨?_, ?_⟩
     ·rw [List.mem_cons, not_or]; exact ⟨Ne.symm hc, h1.1⟩
     ·intro d hd
      rcases List.mem_cons.1 hd with rfl | hd
      ·simp
      ·exact List.mem_cons_of_mem _ (h1.2 d hd)
    ·have h1 := ih x (by rw [e]; exact List.mem_cons_of_mem _ h)
     exact ⟨h1.1, fun d hd => List.mem_cons_of_mem _ (h1.2 d hd)⟩
theorem splitC_size : ∀ (l x : List UInt8), x ∈ splitC l → x.length ≤ l.length
 | [], x, h => by simp [splitC] at h; subst h; simp
 | c :: l, x, h => by
  have ih := splitC_size l
  rw [splitC] at h
  split at h
  ·rcases List.mem_cons.1 h with rfl | h
   ·simp
   ·have := ih x h; simp; omega
  ·split at h
   ·rename_i e; exact absurd e (splitC_ne l)
   ·rename_i y r e
    rcases List.mem_cons.1 h with rfl | h
    ·have := ih y (by rw [e]; simp)
     simp; omega
    ·have := ih x (by rw [e]; exact List.mem_cons_of_mem _ h)
     simp; omega
theorem list8_mem {l x : List UInt8} (h : x ∈ list8 l) : x ≠ [] ∧ 44 ∉ x ∧ trim8 x = x ∧ (∀ c ∈ x, c ∈ l) ∧ x.length ≤ l.length := by
 obtain ⟨h1, h2⟩ := List.mem_filter.1 h
 obtain ⟨y, hy, rfl⟩ := List.mem_map.1 h1
 have h3 := splitC_mem l y hy
 have h4 := splitC_size l y hy
 refine ⟨by simpa using h2, fun e => h3.1 (trim8_sub y _ e), trim8_trim8 y, fun c hc => h3.2 c (trim8_sub y c hc), Nat.le_trans (trim8_length y) h4⟩
theorem refList_go : ∀ (q p cur : List UInt8) (out : List (List UInt8)), p.length + cur.length + q.length ≤ 1099511627776 → out.length ≤ p.length + 1 →
  Ev (fun k => pursuivantref04_List.l0 k (ba (p ++ cur ++ q)) (out.map ba) (p.length : Int) ((p ++ cur).length : Int)) ((out ++ ((splitCur cur q).map trim8).filter (fun x => !x.isEmpty)).map ba) := by
 have place : ∀ (p cur q : List UInt8), ((ba (p ++ cur ++ q)).extract (p.length : Int).toNat ((p ++ cur).length : Int).toNat) = ba cur := by
  intro p cur q
  rw [Int.toNat_natCast, Int.toNat_natCast, ba_extract, List.append_assoc, List.drop_left, List.length_append, Nat.add_sub_cancel_left, List.take_left]
 have cut : ∀ (p cur q : List UInt8) (out : List (List UInt8)) (R : List ByteArray), p.length + cur.length + q.length ≤ 1099511627776 → out.length ≤ p.length + 1 →
   (∀ out' : List (List UInt8), out'.length ≤ p.length + cur.length + 2 → out' = out ++ ([cur].map trim8).filter (fun x => !x.isEmpty) → Ev (fun k => pursuivantref04_List.l0 k (ba (p ++ cur ++ q)) (out'.map ba) (wrap64 (((p ++ cur).length : Int) + 1)) (wrap64 (((p ++ cur).length : Int) + 1))) R) →
   Ev (fun k => pursuivantref04_List.j1 k (ba (p ++ cur ++ q)) (out.map ba) (p.length : Int) ((p ++ cur).length : Int) false) R := by
  intro p cur q out R h ho hn
  refine Ev.step (fun k => by rw [pursuivantref04_List.j1]) ?_
  refine Ev.if_neg (by (first | omega | (simp only [ba_size', List.length_append, List.length_cons, List.length_nil]; omega) | (simp; omega) | (simp; done))) (Ev.if_pos (by omega) (Ev.if_pos (by (first | omega | (simp only [ba_size', List.length_append, List.length_cons, List.length_nil]; omega) | (simp; omega) | (simp; done))) (Ev.if_pos (by (first | omega | (simp only [ba_size', List.length_append, List.length_cons, List.length_nil]; omega) | (simp; omega) | (simp; done))) ?_)))
  rw [place]
  refine Ev.bind (refTrim cur (by omega)) ?_
  rw [ba_list]
  by_cases he : trim8 cur = []
  ·refine Ev.if_pos he (hn out (by omega) (by simp [he]))
  ·refine Ev.if_neg he (Ev.if_pos (by (first | omega | (simp only [ba_size', List.length_append, List.length_cons, List.length_nil]; omega) | (simp; omega) | (simp; done))) ?_)
   have := hn (out ++ [trim8 cur]) (by (first | omega | (simp only [ba_size', List.length_append, List.length_cons, List.length_nil]; omega) | (simp; omega) | (simp; done))) (by simp [he])
   simpa using this
 intro q
 induction q with
 | nil =>
  intro p cur out h ho
  simp only [List.length_nil] at h
  refine Ev.step (fun k => by rw [pursuivantref04_List.l0]) ?_
  refine Ev.if_pos (by (first | omega | (simp only [ba_size', List.length_append, List.length_cons, List.length_nil]; omega) | (simp; omega) | (simp; done))) (Ev.if_neg (by (first | omega | (simp only [ba_size', List.length_append, List.length_cons, List.length_nil]; omega) | (simp; omega) | (simp; done))) ?_)
  refine cut p cur [] out _ (by (first | omega | (simp only [ba_size', List.length_append, List.length_cons, List.length_nil]; omega) | (simp; omega) | (simp; done))) ho fun out' ho' e => ?_
  refine Ev.step (fun k => by rw [pursuivantref04_List.l0]) ?_
  refine Ev.if_neg ?_ ?_
  ·rw [wrap_nat _ (by (first | omega | (simp only [ba_size', List.length_append, List.length_cons, List.length_nil]; omega) | (simp; omega) | (simp; done)))]; (first | omega | (simp only [ba_size', List.length_append, List.length_cons, List.length_nil]; omega) | (simp; omega) | (simp; done))
  ·rw [splitCur_nil, ← e]; exact Ev.now _
 | cons c q ih =>
  intro p cur out h ho
  simp only [List.length_cons] at h
  refine Ev.step (fun k => by rw [pursuivantref04_List.l0]) ?_
  refine Ev.if_pos (by (first | omega | (simp only [ba_size', List.length_append, List.length_cons, List.length_nil]; omega) | (simp; omega) | (simp; done))) (Ev.if_pos (by (first | omega | (simp only [ba_size', List.length_append, List.length_cons, List.length_nil]; omega) | (simp; omega) | (simp; done))) (Ev.if_pos (by omega) ?_))
  simp only [bt_mid]
  have hw := wrap_nat (p ++ cur).length (by (first | omega | (simp only [ba_size', List.length_append, List.length_cons, List.length_nil]; omega) | (simp; omega) | (simp; done)))
  by_cases hc : c = 44
  ·subst hc
   rw [show (((44 : UInt8).toNat : Int) != 44) = false from by decide]
   refine cut p cur (44 :: q) out _ (by (first | omega | (simp only [ba_size', List.length_append, List.length_cons, List.length_nil]; omega) | (simp; omega) | (simp; done))) ho fun out' ho' e => ?_
   rw [hw, splitCur_comma, List.map_cons, List.filter_cons]
   have := ih (p ++ cur ++ [44]) [] out' (by (first | omega | (simp only [ba_size', List.length_append, List.length_cons, List.length_nil]; omega) | (simp; omega) | (simp; done))) (by (first | omega | (simp only [ba_size', List.length_append, List.length_cons, List.length_nil]; omega) | (simp; omega) | (simp; done)))
   rw [e] at this ⊢
   simp only [List.append_nil, List.append_assoc, List.singleton_append, List.cons_append, List.nil_append] at this ⊢
   by_cases he : (trim8 cur).isEmpty = true
   ·simpa [he, Nat.add_assoc] using this
   ·simpa [he, Nat.add_assoc] using this
  ·rw [show ((c.toNat : Int) != 44) = true from by simp only [bne_iff_ne]; exact fun h => hc ((c_eq c 44 (by omega)).1 h)]
   refine Ev.step (fun k => by rw [pursuivantref04_List.j1]) ?_
   refine Ev.if_pos rfl ?_
   rw [hw, splitCur_other _ _ _ hc]
   have := ih p (cur ++ [c]) out (by (first | omega | (simp only [ba_size', List.length_append, List.length_cons, List.length_nil]; omega) | (simp; omega) | (simp; done))) ho
   simp only [List.append_assoc, List.singleton_append, List.cons_append, List.nil_append, List.length_append, List.length_singleton] at this ⊢
   simpa [Nat.add_assoc] using this
theorem refList (l : List UInt8) (h : l.length ≤ 1099511627776) : Ev (fun k => pursuivantref04_List.f k (ba l)) ((list8 l).map ba) := by
 have := refList_go l [] [] [] (by simpa using h) (by simp)
 unfold pursuivantref04_List.f list8
 rw [splitC_cur]
 simpa using this
theorem refSame_go (xs : List (List UInt8)) : ∀ (q p : List (List UInt8)), xs = p ++ q → xs.length ≤ 1099511627776 →
  Ev (fun k => pursuivantref04_Same.l0 k (xs.map ba) (xs.map ba) (p.length : Int)) true := by
 intro q
 induction q with
 | nil =>
  intro p e h
  refine Ev.step (fun k => by rw [pursuivantref04_Same.l0]) ?_
  exact Ev.if_neg (by rw [e]; simp) (Ev.now _)
 | cons c q ih =>
  intro p e h
  have hl : p.length < xs.length := by rw [e]; simp
  refine Ev.step (fun k => by rw [pursuivantref04_Same.l0]) ?_
  refine Ev.if_pos (by (first | omega | (simp only [ba_size', List.length_append, List.length_cons, List.length_nil]; omega) | (simp; omega) | (simp; done))) (Ev.if_pos (by omega) (Ev.if_pos (by (first | omega | (simp only [ba_size', List.length_append, List.length_cons, List.length_nil]; omega) | (simp; omega) | (simp; done))) (Ev.if_pos rfl ?_)))
  rw [wrap_nat _ (by omega)]
  have := ih (p ++ [c]) (by rw [e]; simp) h
  simpa using this
theorem refSame (xs : List (List UInt8)) (h : xs.length ≤ 1099511627776) : Ev (fun k => pursuivantref04_Same.f k (xs.map ba) (xs.map ba)) true := by
 unfold pursuivantref04_Same.f
 exact Ev.if_pos rfl (refSame_go xs xs [] rfl h)
end Go.Proofs.YtfibkgmbgdaeoaaGreatDoor.Hand
