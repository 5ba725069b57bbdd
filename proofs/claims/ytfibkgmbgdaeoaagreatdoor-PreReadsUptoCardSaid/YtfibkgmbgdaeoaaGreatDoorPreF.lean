/- What law 14 needs of head, cors and safe in plain Lean: Get, Same and Check by the program and by the document. Conditions: headers of at most 2^40 bytes together. -/
import Derived.Test.YtfibkgmbgdaeoaaGreatDoorSafeS
import Derived.Test.YtfibkgmbgdaeoaaGreatDoorFY2
import Derived.Test.YtfibkgmbgdaeoaaGreatDoorOpens
namespace Go.Proofs.YtfibkgmbgdaeoaaGreatDoor.Hand
open Go.RowKit Go.Proofs.YtfibkgmbgdaeoaaGreatDoorW.PrintWords Go.Proofs.YtfibkgmbgdaeoaaGreatDoorW.PrintLast Go.Proofs.YtfibkgmbgdaeoaaGreatDoorW.PrintMore
set_option linter.unusedVariables false
set_option linter.unusedSimpArgs false

def alikeB (low : ByteArray) (x : S45) : Bool := (lowBA x.f0).toList == low.toList
theorem rd_mid (p q : List S45) (x : S45) : rd_T45 (p ++ x :: q) (p.length : Int) = x := by simp [rd_T45, List.getD_eq_getElem?_getD]
theorem refAlike (a b : ByteArray) (ha : a.size ≤ 1099511627776) (hb : b.size ≤ 1099511627776) : Ev (fun k => pursuivantref09_Alike.f k a b) ((lowBA a).toList == (lowBA b).toList) := by
 obtain ⟨a, rfl⟩ := ba_of a
 obtain ⟨b, rfl⟩ := ba_of b
 rw [ba_size'] at ha hb
 unfold pursuivantref09_Alike.f
 rw [lowBA_ba, lowBA_ba]
 exact Ev.bind (refLowerE a ha) (Ev.bind (refLowerE b hb) (Ev.now _))
theorem refAlikeB (x : S45) (b : ByteArray) (ha : x.f0.size ≤ 1099511627776) (hb : b.size ≤ 1099511627776) : Ev (fun k => pursuivantref09_Alike.f k x.f0 b) (alikeB (lowBA b) x) := refAlike _ _ ha hb
theorem join_snoc (xs : List (List UInt8)) (x sep : List UInt8) : Lib.join (xs ++ [x]) sep = if xs = [] then x else Lib.join xs sep ++ sep ++ x := by
 cases xs with
 | nil => simp [Lib.join_one]
 | cons y r => rw [List.cons_append, Lib.join_cons, Lib.join_cons, if_neg (by simp)]; simp [Lib.joinTail]
def getBA (nm : ByteArray) (l : List S45) : ByteArray := ba (Lib.join ((getV nm l).map (·.data.toList)) [44, 32])
theorem getV_app (nm : ByteArray) (p : List S45) (x : S45) : getV nm (p ++ [x]) = if alikeB (lowBA nm) x = true then getV nm p ++ [x.f1] else getV nm p := by
 unfold getV
 rw [List.filter_append]
 by_cases h : alikeB (lowBA nm) x = true
 ·rw [if_pos h, List.map_append]
  congr 1
  have h' : ((lowBA x.f0).toList == (lowBA nm).toList) = true := h
  simp [List.filter_cons, h']
 ·rw [if_neg h]
  have h' : ¬((lowBA x.f0).toList == (lowBA nm).toList) = true := h
  simp [List.filter_cons, h']
theorem refGet_go (nm : ByteArray) (hnm : nm.size ≤ 1099511627776) : ∀ (q p : List S45), hdrSum (p ++ q) ≤ 1099511627776 →
  Ev (fun k => pursuivantref09_Get.l0 k (p ++ q) nm (getBA nm p) (decide (0 < (getV nm p).length)) (p.length : Int)) (getBA nm (p ++ q), decide (0 < (getV nm (p ++ q)).length)) := by
 intro q
 induction q with
 | nil =>
  intro p hs
  refine Ev.step (fun k => by rw [pursuivantref09_Get.l0]) ?_
  refine Ev.if_neg (by simp) ?_
  rw [List.append_nil]; exact Ev.now _
 | cons x q ih =>
  intro p hs
  have hlen := hdrSum_length (p ++ x :: q)
  have hm := hdrSum_mem (l := p ++ x :: q) (x := x) (by simp)
  have hpl : p.length < (p ++ x :: q).length := by simp
  have hJ := getV_join nm p
  have hJ2 := hdrSum_take (p ++ x :: q) p.length
  rw [List.take_left] at hJ2
  have hbs : (getBA nm p).size = (Lib.join ((getV nm p).map (·.data.toList)) [44, 32]).length := by unfold getBA; rw [ba_size']
  refine Ev.step (fun k => by rw [pursuivantref09_Get.l0]) ?_
  refine Ev.if_pos (by omega) (Ev.if_pos (by omega) ?_)
  simp only [rd_mid, wrap_nat _ (show p.length < 9223372036854775807 by omega)]
  have hn := ih (p ++ [x]) (by rw [List.append_assoc, List.singleton_append]; exact hs)
  rw [List.append_assoc, List.singleton_append, show (p ++ [x]).length = p.length + 1 from by simp] at hn
  refine Ev.bind (refAlikeB x nm (by omega) hnm) ?_
  unfold getBA at hn hbs ⊢
  rw [getV_app] at hn
  by_cases ha : alikeB (lowBA nm) x = true
  ·refine Ev.if_pos ha ?_
   rw [if_pos ha] at hn
   rw [List.map_append, List.map_cons, List.map_nil, join_snoc] at hn
   rw [show decide (0 < (getV nm p ++ [x.f1]).length) = true from by simp] at hn
   obtain ⟨v, hv⟩ := ba_of x.f1
   rw [hv, ba_data] at hn
   rw [hv, ba_size'] at hm
   rw [hv]
   by_cases h0 : getV nm p = []
   ·rw [h0] at hn ⊢
    refine Ev.if_neg (by simp) (Ev.if_pos (by simp [Lib.join_nil]; omega) ?_)
    rw [if_pos (by simp)] at hn
    rw [ba_app]
    exact hn
   ·have hpos : decide (0 < (getV nm p).length) = true := decide_eq_true (List.length_pos_iff.2 h0)
    rw [if_neg (by simpa using h0)] at hn
    rw [show (⟨#[44, 32]⟩ : ByteArray) = ba [44, 32] from rfl, ba_app, ba_app]
    refine Ev.if_pos hpos (Ev.if_pos (by omega) (Ev.if_pos (by rw [ba_size', ba_size', List.length_append]; simp only [List.length_cons, List.length_nil]; omega) hn))
  ·refine Ev.if_neg ha ?_
   rw [if_neg ha] at hn
   exact hn
theorem refGet (l : List S45) (nm : ByteArray) (hs : hdrSum l ≤ 1099511627776) (hnm : nm.size ≤ 1099511627776) : Ev (fun k => pursuivantref09_Get.f k l nm) (getBA nm l, decide (0 < (getV nm l).length)) := by
 have := refGet_go nm hnm l [] hs
 unfold pursuivantref09_Get.f
 have e0 : getBA nm [] = (⟨#[]⟩ : ByteArray) := rfl
 rw [e0] at this
 exact this
theorem progGet (l : List S45) (nm : ByteArray) (hs : hdrSum l + nm.size ≤ 1099511627776) : head_Get.f l nm = some (getBA nm l, decide (0 < (getV nm l).length)) := by
 unfold head_Get.f
 rw [if_pos hs]; rfl
def acao : ByteArray := ⟨#[97, 99, 99, 101, 115, 115, 45, 99, 111, 110, 116, 114, 111, 108, 45, 97, 108, 108, 111, 119, 45, 111, 114, 105, 103, 105, 110]⟩
def acac : ByteArray := ⟨#[97, 99, 99, 101, 115, 115, 45, 99, 111, 110, 116, 114, 111, 108, 45, 97, 108, 108, 111, 119, 45, 99, 114, 101, 100, 101, 110, 116, 105, 97, 108, 115]⟩
def chk (l : List S45) (a1 : ByteArray) (a2 : Int) : Bool :=
 decide (0 < (getV acao l).length) && (if a2 = 3 then decide ((getBA acao l).toList = a1.toList) && ((getBA acac l).toList == [116, 114, 117, 101]) else decide ((getBA acao l).toList = [42]) || ((getBA acao l).toList == a1.toList))
theorem check_chk (l : List S45) (a1 : ByteArray) (a2 : Int) (hs : hdrSum l ≤ 1099511627000) : cors_Check.f l a1 a2 = some (chk l a1 a2) := by
 unfold cors_Check.f
 have e1 := progGet l acao (by simp [acao, ByteArray.size]; omega)
 have e2 := progGet l acac (by simp [acac, ByteArray.size]; omega)
 unfold acao at e1
 unfold acac at e2
 rw [e1, e2]
 simp only [Option.bind_some]
 unfold chk acao acac
 by_cases hb : decide (0 < (getV ⟨#[97, 99, 99, 101, 115, 115, 45, 99, 111, 110, 116, 114, 111, 108, 45, 97, 108, 108, 111, 119, 45, 111, 114, 105, 103, 105, 110]⟩ l).length) = true
 ·rw [if_pos hb, hb, Bool.true_and]
  by_cases h3 : a2 = 3
  ·rw [if_pos h3, if_pos h3]
   split <;> rename_i h <;> simp [h]
  ·rw [if_neg h3, if_neg h3]
   split <;> rename_i h <;> simp [h]
 ·rw [if_neg hb, Bool.eq_false_iff.2 hb, Bool.false_and]
theorem hdrSum_sz (l : List S45) : (l.map sz45).sum = hdrSum l := by
 unfold hdrSum
 exact congrArg List.sum (List.map_congr_left fun x _ => by simp only [sz45]; omega)
theorem few_some {α : Type} (l : List α) : (if (l.length : Int) > 30 then (if 30 ≤ (l.length : Int) then some (l.take 30) else none) else some l) = some (l.take 30) := by
 by_cases h : (l.length : Int) > 30
 ·rw [if_pos h, if_pos (by omega)]
 ·rw [if_neg h, List.take_of_length_le (by omega)]
theorem refCheck (l : List S45) (a1 : ByteArray) (a2 : Int) (hs : hdrSum l ≤ 1099511627000) : Ev (fun k => pursuivantref13_Check.f k l a1 a2) (chk l a1 a2) := by
 have e1 := refGet l acao (by omega) (by simp [acao, ByteArray.size])
 have e2 := refGet l acac (by omega) (by simp [acac, ByteArray.size])
 unfold pursuivantref13_Check.f
 refine Ev.bind e1 ?_
 have hj : ∀ b, (if b = true then true else (decide ((getBA acao l).toList = a1.toList) && (if a2 = 3 then (getBA acac l).toList == [116, 114, 117, 101] else true))) = (chk l a1 a2) ∨ decide (0 < (getV acao l).length) = false →
   decide (0 < (getV acao l).length) = true → Ev (fun k => pursuivantref13_Check.j0 k l a1 a2 (getBA acao l) b) (chk l a1 a2) := by
  intro b h hp
  replace h := h.resolve_right (by rw [hp]; simp)
  rw [← h]
  refine Ev.step (fun k => by rw [pursuivantref13_Check.j0]) ?_
  by_cases hb : b = true
  ·rw [if_pos hb]; exact Ev.if_pos hb (Ev.now _)
  ·rw [if_neg hb]
   refine Ev.if_neg hb ?_
   by_cases he : (getBA acao l).toList = a1.toList
   ·refine Ev.if_pos he ?_
    by_cases h3 : a2 = 3
    ·refine Ev.if_pos h3 (Ev.bind e2 ?_)
     rw [if_pos h3, decide_eq_true he, Bool.true_and]
     exact Ev.now _
    ·refine Ev.if_neg h3 ?_
     rw [if_neg h3, decide_eq_true he]
     exact Ev.now _
   ·refine Ev.if_neg he ?_
    rw [decide_eq_false he, Bool.false_and]
    exact Ev.now _
 by_cases hp : decide (0 < (getV acao l).length) = true
 ·refine Ev.if_pos hp ?_
  by_cases hs : (getBA acao l).toList = [42]
  ·refine Ev.if_pos hs (hj _ (Or.inl ?_) hp)
   unfold chk
   rw [hp, Bool.true_and]
   by_cases h3 : a2 = 3
   ·rw [if_pos h3, if_pos h3, if_neg (by simp [h3])]
   ·rw [if_neg h3, if_neg h3, if_pos (by simpa using h3), decide_eq_true hs, Bool.true_or]
  ·refine Ev.if_neg hs (hj _ (Or.inl ?_) hp)
   unfold chk
   rw [hp, Bool.true_and, if_neg (by simp)]
   by_cases h3 : a2 = 3
   ·rw [if_pos h3, if_pos h3]
   ·rw [if_neg h3, if_neg h3, decide_eq_false hs, Bool.false_or, Bool.and_true]
    by_cases he : (getBA acao l).toList = a1.toList <;> simp [he]
 ·refine Ev.if_neg hp ?_
  unfold chk
  rw [Bool.eq_false_iff.2 hp, Bool.false_and]
  exact Ev.now _
end Go.Proofs.YtfibkgmbgdaeoaaGreatDoor.Hand
