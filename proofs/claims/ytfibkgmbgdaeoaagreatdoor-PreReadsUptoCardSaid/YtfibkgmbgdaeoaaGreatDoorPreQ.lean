/- Law 14 in plain Lean: what Read and Lets say by the program. Condition: headers of at most 2^20 bytes together. -/
import Derived.Test.YtfibkgmbgdaeoaaGreatDoorPreP
namespace Go.Proofs.YtfibkgmbgdaeoaaGreatDoor.Hand
open Go.RowKit Go.Proofs.YtfibkgmbgdaeoaaGreatDoorW.PrintWords Go.Proofs.YtfibkgmbgdaeoaaGreatDoorW.PrintLast Go.Proofs.YtfibkgmbgdaeoaaGreatDoorW.PrintMore
set_option linter.unusedVariables false
set_option linter.unusedSimpArgs false

def acam : ByteArray := ⟨#[97, 99, 99, 101, 115, 115, 45, 99, 111, 110, 116, 114, 111, 108, 45, 97, 108, 108, 111, 119, 45, 109, 101, 116, 104, 111, 100, 115]⟩
def acah : ByteArray := ⟨#[97, 99, 99, 101, 115, 115, 45, 99, 111, 110, 116, 114, 111, 108, 45, 97, 108, 108, 111, 119, 45, 104, 101, 97, 100, 101, 114, 115]⟩
def acma : ByteArray := ⟨#[97, 99, 99, 101, 115, 115, 45, 99, 111, 110, 116, 114, 111, 108, 45, 109, 97, 120, 45, 97, 103, 101]⟩
def readOk (st : Int) (l : List Hd) (frm : ByteArray) (cred : Int) : Bool :=
 decide (200 ≤ st) && decide (st ≤ 299) && chk l frm cred && (listBA (getBA acam l)).all tokB && (listBA (getBA acah l)).all tokB
def readB (st : Int) (l : List Hd) (frm : ByteArray) (cred : Int) : List ByteArray × List ByteArray × Int × Bool :=
 if readOk st l frm cred = true then (listBA (getBA acam l), (listBA (getBA acah l)).map lowBA, ageOf (getBA acma l), true) else ([], [], 0, false)
theorem getBA_size (nm : ByteArray) (l : List Hd) : (getBA nm l).size ≤ hdrSum l := by
 unfold getBA
 rw [ba_size']
 exact getV_join nm l
theorem listBA_length (s : ByteArray) : (listBA s).length ≤ s.size + 1 := by
 refine Nat.le_trans (List.length_filter_le _ _) ?_
 rw [List.length_map]
 exact partsBA_size s
theorem progRead (st : Int) (l : List Hd) (body frm : ByteArray) (cred : Int) (hs : hdrSum l ≤ 1048576) : pre_Read.f st l body frm cred = some (readB st l frm cred) := by
 have h1 := getBA_size acam l
 have h2 := getBA_size acah l
 have h3 := getBA_size acma l
 have e1 : tokF l acam = some (listBA (getBA acam l), (listBA (getBA acam l)).all tokB) := by
  unfold tokF
  rw [progGet l acam (by simp [acam, ByteArray.size]; omega), Option.bind_some, if_pos (by show (getBA acam l).size < _; omega)]
 have e2 : tokF l acah = some (listBA (getBA acah l), (listBA (getBA acah l)).all tokB) := by
  unfold tokF
  rw [progGet l acah (by simp [acah, ByteArray.size]; omega), Option.bind_some, if_pos (by show (getBA acah l).size < _; omega)]
 have e3 : ageF l = some (ageOf (getBA acma l)) := by
  unfold ageF
  have := progGet l acma (by simp [acma, ByteArray.size]; omega)
  unfold acma at this h3
  rw [this, Option.bind_some, if_pos (by show (getBA _ l).size ≤ _; omega)]
  rfl
 unfold acam at e1
 unfold acah at e2
 unfold pre_Read.f readB readOk
 by_cases c1 : st < 200
 ·rw [if_pos c1, decide_eq_false (show ¬200 ≤ st by omega)]; rfl
 rw [if_neg c1, decide_eq_true (show 200 ≤ st by omega), Bool.true_and]
 by_cases c2 : 299 < st
 ·rw [if_pos c2, decide_eq_false (show ¬st ≤ 299 by omega)]; rfl
 rw [if_neg c2, decide_eq_true (show st ≤ 299 by omega), Bool.true_and, check_chk l frm cred (by omega), Option.bind_some]
 by_cases c3 : chk l frm cred = true
 ·rw [if_pos c3, c3, Bool.true_and, e1, Option.bind_some, e2, Option.bind_some, e3]
  unfold acam acah
  cases (listBA (getBA ⟨#[97, 99, 99, 101, 115, 115, 45, 99, 111, 110, 116, 114, 111, 108, 45, 97, 108, 108, 111, 119, 45, 109, 101, 116, 104, 111, 100, 115]⟩ l)).all tokB with
  | false => rfl
  | true =>
   cases (listBA (getBA ⟨#[97, 99, 99, 101, 115, 115, 45, 99, 111, 110, 116, 114, 111, 108, 45, 97, 108, 108, 111, 119, 45, 104, 101, 97, 100, 101, 114, 115]⟩ l)).all tokB with
   | false => rfl
   | true => rfl
 ·rw [if_neg c3, Bool.eq_false_iff.2 c3]; rfl
theorem readB_len (st : Int) (l : List Hd) (frm : ByteArray) (cred : Int) (hs : hdrSum l ≤ 1048576) : (readB st l frm cred).1.length ≤ 1048577 ∧ (readB st l frm cred).2.1.length ≤ 1048577 := by
 have h1 := getBA_size acam l
 have h2 := getBA_size acah l
 have h3 := listBA_length (getBA acam l)
 have h4 := listBA_length (getBA acah l)
 unfold readB
 split
 ·refine ⟨by show (listBA (getBA acam l)).length ≤ _; omega, ?_⟩
  show ((listBA (getBA acah l)).map lowBA).length ≤ _
  rw [List.length_map]
  omega
 ·exact ⟨by simp, by simp⟩
theorem simpleB_8 (m : Tx) : simpleB (ba m) = simple8 m := Option.some.inj ((progSimpB (ba m)).symm.trans (progSimple m))
theorem progLets (m h : List ByteArray) (age : Int) (method : ByteArray) (names : List ByteArray) (cred : Int) (h1 : m.length ≤ 1048577) (h2 : h.length ≤ 1048577) : pre_Answer_Lets.f m h age method names cred = some (letsB m h method names cred) := if_pos ⟨by omega, by omega⟩
end Go.Proofs.YtfibkgmbgdaeoaaGreatDoor.Hand
