/- How the laws' arguments open: each type's kind, size and well-formedness. No condition. -/
import Derived.Test.YtfibkgmbgdaeoaaGreatDoorOpen
import Derived.Test.YtfibkgmbgdaeoaaGreatDoorK
import Derived.KernelRfl
import Derived.Test.YtfibkgmbgdaeoaaGreatDoorSafeS
import Derived.Test.YtfibkgmbgdaeoaaGreatDoorFY2
namespace Go.Proofs.YtfibkgmbgdaeoaaGreatDoor.Hand
open Go.RowKit Go.Proofs.YtfibkgmbgdaeoaaGreatDoorW.PrintWords
set_option linter.unusedVariables false
theorem opens9 : Opens Tryz.prog 9 Kd.string (fun s : ByteArray => s.size + 1) (fun _ => True) := Opens.string Tryz.underlying9 (by kernel_rfl)
def sz45 (x : S45) : Nat := ((fun s : ByteArray => s.size + 1) x.f0 + (fun s : ByteArray => s.size + 1) x.f1) + 1
def wf45 (x : S45) : Prop := ((fun _ => True) x.f0 ∧ (fun _ => True) x.f1)
theorem opens45 : Opens Tryz.prog 45 k45 sz45 wf45 := Opens.struct Tryz.underlying45 (by kernel_rfl) (OpensF.cons rfl opens9 (OpensF.one rfl opens9)) (fun x : S45 => (x.f0, x.f1)) (fun p => ⟨p.1, p.2⟩) (fun _ => rfl)
theorem opens22 : Opens Tryz.prog 22 (Kd.slice 45 k45) (fun l => (l.map sz45).sum + 1) (fun l => ∀ x ∈ l, wf45 x) := Opens.slice Tryz.underlying22 (by kernel_rfl) opens45
theorem opens3 : Opens Tryz.prog 3 (Kd.int .i64) (fun _ => 1) (fun n => (Lit.int .i64 n).wf = true) := Opens.int Tryz.underlying3 (by kernel_rfl)
def sz30 (x : S30) : Nat := ((fun _ => 1) x.f0 + ((fun l => (l.map sz45).sum + 1) x.f1 + (fun s : ByteArray => s.size + 1) x.f2)) + 1
def wf30 (x : S30) : Prop := ((fun n => (Lit.int .i64 n).wf = true) x.f0 ∧ ((fun l => ∀ x ∈ l, wf45 x) x.f1 ∧ (fun _ => True) x.f2))
theorem opens30 : Opens Tryz.prog 30 k30 sz30 wf30 := Opens.struct Tryz.underlying30 (by kernel_rfl) (OpensF.cons rfl opens3 (OpensF.cons rfl opens22 (OpensF.one rfl opens9))) (fun x : S30 => (x.f0, x.f1, x.f2)) (fun p => ⟨p.1, p.2.1, p.2.2⟩) (fun _ => rfl)
end Go.Proofs.YtfibkgmbgdaeoaaGreatDoor.Hand

/- What law 14 needs of head, cors and safe in plain Lean: Get, Same and Check by the program and by the document. Conditions: headers of at most 2^40 bytes together. -/
namespace Go.Proofs.YtfibkgmbgdaeoaaGreatDoor.Hand
open Go.RowKit Go.Proofs.YtfibkgmbgdaeoaaGreatDoorW.PrintWords Go.Proofs.YtfibkgmbgdaeoaaGreatDoorW.PrintLast Go.Proofs.YtfibkgmbgdaeoaaGreatDoorW.PrintMore
set_option linter.unusedVariables false
set_option linter.unusedSimpArgs false

def getBA (nm : ByteArray) (l : List S45) : ByteArray := ba (Lib.join ((getV nm l).map (·.data.toList)) [44, 32])
theorem progGet (l : List S45) (nm : ByteArray) (hs : hdrSum l + nm.size ≤ 1099511627776) : head_Get.f l nm = some (getBA nm l, decide (0 < (getV nm l).length)) := by
 unfold head_Get.f
 rw [if_pos hs]; rfl
def acao : ByteArray := ⟨#[97, 99, 99, 101, 115, 115, 45, 99, 111, 110, 116, 114, 111, 108, 45, 97, 108, 108, 111, 119, 45, 111, 114, 105, 103, 105, 110]⟩
def acac : ByteArray := ⟨#[97, 99, 99, 101, 115, 115, 45, 99, 111, 110, 116, 114, 111, 108, 45, 97, 108, 108, 111, 119, 45, 99, 114, 101, 100, 101, 110, 116, 105, 97, 108, 115]⟩
def chk (l : List S45) (a1 : ByteArray) (a2 : Int) : Bool :=
 decide (0 < (getV acao l).length) && (if a2 = 3 then decide ((getBA acao l).toList = a1.toList) && ((getBA acac l).toList == [116, 114, 117, 101]) else decide ((getBA acao l).toList = [42]) || ((getBA acao l).toList == a1.toList))
theorem check_chk (l : List S45) (a1 : ByteArray) (a2 : Int) (hs : hdrSum l ≤ 1099511627000) : cors_Check.f l a1 a2 = some (chk l a1 a2) := by
 unfold cors_Check.f
 have e1 := progGet l acao (by simp [acao, ByteArray.size]; omega)
 have e2 := progGet l acac (by simp [acac, ByteArray.size]; omega)
 unfold acao at e1
 unfold acac at e2
 rw [e1, e2]
 simp only [Option.bind_some]
 unfold chk acao acac
 by_cases hb : decide (0 < (getV ⟨#[97, 99, 99, 101, 115, 115, 45, 99, 111, 110, 116, 114, 111, 108, 45, 97, 108, 108, 111, 119, 45, 111, 114, 105, 103, 105, 110]⟩ l).length) = true
 ·rw [if_pos hb, hb, Bool.true_and]
  by_cases h3 : a2 = 3
  ·rw [if_pos h3, if_pos h3]
   split <;> rename_i h <;> simp [h]
  ·rw [if_neg h3, if_neg h3]
   split <;> rename_i h <;> simp [h]
 ·rw [if_neg hb, Bool.eq_false_iff.2 hb, Bool.false_and]
theorem hdrSum_sz (l : List S45) : (l.map sz45).sum = hdrSum l := by
 unfold hdrSum
 exact congrArg List.sum (List.map_congr_left fun x _ => by simp only [sz45]; omega)
theorem few_some {α : Type} (l : List α) : (if (l.length : Int) > 30 then (if 30 ≤ (l.length : Int) then some (l.take 30) else none) else some l) = some (l.take 30) := by
 by_cases h : (l.length : Int) > 30
 ·rw [if_pos h, if_pos (by omega)]
 ·rw [if_neg h, List.take_of_length_le (by omega)]
end Go.Proofs.YtfibkgmbgdaeoaaGreatDoor.Hand
