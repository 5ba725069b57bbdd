/- Texts as lists of bytes; what the print's words on texts say of them; from some number of rounds on. No condition. -/
import Derived.Test.YtoaleclnilbjcaaGreatDoorWMore
import Derived.Test.YtoaleclnilbjcaaGreatDoorWLast
import Derived.Lib.Strings
namespace Go.Proofs.YtoaleclnilbjcaaGreatDoor.Hand
open Go.RowKit Go.Proofs.YtoaleclnilbjcaaGreatDoorW.PrintWords Go.Proofs.YtoaleclnilbjcaaGreatDoorW.PrintLast Go.Proofs.YtoaleclnilbjcaaGreatDoorW.PrintMore
set_option linter.unusedVariables false
set_option linter.unusedSimpArgs false

def ba (l : List UInt8) : ByteArray := ⟨l.toArray⟩
theorem ba_of (s : ByteArray) : ∃ l, s = ba l := ⟨s.data.toList, by simp [ba]⟩
@[simp] theorem ba_size' (l : List UInt8) : (ba l).size = l.length := by simp [ba, ByteArray.size]
@[simp] theorem ba_data (l : List UInt8) : (ba l).data.toList = l := by simp [ba]
@[simp] theorem ba_list (l : List UInt8) : (ba l).toList = l := by simp [ba]
theorem ba_inj {a b : List UInt8} (h : ba a = ba b) : a = b := by have := congrArg (·.data.toList) h; simpa using this
theorem toList_inj' {a b : ByteArray} : a.toList = b.toList ↔ a = b := by
 obtain ⟨a, rfl⟩ := ba_of a
 obtain ⟨b, rfl⟩ := ba_of b
 simp only [ba_list]
 exact ⟨fun h => by rw [h], ba_inj⟩
@[simp] theorem ba_extract (l : List UInt8) (a b : Nat) : (ba l).extract a b = ba ((l.drop a).take (b - a)) := by
 apply ByteArray.ext; apply Array.ext'
 rw [Lib.extract_data, ba_data, ba_data]
@[simp] theorem ba_app (a b : List UInt8) : ba a ++ ba b = ba (a ++ b) := by
 apply ByteArray.ext; apply Array.ext'
 simp [ba]
theorem bt_ba (l : List UInt8) (i : Nat) : bt (ba l) (i : Int) = ((l.getD i 0).toNat : Int) := by
 unfold bt
 rw [Int.toNat_natCast]
 split
 ·rename_i h
  have h' : i < l.length := by simpa using h
  simp [ba, List.getD_eq_getElem?_getD, List.getElem?_eq_getElem h']
  rfl
 ·rename_i h
  have h' : l.length ≤ i := by simpa using h
  simp [List.getD_eq_getElem?_getD, List.getElem?_eq_none h']
theorem bt_mid (p : List UInt8) (c : UInt8) (q : List UInt8) : bt (ba (p ++ c :: q)) (p.length : Int) = (c.toNat : Int) := by
 rw [bt_ba, List.getD_eq_getElem?_getD]; simp
theorem bt_zero (c : UInt8) (q : List UInt8) : bt (ba (c :: q)) 0 = (c.toNat : Int) := bt_mid [] c q
theorem wrap_ok (n : Int) (h : -9223372036854775808 ≤ n) (h1 : n ≤ 9223372036854775807) : wrap64 n = n := by unfold wrap64; omega
theorem wrap_nat (n : Nat) (h1 : n < 9223372036854775807) : wrap64 ((n : Int) + 1) = ((n + 1 : Nat) : Int) := by rw [wrap_ok] <;> omega
@[simp] theorem strOfNums_bytes (l : List UInt8) : strOfNums (l.map fun c => (c.toNat : Int)) = ba l := by
 unfold strOfNums ba
 rw [List.map_map]
 congr 2
 rw [show ((fun n : Int => UInt8.ofNat n.toNat) ∘ fun c : UInt8 => (c.toNat : Int)) = id from by funext c; simp]
 simp
theorem c_eq (c : UInt8) (n : Nat) (hn : n < 256) : ((c.toNat : Int) = (n : Int)) ↔ c = UInt8.ofNat n := by
 constructor
 ·intro h
  apply UInt8.toNat_inj.1
  rw [UInt8.toNat_ofNat']
  have : c.toNat = n := by omega
  omega
 ·rintro rfl; rw [UInt8.toNat_ofNat']; omega
theorem Ev.of_all {α : Type} {g : Nat → Option α} {r : α} (h : ∀ k, g k = some r) : Ev g r := ⟨0, fun k _ => h k⟩
theorem Ev.if_pos {α : Type} {g f : Nat → Option α} {r : α} {c : Prop} [Decidable c] (hc : c) (h : Ev g r) : Ev (fun k => if c then g k else f k) r := by
 simpa only [_root_.if_pos hc] using h
theorem Ev.if_neg {α : Type} {g f : Nat → Option α} {r : α} {c : Prop} [Decidable c] (hc : ¬c) (h : Ev f r) : Ev (fun k => if c then g k else f k) r := by
 simpa only [_root_.if_neg hc] using h
theorem Ev.some_bind {α β : Type} {g : Nat → Option α} {f : Nat → α → Option β} {a : α} {r : β} (h : ∀ k, g k = some a) (k : Ev (fun n => f n a) r) : Ev (fun n => (g n).bind fun x => f n x) r := Ev.bind (Ev.of_all h) k
end Go.Proofs.YtoaleclnilbjcaaGreatDoor.Hand
