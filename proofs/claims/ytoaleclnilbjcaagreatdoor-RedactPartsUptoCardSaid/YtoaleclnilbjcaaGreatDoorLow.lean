/- The library's functions that take and give plain values, as the print takes them. Conditions stand in each function: where it is none, nothing is said. -/
import Derived.Test.YtoaleclnilbjcaaGreatDoorGW
import Derived.Test.YtoaleclnilbjcaaGreatDoorK
import Derived.Test.YtoaleclnilbjcaaGreatDoorShelf
import Derived.Lib.Strings
import Derived.Lib.AppendIntMem
import Derived.Shelf.Strings.SlTrimAscii
import Derived.WalkKit
import Derived.Test.YtoaleclnilbjcaaGreatDoorWMore
import Derived.Test.YtoaleclnilbjcaaGreatDoorProg
import Derived.Below
import Derived.Deep.Draws
import Derived.OwnWalk
import Derived.Laws.BytesArg
import Derived.Laws.IdiomStrings
import Derived.Tactics
import Derived.Lib.ConvBytes
import Derived.Lib.Hide
import Derived.KernelRfl
import Derived.RowKit3
import Derived.Test.YtoaleclnilbjcaaGreatDoorWWords
namespace Go.Proofs.YtoaleclnilbjcaaGreatDoor.Hand
open Go.RowKit Go.Proofs.YtoaleclnilbjcaaGreatDoorW.PrintWords Go.Proofs.YtoaleclnilbjcaaGreatDoorW.PrintLast Go.Proofs.YtoaleclnilbjcaaGreatDoorW.PrintMore
set_option linter.unusedVariables false
set_option linter.unusedSimpArgs false

def strings_IndexByte.f (a0 : ByteArray) (a1 : Int) : Option Int := some (Lib.indexByte a0.data.toList a1.toNat.toUInt8)
theorem strings_IndexByte.calls (a0 : ByteArray) (a1 : Int) (r : Int) (w : World) (hG : GW w) (h : strings_IndexByte.f a0 a1 = some r) :
  Calls Tryz.prog 102 #[.string a0, .int .u8 a1] w fun e w' => e = .returned (.int .i64 r) ∧ Drawn0 w w' := by
 obtain rfl := Option.some.inj h
 refine (Tryz.strings_IndexByte a0 a1 w).mono ?_
 rintro e w' ⟨rfl, rfl⟩
 exact ⟨rfl, Drawn0.refl _⟩
def strings_HasPrefix.f (a0 a1 : ByteArray) : Option Bool := some (Lib.hasPrefix a0.data.toList a1.data.toList)
theorem strings_HasPrefix.calls (a0 a1 : ByteArray) (r : Bool) (w : World) (hG : GW w) (h : strings_HasPrefix.f a0 a1 = some r) :
  Calls Tryz.prog 62 #[.string a0, .string a1] w fun e w' => e = .returned (.bool r) ∧ Drawn0 w w' := by
 obtain rfl := Option.some.inj h
 refine (Tryz.strings_HasPrefix a0 a1 w).mono ?_
 rintro e w' ⟨rfl, rfl⟩
 exact ⟨rfl, Drawn0.refl _⟩
def strings_LastIndexByte.f (a0 : ByteArray) (a1 : Int) : Option Int := if a0.size < 4611686018427387904 then some (Lib.lastIndexByte a0 a1) else none
theorem strings_LastIndexByte.calls (a0 : ByteArray) (a1 : Int) (r : Int) (w : World) (hG : GW w) (h : strings_LastIndexByte.f a0 a1 = some r) :
  Calls Tryz.prog 29 #[.string a0, .int .u8 a1] w fun e w' => e = .returned (.int .i64 r) ∧ Drawn0 w w' := by
 unfold strings_LastIndexByte.f at h
 by_cases c : a0.size < 4611686018427387904
 ·rw [if_pos c] at h
  obtain rfl := Option.some.inj h
  refine (Tryz.strings_LastIndexByte a0 a1 c w).mono ?_
  rintro e w' ⟨rfl, rfl⟩
  exact ⟨rfl, Drawn0.refl _⟩
 ·rw [if_neg c] at h; cases h
def strconv_Itoa.f (a0 : Int) : Option ByteArray := if -9223372036854775808 ≤ a0 ∧ a0 ≤ 9223372036854775807 then some ⟨(Lib.itoa a0).toArray⟩ else none
theorem strconv_Itoa.calls (a0 : Int) (r : ByteArray) (w : World) (hG : GW w) (h : strconv_Itoa.f a0 = some r) :
  Calls Tryz.prog 145 #[.int .i64 a0] w fun e w' => e = .returned (.string r) ∧ Below w.heap.size w w' := by
 unfold strconv_Itoa.f at h
 by_cases c : -9223372036854775808 ≤ a0 ∧ a0 ≤ 9223372036854775807
 ·rw [if_pos c] at h
  obtain rfl := Option.some.inj h
  refine (Tryz.strconv_Itoa a0 c.1 c.2 w hG.pow).mono ?_
  rintro e w' ⟨rfl, k, os, rfl⟩
  exact ⟨rfl, Lib.below_grow _ _ (Nat.le_refl _) _ _⟩
 ·rw [if_neg c] at h; cases h
end Go.Proofs.YtoaleclnilbjcaaGreatDoor.Hand

/- ascii.turned, Lower, Upper: what the walk of each gives: the string with the bytes of one range moved. Condition: the string takes at most 2^47 bytes. -/
namespace Go.Proofs.YtoaleclnilbjcaaGreatDoor.Hand
open Go.RowKit Go.Proofs.YtoaleclnilbjcaaGreatDoorW.PrintWords
set_option linter.unusedVariables false
set_option linter.unusedSimpArgs false

def turnC (lo hi b c : Int) : Int := if lo ≤ c ∧ c ≤ hi then (c + b) % 256 else c
def turnL (lo hi b : Int) (s : ByteArray) (k : Nat) : List Int := ((bytesOf s).take k).map (turnC lo hi b) ++ (bytesOf s).drop k

theorem turnL_zero (lo hi b : Int) (s : ByteArray) : turnL lo hi b s 0 = bytesOf s := by simp [turnL]
theorem turnL_all (lo hi b : Int) (s : ByteArray) : turnL lo hi b s s.size = (bytesOf s).map (turnC lo hi b) := by
 unfold turnL
 rw [List.take_of_length_le (by rw [bytesOf_length]; omega), List.drop_of_length_le (by rw [bytesOf_length]; omega), List.append_nil]
theorem turnL_length (lo hi b : Int) (s : ByteArray) (k : Nat) (hk : k ≤ s.size) : (turnL lo hi b s k).length = s.size := by
 simp [turnL, bytesOf_length]; omega
theorem turnL_at (lo hi b : Int) (s : ByteArray) (k : Nat) (hk : k < s.size) : (turnL lo hi b s k).getD k 0 = bt s k := by
 unfold turnL
 have h := rd_bytesOf s k
 unfold rd at h
 rw [← h]
 simp only [List.getD_eq_getElem?_getD, Int.toNat_natCast]
 rw [List.getElem?_append_right (by simp [bytesOf_length]; omega)]
 simp only [List.length_map, List.length_take, bytesOf_length, List.getElem?_drop]
 rw [show k + (k - min k s.size) = k from by omega]
theorem turnL_succ (lo hi b : Int) (s : ByteArray) (k : Nat) (hk : k < s.size) : turnL lo hi b s (k + 1) = (turnL lo hi b s k).set k (turnC lo hi b (bt s k)) := by
 apply List.ext_getElem?
 intro i
 have hl : (bytesOf s).length = s.size := bytesOf_length s
 have hb : (bytesOf s)[k]? = some (bt s k) := by
  have h := rd_bytesOf s k
  unfold rd at h
  rw [← h]
  simp only [List.getD_eq_getElem?_getD, Int.toNat_natCast]
  rw [List.getElem?_eq_getElem (by omega)]; rfl
 rw [List.getElem?_set]
 unfold turnL
 rw [List.length_append, List.length_map, List.length_take, List.length_drop, hl]
 by_cases e : k = i
 ·subst e
  rw [if_pos rfl, if_pos (by omega), List.getElem?_append_left (by simp [hl]; omega), List.getElem?_map, List.getElem?_take, if_pos (by omega), hb]; rfl
 ·rw [if_neg e]
  by_cases hik : i < k
  ·rw [List.getElem?_append_left (by simp [hl]; omega), List.getElem?_append_left (by simp [hl]; omega)]
   simp only [List.getElem?_map, List.getElem?_take]
   rw [if_pos (by omega), if_pos (by omega)]
  ·rw [List.getElem?_append_right (by simp [hl]; omega), List.getElem?_append_right (by simp [hl]; omega)]
   simp only [List.length_map, List.length_take, hl, List.getElem?_drop]
   rw [show k + 1 + (i - min (k + 1) s.size) = k + (i - min k s.size) from by omega]

structure TurnW (w wr : World) (lo hi b : Int) (s : ByteArray) (k : Nat) : Prop where
 size : w.heap.size < wr.heap.size
 below : Below w.heap.size w wr
 cell : ∀ j, j < s.size → wr.cell? ⟨w.heap.size, j, none⟩ = some (.int .u8 ((turnL lo hi b s k).getD j 0))
 free : ∀ j, j < s.size → wr.frozen? ⟨w.heap.size, j, none⟩ = false

theorem TurnW.start (w : World) (lo hi b : Int) (s : ByteArray) (e : TypeId) : TurnW w (Lib.bytesWorld w e s) lo hi b s 0 := by
 refine ⟨by rw [Lib.bytesWorld_size]; omega, bytes_below (Below.refl _ _) (Nat.le_refl _) e s, fun j hj => ?_, fun j hj => ?_⟩
 ·rw [Lib.bytesWorld_cell w e s j hj, turnL_zero]
  have h' : j < s.data.toList.length := by rw [data_length]; exact hj
  simp [bytesOf, List.getD_eq_getElem?_getD, List.getElem?_eq_getElem h']
 ·have hz : s.size ≤ (Lib.bytesCells w e s).size := by
   simp only [Lib.bytesCells, Array.size_append, Array.size_map, Array.size_replicate]
   have : s.data.size = s.size := rfl
   omega
  simp [World.frozen?, Lib.bytesWorld_at_new]
  omega

theorem TurnW.keep {w wr : World} {lo hi b : Int} {s : ByteArray} {k : Nat} (h : TurnW w wr lo hi b s k) (hk : k < s.size) (hn : turnC lo hi b (bt s k) = bt s k) : TurnW w wr lo hi b s (k + 1) := by
 refine ⟨h.size, h.below, fun j hj => ?_, h.free⟩
 rw [h.cell j hj, turnL_succ lo hi b s k hk, hn]
 by_cases e : k = j
 ·subst e
  rw [turnL_at lo hi b s k hk]
  have hl := turnL_length lo hi b s k (by omega)
  simp [List.getD_eq_getElem?_getD, List.getElem?_set, hl, hk]
 ·simp [List.getD_eq_getElem?_getD, List.getElem?_set, e]

theorem TurnW.put {w wr : World} {lo hi b : Int} {s : ByteArray} {k : Nat} (h : TurnW w wr lo hi b s k) (hk : k < s.size) (x : Int) (hx : turnC lo hi b (bt s k) = x) : TurnW w (wr.setCell ⟨w.heap.size, k, none⟩ (.int .u8 x)) lo hi b s (k + 1) := by
 refine ⟨by simpa using h.size, h.below.setCell (Nat.le_refl _) _, fun j hj => ?_, fun j hj => ?_⟩
 ·rw [turnL_succ lo hi b s k hk, hx]
  have hl := turnL_length lo hi b s k (by omega)
  by_cases e : k = j
  ·subst e
   rw [World.cell?_setCell_same _ _ _ (h.cell k hk)]
   simp [List.getD_eq_getElem?_getD, List.getElem?_set, hl, hk]
  ·rw [World.cell?_setCell_other (h := fun he => e (by injection he))]
   rw [h.cell j hj]
   simp [List.getD_eq_getElem?_getD, List.getElem?_set, e]
 ·simpa using h.free j hj

set_option maxHeartbeats 1000000 in
theorem turned_calls (s : ByteArray) (lo hi b : Int) (w : World) (hs : s.size ≤ 140737488351232) (hb1 : -256 ≤ b) (hb2 : b ≤ 256) (hlo : 0 ≤ lo) (hlo2 : lo ≤ 255) (hhi : 0 ≤ hi) (hhi2 : hi ≤ 255) :
  Calls Tryz.prog 73 #[.string s, .int .u8 lo, .int .u8 hi, .int .i64 b] w fun e w' => e = .returned (.string (strOfNums ((bytesOf s).map (turnC lo hi b)))) ∧ Below w.heap.size w w' := by
 have hconv := print_bytes (P := Tryz.prog) 9 22 5 Tryz.underlying9 Tryz.underlying22 Tryz.underlying5 s w
 have H0 := TurnW.start w lo hi b s 5
 generalize hW : Lib.bytesWorld w 5 s = W1 at hconv H0
 generalize grownCap w s.size 0 5 = cap at hconv
 have HS0 := Lib.hid H0
 clear hW H0
 go_enter Tryz.func73, Tryz.ntmps73
 go_wp2
 go_loopw [16] (fun n wr => ∃ k : Nat, k ≤ s.size ∧ n = .int .i64 k ∧ TurnW w wr lo hi b s k) (fun n _ => s.size - (intOf n).toNat)
 case atStart => exact ⟨0, Nat.zero_le _, rfl, HS0.out⟩
 case round =>
  obtain ⟨k, hk, rfl, hT⟩ := hrel
  by_cases hlt : k < s.size
  ·have hc := hT.cell k hlt
   rw [turnL_at lo hi b s k hlt] at hc
   have hf := hT.free k hlt
   have hr := bt_range s k
   have hr1 := hr.1
   have hr2 := hr.2
   have hsz := hT.size
   have HP := Lib.hid (hT.put hlt)
   have HK := Lib.hid (hT.keep hlt)
   clear hT hr HS0
   generalize bt s k = c at *
   by_cases h1 : lo ≤ c
   ·by_cases h2 : c ≤ hi
    ·have hx := Lib.hid (show turnC lo hi b c = (c + b) % 256 from if_pos ⟨h1, h2⟩)
     go_wp2
     go_roundw
     case rel => exact ⟨k + 1, by omega, by go_num, HP.out _ hx.out⟩
     case measure => simp [intOf]; omega
    ·have hx := Lib.hid (show turnC lo hi b c = c from if_neg (fun h => h2 h.2))
     go_wp2
     go_roundw
     case rel => exact ⟨k + 1, by omega, by go_num, HK.out hx.out⟩
     case measure => simp [intOf]; omega
   ·have hx := Lib.hid (show turnC lo hi b c = c from if_neg (fun h => h1 h.1))
    go_wp2
    go_roundw
    case rel => exact ⟨k + 1, by omega, by go_num, HK.out hx.out⟩
    case measure => simp [intOf]; omega
  ·obtain rfl : k = s.size := by omega
   have hback := run_convert_bytes_arg (P := Tryz.prog) wr 22 5 Tryz.underlying22 Tryz.underlying5 w.heap.size 0 s.size cap _ (turnL_length lo hi b s s.size (Nat.le_refl _)) (fun i hi_ => by rw [Nat.zero_add]; exact hT.cell i hi_) 9 Tryz.underlying9
   rw [turnL_all] at hback
   have HB := Lib.hid hT.below
   clear hT HS0 hconv
   go_wp2
   go_ret
   exact ⟨rfl, HB.out⟩
end Go.Proofs.YtoaleclnilbjcaaGreatDoor.Hand

/- ascii.Lower and ascii.Upper. Condition: strings of at most 2^47 bytes. -/
namespace Go.Proofs.YtoaleclnilbjcaaGreatDoor.Hand
open Go.RowKit Go.Proofs.YtoaleclnilbjcaaGreatDoorW.PrintWords
set_option linter.unusedVariables false
set_option linter.unusedSimpArgs false
def lowBA (s : ByteArray) : ByteArray := strOfNums ((bytesOf s).map (turnC 65 90 32))
set_option maxHeartbeats 400000 in
theorem lower_calls (s : ByteArray) (w : World) (hs : s.size ≤ 140737488351232) :
  Calls Tryz.prog 34 #[.string s] w fun e w' => e = .returned (.string (lowBA s)) ∧ Below w.heap.size w w' := by
 go_enter Tryz.func34, Tryz.ntmps34
 go_wp2_with fail
 refine (turned_calls s 65 90 32 w hs (by decide) (by decide) (by decide) (by decide) (by decide) (by decide)).mono ?_
 rintro e w' ⟨rfl, hb⟩
 go_wp2
 go_ret
 exact ⟨rfl, hb⟩
def ascii_Lower.f (a0 : ByteArray) : Option ByteArray := if a0.size ≤ 140737488351232 then some (lowBA a0) else none
theorem ascii_Lower.calls (a0 : ByteArray) (r : ByteArray) (w : World) (hG : GW w) (h : ascii_Lower.f a0 = some r) :
  Calls Tryz.prog 34 #[.string a0] w fun e w' => e = .returned (.string r) ∧ Below w.heap.size w w' := by
 unfold ascii_Lower.f at h
 by_cases c : a0.size ≤ 140737488351232
 ·rw [if_pos c] at h
  obtain rfl := Option.some.inj h
  exact lower_calls a0 w c
 ·rw [if_neg c] at h; cases h
end Go.Proofs.YtoaleclnilbjcaaGreatDoor.Hand
