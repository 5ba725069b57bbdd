/- origin.bare: what its walk gives: the URL of an origin's beginning. No condition. -/
import Derived.Test.YtfibkgmbgdaeoaaDoorFA1
import Derived.Test.YtfibkgmbgdaeoaaDoorFA2
import Derived.Test.YtfibkgmbgdaeoaaDoorFA3
import Derived.Deep.QuietTactic
import Derived.BigQuiet
import Derived.Test.YtfibkgmbgdaeoaaDoorWMore
import Derived.Test.YtfibkgmbgdaeoaaDoorWLast
import Derived.Lib.Strings
namespace Go.Proofs.YtfibkgmbgdaeoaaDoor.Hand
open Go.RowKit Go.Proofs.YtfibkgmbgdaeoaaDoorW.PrintWords Go.Proofs.YtfibkgmbgdaeoaaDoorW.PrintLast Go.Proofs.YtfibkgmbgdaeoaaDoorW.PrintMore
set_option linter.unusedVariables false
set_option linter.unusedSimpArgs false

def origin_bare.f (a0_0 : ByteArray) (a0_1 : ByteArray) (a0_2 : Int) : Option (ByteArray × ByteArray × ByteArray × Int × ByteArray × Bool × ByteArray × Bool × ByteArray) :=
 (host_Default.f a0_0).bind fun d => some (a0_0, ⟨#[]⟩, a0_1, if a0_2 = d then 0 else a0_2, ⟨#[47]⟩, false, ⟨#[]⟩, false, ⟨#[]⟩)
set_option maxRecDepth 100000 in
set_option maxHeartbeats 4000000 in
theorem origin_bare.calls (a0_0 : ByteArray) (a0_1 : ByteArray) (a0_2 : Int) (r1 : ByteArray) (r2 : ByteArray) (r3 : ByteArray) (r4 : Int) (r5 : ByteArray) (r6 : Bool) (r7 : ByteArray) (r8 : Bool) (r9 : ByteArray) (w : World) (hG_ : GW w) (h : origin_bare.f a0_0 a0_1 a0_2 = some (r1, r2, r3, r4, r5, r6, r7, r8, r9)) :
  Calls Tryd.prog 74 #[.agg #[.string a0_0, .string a0_1, .int .i64 a0_2]] w fun e w' => e = .returned (.agg #[.string r1, .string r2, .string r3, .int .i64 r4, .string r5, .bool r6, .string r7, .bool r8, .string r9]) ∧ Below w.heap.size w w' := by
 unfold origin_bare.f at h
 cases hd : host_Default.f a0_0 with
 | none => rw [hd] at h; cases h
 | some d =>
  rw [hd] at h
  simp only [Option.bind_some, Option.some.injEq, Prod.mk.injEq] at h
  obtain ⟨rfl, rfl, rfl, rfl, rfl, rfl, rfl, rfl, rfl⟩ := h
  have hc := fun W hW => Lib.hid (host_Default.calls a0_0 d W hW hd)
  have hu1 := Tryd.underlying34
  have hu2 := Tryd.underlying31
  by_cases c : a0_2 = d
  ·have cb : (a0_2 == d) = true := beq_iff_eq.mpr c
   rw [if_pos c]
   go_enter Tryd.func74, Tryd.ntmps74
   go_wp2_with (go_at_call 13; refine (hc _ (hG_.below (by repeat (with_reducible first | exact Below.refl _ _ | apply below_alloc | apply pw_below_drewN | apply below_drew)))).out.mono ?_; rintro e w' ⟨rfl, ⟨m_, rfl⟩⟩)
   go_quiet ((go_at_call 13; exact Calls.quiet_of ((hc _ (hG_.below (by repeat (with_reducible first | exact Below.refl _ _ | apply below_alloc | apply pw_below_drewN | apply below_drew)))).out.mono (fun _ _ h => ⟨h.1, h.2.out⟩))))
   go_wp2
   refine bodyPost_ret (v := .agg #[.string a0_0, .string ⟨#[]⟩, .string a0_1, .int .i64 0, .string ⟨#[47]⟩, .bool false, .string ⟨#[]⟩, .bool false, .string ⟨#[]⟩]) (by simp [results, Tryd.f74, go_sem]) rfl ⟨rfl, ?_⟩
   repeat (with_reducible first | exact Below.refl _ _ | apply below_alloc | apply pw_below_drewN | (refine Below.setCell (p := ⟨_, _, none⟩) ?_ (by simp; try omega) _))
  ·have cb : (a0_2 == d) = false := beq_eq_false_iff_ne.mpr c
   rw [if_neg c]
   go_enter Tryd.func74, Tryd.ntmps74
   go_wp2_with (go_at_call 13; refine (hc _ (hG_.below (by repeat (with_reducible first | exact Below.refl _ _ | apply below_alloc | apply pw_below_drewN | apply below_drew)))).out.mono ?_; rintro e w' ⟨rfl, ⟨m_, rfl⟩⟩)
   go_quiet ((go_at_call 13; exact Calls.quiet_of ((hc _ (hG_.below (by repeat (with_reducible first | exact Below.refl _ _ | apply below_alloc | apply pw_below_drewN | apply below_drew)))).out.mono (fun _ _ h => ⟨h.1, h.2.out⟩))))
   go_wp2
   refine bodyPost_ret (v := .agg #[.string a0_0, .string ⟨#[]⟩, .string a0_1, .int .i64 a0_2, .string ⟨#[47]⟩, .bool false, .string ⟨#[]⟩, .bool false, .string ⟨#[]⟩]) (by simp [results, Tryd.f74, go_sem]) rfl ⟨rfl, ?_⟩
   repeat (with_reducible first | exact Below.refl _ _ | apply below_alloc | apply pw_below_drewN | (refine Below.setCell (p := ⟨_, _, none⟩) ?_ (by simp; try omega) _))
end Go.Proofs.YtfibkgmbgdaeoaaDoor.Hand

/- Texts as lists of bytes; what the print's words on texts say of them; from some number of rounds on. No condition. -/
namespace Go.Proofs.YtfibkgmbgdaeoaaDoor.Hand
open Go.RowKit Go.Proofs.YtfibkgmbgdaeoaaDoorW.PrintWords Go.Proofs.YtfibkgmbgdaeoaaDoorW.PrintLast Go.Proofs.YtfibkgmbgdaeoaaDoorW.PrintMore
set_option linter.unusedVariables false
set_option linter.unusedSimpArgs false

def ba (l : List UInt8) : ByteArray := ⟨l.toArray⟩
theorem ba_of (s : ByteArray) : ∃ l, s = ba l := ⟨s.data.toList, by simp [ba]⟩
@[simp] theorem ba_size' (l : List UInt8) : (ba l).size = l.length := by simp [ba, ByteArray.size]
@[simp] theorem ba_data (l : List UInt8) : (ba l).data.toList = l := by simp [ba]
@[simp] theorem ba_list (l : List UInt8) : (ba l).toList = l := by simp [ba]
theorem ba_inj {a b : List UInt8} (h : ba a = ba b) : a = b := by have := congrArg (·.data.toList) h; simpa using this
theorem toList_inj' {a b : ByteArray} : a.toList = b.toList ↔ a = b := by
 obtain ⟨a, rfl⟩ := ba_of a
 obtain ⟨b, rfl⟩ := ba_of b
 simp only [ba_list]
 exact ⟨fun h => by rw [h], ba_inj⟩
@[simp] theorem ba_extract (l : List UInt8) (a b : Nat) : (ba l).extract a b = ba ((l.drop a).take (b - a)) := by
 apply ByteArray.ext; apply Array.ext'
 rw [Lib.extract_data, ba_data, ba_data]
@[simp] theorem ba_app (a b : List UInt8) : ba a ++ ba b = ba (a ++ b) := by
 apply ByteArray.ext; apply Array.ext'
 simp [ba]
theorem bt_ba (l : List UInt8) (i : Nat) : bt (ba l) (i : Int) = ((l.getD i 0).toNat : Int) := by
 unfold bt
 rw [Int.toNat_natCast]
 split
 ·rename_i h
  have h' : i < l.length := by simpa using h
  simp [ba, List.getD_eq_getElem?_getD, List.getElem?_eq_getElem h']
  rfl
 ·rename_i h
  have h' : l.length ≤ i := by simpa using h
  simp [List.getD_eq_getElem?_getD, List.getElem?_eq_none h']
theorem bt_mid (p : List UInt8) (c : UInt8) (q : List UInt8) : bt (ba (p ++ c :: q)) (p.length : Int) = (c.toNat : Int) := by
 rw [bt_ba, List.getD_eq_getElem?_getD]; simp
theorem bt_zero (c : UInt8) (q : List UInt8) : bt (ba (c :: q)) 0 = (c.toNat : Int) := bt_mid [] c q
theorem wrap_ok (n : Int) (h : -9223372036854775808 ≤ n) (h1 : n ≤ 9223372036854775807) : wrap64 n = n := by unfold wrap64; omega
theorem wrap_nat (n : Nat) (h1 : n < 9223372036854775807) : wrap64 ((n : Int) + 1) = ((n + 1 : Nat) : Int) := by rw [wrap_ok] <;> omega
@[simp] theorem strOfNums_bytes (l : List UInt8) : strOfNums (l.map fun c => (c.toNat : Int)) = ba l := by
 unfold strOfNums ba
 rw [List.map_map]
 congr 2
 rw [show ((fun n : Int => UInt8.ofNat n.toNat) ∘ fun c : UInt8 => (c.toNat : Int)) = id from by funext c; simp]
 simp
theorem c_eq (c : UInt8) (n : Nat) (hn : n < 256) : ((c.toNat : Int) = (n : Int)) ↔ c = UInt8.ofNat n := by
 constructor
 ·intro h
  apply UInt8.toNat_inj.1
  rw [UInt8.toNat_ofNat']
  have : c.toNat = n := by omega
  omega
 ·rintro rfl; rw [UInt8.toNat_ofNat']; omega
theorem Ev.of_all {α : Type} {g : Nat → Option α} {r : α} (h : ∀ k, g k = some r) : Ev g r := ⟨0, fun k _ => h k⟩
theorem Ev.if_pos {α : Type} {g f : Nat → Option α} {r : α} {c : Prop} [Decidable c] (hc : c) (h : Ev g r) : Ev (fun k => if c then g k else f k) r := by
 simpa only [_root_.if_pos hc] using h
theorem Ev.if_neg {α : Type} {g f : Nat → Option α} {r : α} {c : Prop} [Decidable c] (hc : ¬c) (h : Ev f r) : Ev (fun k => if c then g k else f k) r := by
 simpa only [_root_.if_neg hc] using h
theorem Ev.some_bind {α β : Type} {g : Nat → Option α} {f : Nat → α → Option β} {a : α} {r : β} (h : ∀ k, g k = some a) (k : Ev (fun n => f n a) r) : Ev (fun n => (g n).bind fun x => f n x) r := Ev.bind (Ev.of_all h) k
end Go.Proofs.YtfibkgmbgdaeoaaDoor.Hand
