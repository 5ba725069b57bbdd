/- host.Port: what its walk gives, by how the numeral ends. Condition: at most 2^47 bytes. -/
import Derived.Test.YtfibkgmbgdaeoaaDoorLib
import Derived.Lib.AtoiAllCases
namespace Go.Proofs.YtfibkgmbgdaeoaaDoor.Hand
open Go.RowKit Go.Proofs.YtfibkgmbgdaeoaaDoorW.PrintWords Go.Proofs.YtfibkgmbgdaeoaaDoorW.PrintLast Go.Proofs.YtfibkgmbgdaeoaaDoorW.PrintMore
set_option linter.unusedVariables false
set_option linter.unusedSimpArgs false

def portOf (s : List UInt8) : Int × Bool :=
 match Lib.atoiAll s with
 | .ok n => if 1 ≤ n ∧ n ≤ 65535 ∧ Lib.itoa n = s then (n, true) else (0, false)
 | _ => (0, false)
def host_Port.f (a0 : ByteArray) : Option (Int × Bool) := if a0.size ≤ 140737488351232 then some (portOf a0.data.toList) else none
theorem host_Port.calls (a0 : ByteArray) (r1 : Int) (r2 : Bool) (w : World) (hG : GW w) (h : host_Port.f a0 = some (r1, r2)) :
  Calls Tryd.prog 46 #[.string a0] w fun e w' => e = .returned (.tuple #[.int .i64 r1, .bool r2]) ∧ Below w.heap.size w w' := by
 unfold host_Port.f at h
 by_cases hs : a0.size ≤ 140737488351232
 ·rw [if_pos hs] at h
  have h := Option.some.inj h
  unfold portOf at h
  cases hn : Lib.atoiAll a0.data.toList with
  | ok n =>
   rw [hn] at h
   simp only at h
   have hb := Tryd.strconv_Atoi_ok a0 (by omega) n hn w
   have hb2 := Lib.hid (hb.mono (R' := fun e w' => e = .returned (.tuple #[.int .i64 n, .nilIface]) ∧ Below w.heap.size w w') (fun e w' hh => by
    obtain ⟨rfl, rfl | ⟨t, rfl⟩⟩ := hh
    ·exact ⟨rfl, Below.refl _ _⟩
    ·exact ⟨rfl, bytes_below (Below.refl _ _) (Nat.le_refl _) _ _⟩))
   clear hb
   have hi : ∀ w', Below w.heap.size w w' → 1 ≤ n → n ≤ 65535 → Hid (Calls Tryd.prog 21 #[.int .i64 n] w' fun e w2 => e = .returned (.string ⟨(Lib.itoa n).toArray⟩) ∧ Below w.heap.size w w2) := fun w' hb h1 h2 =>
    Lib.hid ((Tryd.strconv_Itoa n (by omega) (by omega) w' (hG.below hb).pow).mono fun e w2 hh => by
     obtain ⟨rfl, k, os, rfl⟩ := hh
     exact ⟨rfl, hb.trans (Lib.below_grow _ _ hb.size _ _)⟩)
   have hlo : -9223372036854775808 ≤ n ∧ n ≤ 9223372036854775807 := Lib.atoiAll_bounds hn
   have hlo1 := hlo.1
   have hlo2 := hlo.2
   clear hlo
   by_cases c1 : n < 1
   ·rw [if_neg (fun h => by omega)] at h
    injection h with e1 e2
    subst e1; subst e2
    clear hi
    go_enter Tryd.func46, Tryd.ntmps46
    go_wp2_with (go_at_call 62; refine hb2.out.mono ?_; rintro e w' ⟨rfl, hbw⟩)
    go_ret2
    exact ⟨rfl, hbw⟩
   ·by_cases c2 : 65535 < n
    ·rw [if_neg (fun h => by omega)] at h
     injection h with e1 e2
     subst e1; subst e2
     clear hi
     go_enter Tryd.func46, Tryd.ntmps46
     go_wp2_with (go_at_call 62; refine hb2.out.mono ?_; rintro e w' ⟨rfl, hbw⟩)
     go_ret2
     exact ⟨rfl, hbw⟩
    ·by_cases c3 : Lib.itoa n = a0.data.toList
     ·have c3b : ((⟨(Lib.itoa n).toArray⟩ : ByteArray).toList == a0.toList) = true := by rw [Lib.toList_data, Lib.toList_data, c3]; simp
      have d1 : decide (n < 1) = false := decide_eq_false c1
      have d2 : decide (65535 < n) = false := decide_eq_false c2
      rw [if_pos ⟨by omega, by omega, c3⟩] at h
      injection h with e1 e2
      subst e1; subst e2
      clear c3
      generalize (⟨(Lib.itoa n).toArray⟩ : ByteArray) = si at *
      go_enter Tryd.func46, Tryd.ntmps46
      go_wp2_with (first
       | (go_at_call 62; refine hb2.out.mono ?_; rintro e w' ⟨rfl, hbw⟩)
       | (go_at_call 21; refine (hi _ (by assumption) (by omega) (by omega)).out.mono ?_; rintro e w2 ⟨rfl, hbw2⟩))
      go_ret2
      exact ⟨rfl, hbw2⟩
     ·have c3b : ((⟨(Lib.itoa n).toArray⟩ : ByteArray).toList == a0.toList) = false := by rw [Lib.toList_data, Lib.toList_data]; simpa using c3
      have d1 : decide (n < 1) = false := decide_eq_false c1
      have d2 : decide (65535 < n) = false := decide_eq_false c2
      rw [if_neg (fun h => c3 h.2.2)] at h
      injection h with e1 e2
      subst e1; subst e2
      clear c3
      generalize (⟨(Lib.itoa n).toArray⟩ : ByteArray) = si at *
      go_enter Tryd.func46, Tryd.ntmps46
      go_wp2_with (first
       | (go_at_call 62; refine hb2.out.mono ?_; rintro e w' ⟨rfl, hbw⟩)
       | (go_at_call 21; refine (hi _ (by assumption) (by omega) (by omega)).out.mono ?_; rintro e w2 ⟨rfl, hbw2⟩))
      go_ret2
      exact ⟨rfl, hbw2⟩
  | «syntax» =>
   rw [hn] at h
   injection h with e1 e2
   subst e1; subst e2
   obtain ⟨ev, hv, he⟩ := hG.synt
   have hb2 := Lib.hid (Tryd.strconv_Atoi_syntax a0 (by omega) hn ev w hv he)
   clear hv he hn
   go_enter Tryd.func46, Tryd.ntmps46
   go_wp2_with (go_at_call 62; refine hb2.out.mono ?_; rintro e w' ⟨N, rfl, _, _, hbw⟩)
   go_ret2
   exact ⟨rfl, hbw⟩
  | range =>
   rw [hn] at h
   injection h with e1 e2
   subst e1; subst e2
   obtain ⟨ev, hv, he⟩ := hG.rang
   have hb2 := Lib.hid (Tryd.strconv_Atoi_range a0 (by omega) hn ev w hv he)
   clear hv he hn
   go_enter Tryd.func46, Tryd.ntmps46
   go_wp2_with (go_at_call 62; refine hb2.out.mono ?_; rintro e w' ⟨N, rfl, _, _, hbw⟩)
   go_ret2
   exact ⟨rfl, hbw⟩
 ·rw [if_neg hs] at h; cases h
end Go.Proofs.YtfibkgmbgdaeoaaDoor.Hand
