/- redact.Redact of no bytes: too short. No condition. -/
import Derived.Test.YtoaleclnilbjcaaGreatDoorCyc
import Derived.Test.YtoaleclnilbjcaaGreatDoorGW
import Derived.Lib.SlBytesConst
namespace Go.Proofs.YtoaleclnilbjcaaGreatDoor.Hand
open Go.RowKit Go.Proofs.YtoaleclnilbjcaaGreatDoorW.PrintWords Go.Proofs.YtoaleclnilbjcaaGreatDoorW.PrintLast Go.Proofs.YtoaleclnilbjcaaGreatDoorW.PrintMore
set_option linter.unusedVariables false
set_option linter.unusedSimpArgs false

set_option maxRecDepth 100000 in
set_option maxRecDepth 100000 in
theorem mark_calls (w : World) : Calls Tryz.prog 44 #[] w fun e w' => ∃ A, e = .returned (.slice A 3 3) ∧ Below w.heap.size w w' := by
 have hcv := Lib.run_convert_bytes_const (P := Tryz.prog) w 22 5 #[.int .u8 80, .int .u8 86, .int .u8 49] 3 3 Tryz.underlying22 Tryz.underlying5
 go_enter Tryz.func44, Tryz.ntmps44
 go_wp2
 go_ret
 exact ⟨_, rfl, below_alloc (Below.refl _ _) _⟩
set_option maxRecDepth 100000 in
theorem place_nil (A0 : Option Addr) (c0 : Nat) (w : World) : Calls Tryz.prog 78 #[.slice A0 0 c0] w fun e w' => e = .returned (.tuple #[.int .i64 0, .int .i64 7]) ∧ Below w.heap.size w w' := by
 have HT := Lib.hid (cycTable_calls w)
 have HM := Lib.hid mark_calls
 go_enter Tryz.func78, Tryz.ntmps78
 go_wp2_with fail
 with_reducible refine HT.out.mono ?_
 rintro e w1 ⟨rfl, hb1⟩
 have HB1 := Lib.hid (below_alloc hb1 (.cells Tryz.zeroCells75 75))
 have HK1 := Lib.hid (blk_new w1 (.cells Tryz.zeroCells75 75))
 have HB2 := Lib.hid (below_setRow HB1.out hb1.size tabV)
 clear hb1 HB1
 go_wp2_with ((with_reducible refine gate_store (t := 75) (p := 4) rfl ?_); refine wpList_store_row rfl 75 (.tmp 4) (.tmp 10) rfl w1.heap.size tabV rfl rfl 75 _ HK1.out (by kernel_rfl) (by kernel_rfl) (by kernel_rfl) ?_)
 with_reducible refine (HM.out _).mono ?_
 rintro e w3 ⟨A, rfl, hb3⟩
 have HB3 := Lib.hid (below_step HB2.out hb3)
 clear hb3
 go_wp2_with fail
 go_ret2
 exact ⟨rfl, HB3.out⟩
set_option maxRecDepth 100000 in
theorem foot_nil (A0 : Option Addr) (c0 : Nat) (w : World) : Calls Tryz.prog 39 #[.slice A0 0 c0] w fun e w' => e = .returned (.tuple #[.int .i64 0, .slice none 0 0, .int .i64 7]) ∧ Below w.heap.size w w' := by
 have HP := Lib.hid (place_nil A0 c0 w)
 go_enter Tryz.func39, Tryz.ntmps39
 go_wp2_with fail
 with_reducible refine HP.out.mono ?_
 rintro e w1 ⟨rfl, hb1⟩
 go_wp2_with fail
 go_ret3
 exact ⟨rfl, hb1⟩
set_option maxRecDepth 100000 in
theorem decode_nil (A0 : Option Addr) (c0 : Nat) (w : World) : Calls Tryz.prog 23 #[.slice A0 0 c0] w fun e w' => e = .returned (.tuple #[.slice none 0 0, .int .i64 7]) ∧ Below w.heap.size w w' := by
 have HP := Lib.hid (foot_nil A0 c0 w)
 go_enter Tryz.func23, Tryz.ntmps23
 go_wp2_with fail
 with_reducible refine HP.out.mono ?_
 rintro e w1 ⟨rfl, hb1⟩
 go_wp2_with fail
 go_ret2
 exact ⟨rfl, hb1⟩
set_option maxRecDepth 100000 in
theorem redact_nil (A0 : Option Addr) (c0 : Nat) (w : World) : Calls Tryz.prog 6 #[.slice A0 0 c0] w fun e w' => e = .returned (.tuple #[.slice none 0 0, .int .i64 7]) ∧ Below w.heap.size w w' := by
 have HP := Lib.hid (decode_nil A0 c0 w)
 go_enter Tryz.func6, Tryz.ntmps6
 go_wp2_with fail
 with_reducible refine HP.out.mono ?_
 rintro e w1 ⟨rfl, hb1⟩
 go_wp2_with fail
 go_ret2
 exact ⟨rfl, hb1⟩
def redact_Redact.f (l0 : List Int) : Option (List Int × Int) := if l0 = [] then some ([], 7) else none
theorem redact_Redact.calls (A0 : Option Addr) (c0 : Nat) (l0 : List Int) (r1 : List Int) (r2 : Int) (w : World) (hG_ : GW w) (hr0 : Kd.C (Kd.int .u8) w A0 l0.length l0) (hc0 : l0.length ≤ c0) (h : redact_Redact.f l0 = some (r1, r2)) :
  Calls Tryz.prog 6 #[.slice A0 l0.length c0] w fun e w' => ∃ v1_ : Value, e = .returned (.tuple #[v1_, .int .i64 r2]) ∧ Kd.R (Kd.int .u8) 5 w' w.heap.size (fun _ => True) v1_ r1 ∧ Below w.heap.size w w' := by
 unfold redact_Redact.f at h
 by_cases hl : l0 = []
 ·rw [if_pos hl] at h
  subst hl
  injection h with h
  injection h with h1 h2
  subst h1
  subst h2
  refine (redact_nil A0 c0 w).mono fun e w' he => ?_
  obtain ⟨rfl, hb⟩ := he
  exact ⟨_, rfl, Kd.R_nil _ _ _ _ _, hb⟩
 ·rw [if_neg hl] at h; cases h
end Go.Proofs.YtoaleclnilbjcaaGreatDoor.Hand
