/- What each Go function here computes, and that its call computes it, over contracts proved by hand (written by this project's xprint.py, which drives the kit's print). -/
import Derived.Test.YtfibkgmbgdaeoaaGreatDoorZ
import Derived.Test.YtfibkgmbgdaeoaaGreatDoorK
import Derived.Test.YtfibkgmbgdaeoaaGreatDoorPreJ
import Derived.Test.YtfibkgmbgdaeoaaGreatDoorPreL
import Derived.Test.YtfibkgmbgdaeoaaGreatDoorPreR
import Derived.Test.YtfibkgmbgdaeoaaGreatDoorSafeU
import Derived.Test.YtfibkgmbgdaeoaaGreatDoorSafeR
import Derived.Test.YtfibkgmbgdaeoaaGreatDoorList
import Derived.Test.YtfibkgmbgdaeoaaGreatDoorFA1
import Derived.Test.YtfibkgmbgdaeoaaGreatDoorFP1
import Derived.Test.YtfibkgmbgdaeoaaGreatDoorFPB1
import Derived.Test.YtfibkgmbgdaeoaaGreatDoorFYA1
import Derived.Test.YtfibkgmbgdaeoaaGreatDoorFYB1
import Derived.Test.YtfibkgmbgdaeoaaGreatDoorFY1
import Derived.Test.YtfibkgmbgdaeoaaGreatDoorFY2
import Derived.Test.YtfibkgmbgdaeoaaGreatDoorPreA
namespace Go.Proofs.YtfibkgmbgdaeoaaGreatDoor.Hand
open Go.RowKit Go.Proofs.YtfibkgmbgdaeoaaGreatDoorW.PrintWords Go.Proofs.YtfibkgmbgdaeoaaGreatDoorW.PrintLast Go.Proofs.YtfibkgmbgdaeoaaGreatDoorW.PrintMore
attribute [local go_sem] Instr.field asAgg max2_int min2_int max_two min_two max_three min_three max_four min_four   -- for this text's walks alone
set_option linter.unusedVariables false
set_option linter.unusedSimpArgs false

def pursuivantlaw14_few.f (l0 : List (S45)) : Option ((List (S45))) := if (l0.length : Int) > 30 then (if 30 ≤ (l0.length : Int) then (some (l0.take 30)) else (none)) else (some l0)
set_option maxHeartbeats 8000000 in
set_option maxRecDepth 100000 in
theorem pursuivantlaw14_few.calls (P0_ : Nat → Prop) (A0 : Option Addr) (c0 : Nat) (l0 : List (S45)) (r : List (S45)) (w : World) (hG_ : GW w) (hs0 : Kd.V k45 45 w w.heap.size (fun k_ => P0_ k_) (.slice A0 l0.length c0) l0) (h : pursuivantlaw14_few.f l0 = some r) :
  Calls Tryz.prog 8 #[.slice A0 l0.length c0] w fun e w' => ∃ v0_ : Value, e = .returned (v0_) ∧ Kd.V k45 45 w' w.heap.size (fun k_ => (P0_ k_ ∨ w.heap.size ≤ k_)) v0_ r ∧ Below w.heap.size w w' := by
 have HO0 := Aside0.mk (show Kd.V k45 45 w w.heap.size (fun k_ => (P0_ k_ ∨ w.heap.size ≤ k_)) (.slice A0 l0.length c0) l0 from Kd.V_mono hs0 (fun k_ hk => .inl hk))
 have HB := Aside0.mk (Below.refl w.heap.size w)
 have H : (if (l0.length : Int) > 30 then (if 30 ≤ (l0.length : Int) then (some (l0.take 30)) else (none)) else (some l0)) = some r := h
 clear h
 by_cases c2 : (l0.length : Int) > 30
 ·rw [if_pos c2] at H
  have c2b0 : decide (30 < (l0.length : Int)) = true := decide_eq_true c2
  have c2b1 : decide (30 < l0.length) = true := decide_eq_true (by omega)
  clear c2
  by_cases c3 : 30 ≤ (l0.length : Int)
  ·rw [if_pos c3] at H
   have c3b0 := eq_true c3; have c3b1 : decide (30 ≤ (l0.length : Int)) = true := decide_eq_true c3; clear c3
   obtain ⟨y101, hy101⟩ : ∃ y_ : List (S45), y_ = (l0.take 30) := ⟨_, rfl⟩
   replace H : (some y101) = some r := by first | (rw [hy101]; with_reducible exact H) | (have H2_ := (Option.bind_some _ _).symm.trans H; rw [hy101]; with_reducible exact H2_) | (have H2_ := (Option.bind_some _ _).symm.trans H; with_reducible exact H2_) | with_reducible exact H | (rw [hy101]; exact H) | exact H
   have Ny101 := Aside0.mk hy101; clear hy101
   obtain rfl := Option.some.inj H
   have q4 : (30 : Int) ≤ ((l0.length : Int) : Int) := of_decide_eq_true z55_
   obtain ⟨i04, hi04, _, hsz4, _⟩ := info_parts info45
   have hroom4 : l0.length ≤ c0 := (Kd.V_reads' HO0.out).2.1
   have hC4 : Kd.F k45 _ _ A0 l0.length l0 := (Kd.V_at (base := w.heap.size) HO0.out).2.2
   have hcut4 := cut_to (P := Tryz.prog) 22 45 .i64 Tryz.underlying22 hi04 A0 l0.length c0 30 (by omega) q4 hroom4
   have hr4 := Kd.F_take (m := 30) hC4 (by omega)
   have hy4 : y101.length = (30 : Int).toNat := (by rw [Ny101.out, List.length_take]; omega)
   rw [← Ny101.out] at hr4
   rw [← hy4] at hcut4
   have HO105 := Aside0.mk (show Kd.V k45 45 _ w.heap.size _ (.slice A0 y101.length c0) y101 from Kd.V_mk (by omega) hr4)
   have HC105 := Aside0.mk (show y101.length ≤ c0 from by omega)
   clear hr4 hC4 hroom4 hi04 hsz4; have KY4 := Aside0.mk hy4; clear hy4
   replace q4 := eq_true q4
   go_enter Tryz.func8, Tryz.ntmps8
   go_wp2
   go_ret
   exact ⟨_, z28_, by (with_reducible repeat (first | apply Kd.V_alloc | apply Kd.V_drewN | apply Kd.V_drew)); exact HO105.out, z25_⟩
  ·rw [if_neg c3] at H
   exact absurd H (by simp)
 ·rw [if_neg c2] at H
  have c2b0 : decide (30 < (l0.length : Int)) = false := decide_eq_false c2
  have c2b1 : decide (30 < l0.length) = false := decide_eq_false (by omega)
  clear c2
  obtain rfl := Option.some.inj H
  go_enter Tryz.func8, Tryz.ntmps8
  go_wp2
  go_ret
  exact ⟨_, z28_, by (with_reducible repeat (first | apply Kd.V_alloc | apply Kd.V_drewN | apply Kd.V_drew)); exact HO0.out, z25_⟩

end Go.Proofs.YtfibkgmbgdaeoaaGreatDoor.Hand
