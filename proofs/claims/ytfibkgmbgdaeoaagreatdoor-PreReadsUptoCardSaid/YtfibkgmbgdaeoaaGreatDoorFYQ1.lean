/- What each Go function here computes, and that its call computes it, over contracts proved by hand (written by this project's xprint.py, which drives the kit's print). -/
import Derived.Test.YtfibkgmbgdaeoaaGreatDoorZ
import Derived.Test.YtfibkgmbgdaeoaaGreatDoorK
import Derived.Test.YtfibkgmbgdaeoaaGreatDoorClip
import Derived.Test.YtfibkgmbgdaeoaaGreatDoorPreJ
import Derived.Test.YtfibkgmbgdaeoaaGreatDoorPreL
import Derived.Test.YtfibkgmbgdaeoaaGreatDoorPreR
import Derived.Test.YtfibkgmbgdaeoaaGreatDoorSafeU
import Derived.Test.YtfibkgmbgdaeoaaGreatDoorSafeR
import Derived.Test.YtfibkgmbgdaeoaaGreatDoorList
import Derived.Test.YtfibkgmbgdaeoaaGreatDoorFA1
import Derived.Test.YtfibkgmbgdaeoaaGreatDoorFP1
import Derived.Test.YtfibkgmbgdaeoaaGreatDoorFPB1
import Derived.Test.YtfibkgmbgdaeoaaGreatDoorFYA1
import Derived.Test.YtfibkgmbgdaeoaaGreatDoorFYB1
import Derived.Test.YtfibkgmbgdaeoaaGreatDoorFY1
import Derived.Test.YtfibkgmbgdaeoaaGreatDoorFY2
import Derived.Test.YtfibkgmbgdaeoaaGreatDoorPreA
import Derived.Test.YtfibkgmbgdaeoaaGreatDoorFYP1
namespace Go.Proofs.YtfibkgmbgdaeoaaGreatDoor.Hand
open Go.RowKit Go.Proofs.YtfibkgmbgdaeoaaGreatDoorW.PrintWords Go.Proofs.YtfibkgmbgdaeoaaGreatDoorW.PrintLast Go.Proofs.YtfibkgmbgdaeoaaGreatDoorW.PrintMore
attribute [local go_sem] Instr.field asAgg max2_int min2_int max_two min_two max_three min_three max_four min_four   -- for this text's walks alone
set_option linter.unusedVariables false
set_option linter.unusedSimpArgs false

def pursuivantlaw14_PreReadsN.f (k : Nat) (a0_0 : Int) (l0_1 : List (S45)) (a0_2 : ByteArray) (a1 : ByteArray) (a2 : ByteArray) (l3 : List ByteArray) (a4 : Int) : Option (Bool) := (pursuivantlaw14_few.f l0_1).bind fun t102 => ((pre_Read.f a0_0 t102 a0_2 a1 a4).bind fun bt105 => ((pursuivantref14_Read.f k a0_0 t102 a0_2 a1 a4).bind fun bt114 => ((pursuivantlaw14_awake.f k).bind fun t123 => (if t123 = true then (if (bt105.2.2.2 == bt114.2.2.2) = true then ((pursuivantref04_Same.f k bt105.1 bt114.1).bind fun t124 => (if t124 = true then ((pursuivantref04_Same.f k bt105.2.1 bt114.2.1).bind fun t125 => (if t125 = true then (if bt105.2.2.1 = bt114.2.2.1 then ((pre_Answer_Lets.f bt105.1 bt105.2.1 bt105.2.2.1 a2 l3 a4).bind fun t126 => ((pursuivantref14_Answer_Lets.f k bt114.1 bt114.2.1 bt114.2.2.1 a2 l3 a4).bind fun t127 => (some (t126 == t127)))) else (some false)) else (some false))) else (some false))) else (some false)) else (some false)))))
def pursuivantlaw14_PreReadsN.T7 : Bool × List (List Nat × List Nat) := (true, [([], []), ([0, 0], [0]), ([1], [1]), ([1], [1]), ([2, 3, 1], [1, 2, 3]), ([1, 4], [1, 4]), ([5, 1], [5]), ([6], [6]), ([7, 6], [6, 7]), ([6], [6]), ([9, 6], [6, 9]), ([8, 10, 6, 6], [6, 8, 10]), ([6, 11], [6, 11]), ([12, 11], [12]), ([13], [13]), ([14, 13], [13, 14]), ([13], [13]), ([16, 13], [13, 16]), ([15, 17, 13, 13], [13, 15, 17]), ([13, 18], [13, 18]), ([19, 18], [19]), ([20], [20]), ([21, 20], [20, 21]), ([20], [20]), ([23, 20], [20, 23]), ([22, 24, 20], [20, 22, 24]), ([20, 25], [20, 25]), ([26, 20], [26]), ([27], [27]), ([27], [27]), ([27], [27]), ([27], [27]), ([28, 29, 30, 31, 27, 27], [27, 28, 29, 30, 31]), ([27], [27]), ([27], [27]), ([27], [27]), ([27], [27]), ([33, 34, 35, 36, 32, 27], [27, 33, 34, 35, 36]), ([32, 37, 27], [27, 32, 37]), ([27, 38], [27, 38]), ([39, 37, 0, 1, 2, 3, 4, 5, 6, 7, 8, 9, 10, 11, 12, 13, 14, 15, 16, 17, 18, 19, 20, 21, 22, 23, 24, 25, 26, 27, 28, 29, 30, 31, 32, 33, 34, 35, 36, 37, 38, 39], [39])])
def pursuivantlaw14_PreReadsN.B7 : List Nat := [0, 1, 3, 3, 15, 31, 63, 127, 255, 127, 639, 2047, 4095, 8191, 16383, 32767, 16383, 81919, 262143, 524287, 1048575, 2097151, 4194303, 2097151, 10485759, 33554431, 67108863, 134217727, 268435455, 268435455, 268435455, 268435455, 4294967295, 268435455, 268435455, 268435455, 268435455, 137438953471, 274877906943, 549755813887, 1099511627775]
theorem pursuivantlaw14_PreReadsN.tab7 : rtab .any (opsOf Tryz.f4 7) = pursuivantlaw14_PreReadsN.T7 := by kernel_rfl
theorem pursuivantlaw14_PreReadsN.bits7 : waitsOk pursuivantlaw14_PreReadsN.T7.2 pursuivantlaw14_PreReadsN.B7 = true := by kernel_rfl
set_option maxHeartbeats 8000000 in
set_option maxRecDepth 100000 in
theorem pursuivantlaw14_PreReadsN.callsA (k : Nat) (a0_0 : Int) (A0_1 : Option Addr) (c0_1 : Nat) (l0_1 : List (S45)) (a0_2 : ByteArray) (a1 : ByteArray) (a2 : ByteArray) (A3 : Option Addr) (c3 : Nat) (l3 : List ByteArray) (a4 : Int) (r : Bool) (w : World) (hG_ : GW w) (hr0_1 : Kd.C k45 w A0_1 l0_1.length l0_1) (hc0_1 : l0_1.length ≤ c0_1) (hr3 : Kd.C Kd.string w A3 l3.length l3) (hc3 : l3.length ≤ c3) (hn : ¬12 < l3.length) (h : pursuivantlaw14_PreReadsN.f k a0_0 l0_1 a0_2 a1 a2 l3 a4 = some r) (hr_ : r = true) :
  Calls Tryz.prog 4 #[.agg #[.int .i64 a0_0, .slice A0_1 l0_1.length c0_1, .string a0_2], .string a1, .string a2, .slice A3 l3.length c3, .int .i64 a4] w fun e w' => e = .returned (.bool r) ∧ Below w.heap.size w w' := by
 have hu30 := Tryz.underlying30
 have hu33 := Tryz.underlying33
 have hu36 := Tryz.underlying36
 have HR0_1 := Aside0.mk hr0_1; have HC0_1 := Aside0.mk hc0_1; clear hr0_1 hc0_1; have HR3 := Aside0.mk hr3; have HC3 := Aside0.mk hc3; clear hr3 hc3
 have c0b0 : decide ((l3.length : Int) > 12) = false := decide_eq_false (by omega)
 have c0b1 : decide (l3.length > 12) = false := decide_eq_false (by omega)
 have c0b2 : decide ((12 : Int) < (l3.length : Int)) = false := decide_eq_false (by omega)
 have c0b3 : decide (12 < l3.length) = false := decide_eq_false (by omega)
 clear hn
 have HB := Aside0.mk (Below.refl w.heap.size w)
 have H : ((pursuivantlaw14_few.f l0_1).bind fun t102 => ((pre_Read.f a0_0 t102 a0_2 a1 a4).bind fun bt105 => ((pursuivantref14_Read.f k a0_0 t102 a0_2 a1 a4).bind fun bt114 => ((pursuivantlaw14_awake.f k).bind fun t123 => (if t123 = true then (if (bt105.2.2.2 == bt114.2.2.2) = true then ((pursuivantref04_Same.f k bt105.1 bt114.1).bind fun t124 => (if t124 = true then ((pursuivantref04_Same.f k bt105.2.1 bt114.2.1).bind fun t125 => (if t125 = true then (if bt105.2.2.1 = bt114.2.2.1 then ((pre_Answer_Lets.f bt105.1 bt105.2.1 bt105.2.2.1 a2 l3 a4).bind fun t126 => ((pursuivantref14_Answer_Lets.f k bt114.1 bt114.2.1 bt114.2.2.1 a2 l3 a4).bind fun t127 => (some (t126 == t127)))) else (some false)) else (some false))) else (some false))) else (some false)) else (some false)))))) = some r := h
 clear h
 replace H := Option.bind_eq_some_iff.mp H
 obtain ⟨t102, A60, H⟩ := H
 replace H : ((pre_Read.f a0_0 t102 a0_2 a1 a4).bind fun bt105 => ((pursuivantref14_Read.f k a0_0 t102 a0_2 a1 a4).bind fun bt114 => ((pursuivantlaw14_awake.f k).bind fun t123 => (if t123 = true then (if (bt105.2.2.2 == bt114.2.2.2) = true then ((pursuivantref04_Same.f k bt105.1 bt114.1).bind fun t124 => (if t124 = true then ((pursuivantref04_Same.f k bt105.2.1 bt114.2.1).bind fun t125 => (if t125 = true then (if bt105.2.2.1 = bt114.2.2.1 then ((pre_Answer_Lets.f bt105.1 bt105.2.1 bt105.2.2.1 a2 l3 a4).bind fun t126 => ((pursuivantref14_Answer_Lets.f k bt114.1 bt114.2.1 bt114.2.2.1 a2 l3 a4).bind fun t127 => (some (t126 == t127)))) else (some false)) else (some false))) else (some false))) else (some false)) else (some false))))) = some r := H
 have A6 := Aside0.mk A60; clear A60
 replace H := Option.bind_eq_some_iff.mp H
 obtain ⟨⟨t105, t108, t111, t112⟩, A70, H⟩ := H
 replace H : ((pursuivantref14_Read.f k a0_0 t102 a0_2 a1 a4).bind fun bt114 => ((pursuivantlaw14_awake.f k).bind fun t123 => (if t123 = true then (if (t112 == bt114.2.2.2) = true then ((pursuivantref04_Same.f k t105 bt114.1).bind fun t124 => (if t124 = true then ((pursuivantref04_Same.f k t108 bt114.2.1).bind fun t125 => (if t125 = true then (if t111 = bt114.2.2.1 then ((pre_Answer_Lets.f t105 t108 t111 a2 l3 a4).bind fun t126 => ((pursuivantref14_Answer_Lets.f k bt114.1 bt114.2.1 bt114.2.2.1 a2 l3 a4).bind fun t127 => (some (t126 == t127)))) else (some false)) else (some false))) else (some false))) else (some false)) else (some false)))) = some r := H
 have A7 := Aside0.mk A70; clear A70
 replace H := Option.bind_eq_some_iff.mp H
 obtain ⟨⟨t114, t117, t120, t121⟩, A80, H⟩ := H
 replace H : ((pursuivantlaw14_awake.f k).bind fun t123 => (if t123 = true then (if (t112 == t121) = true then ((pursuivantref04_Same.f k t105 t114).bind fun t124 => (if t124 = true then ((pursuivantref04_Same.f k t108 t117).bind fun t125 => (if t125 = true then (if t111 = t120 then ((pre_Answer_Lets.f t105 t108 t111 a2 l3 a4).bind fun t126 => ((pursuivantref14_Answer_Lets.f k t114 t117 t120 a2 l3 a4).bind fun t127 => (some (t126 == t127)))) else (some false)) else (some false))) else (some false))) else (some false)) else (some false))) = some r := H
 have A8 := Aside0.mk A80; clear A80
 replace H := Option.bind_eq_some_iff.mp H
 obtain ⟨t123, A90, H⟩ := H
 replace H : (if t123 = true then (if (t112 == t121) = true then ((pursuivantref04_Same.f k t105 t114).bind fun t124 => (if t124 = true then ((pursuivantref04_Same.f k t108 t117).bind fun t125 => (if t125 = true then (if t111 = t120 then ((pre_Answer_Lets.f t105 t108 t111 a2 l3 a4).bind fun t126 => ((pursuivantref14_Answer_Lets.f k t114 t117 t120 a2 l3 a4).bind fun t127 => (some (t126 == t127)))) else (some false)) else (some false))) else (some false))) else (some false)) else (some false)) = some r := H
 have A9 := Aside0.mk A90; clear A90
 by_cases c10 : t123 = true
 ·subst c10
  have H1 : (if (t112 == t121) = true then ((pursuivantref04_Same.f k t105 t114).bind fun t124 => (if t124 = true then ((pursuivantref04_Same.f k t108 t117).bind fun t125 => (if t125 = true then (if t111 = t120 then ((pre_Answer_Lets.f t105 t108 t111 a2 l3 a4).bind fun t126 => ((pursuivantref14_Answer_Lets.f k t114 t117 t120 a2 l3 a4).bind fun t127 => (some (t126 == t127)))) else (some false)) else (some false))) else (some false))) else (some false)) = some r := by rw [if_pos rfl] at H; exact H
  clear H
  have H := H1
  clear H1
  by_cases c11 : (t112 == t121) = true
  ·rw [if_pos c11] at H
   have c11b0 : (t112 == t121) = true := c11
   (try (have c11b1 : decide (t112 = t121) = true := by simpa using c11))
   (try (have c11b2 : (t112 == t121) = true := by simpa using c11))
   clear c11
   replace H := Option.bind_eq_some_iff.mp H
   obtain ⟨t124, A120, H⟩ := H
   replace H : (if t124 = true then ((pursuivantref04_Same.f k t108 t117).bind fun t125 => (if t125 = true then (if t111 = t120 then ((pre_Answer_Lets.f t105 t108 t111 a2 l3 a4).bind fun t126 => ((pursuivantref14_Answer_Lets.f k t114 t117 t120 a2 l3 a4).bind fun t127 => (some (t126 == t127)))) else (some false)) else (some false))) else (some false)) = some r := H
   have A12 := Aside0.mk A120; clear A120
   by_cases c13 : t124 = true
   ·subst c13
    have H1 : ((pursuivantref04_Same.f k t108 t117).bind fun t125 => (if t125 = true then (if t111 = t120 then ((pre_Answer_Lets.f t105 t108 t111 a2 l3 a4).bind fun t126 => ((pursuivantref14_Answer_Lets.f k t114 t117 t120 a2 l3 a4).bind fun t127 => (some (t126 == t127)))) else (some false)) else (some false))) = some r := by rw [if_pos rfl] at H; exact H
    clear H
    have H := H1
    clear H1
    replace H := Option.bind_eq_some_iff.mp H
    obtain ⟨t125, A140, H⟩ := H
    replace H : (if t125 = true then (if t111 = t120 then ((pre_Answer_Lets.f t105 t108 t111 a2 l3 a4).bind fun t126 => ((pursuivantref14_Answer_Lets.f k t114 t117 t120 a2 l3 a4).bind fun t127 => (some (t126 == t127)))) else (some false)) else (some false)) = some r := H
    have A14 := Aside0.mk A140; clear A140
    by_cases c15 : t125 = true
    ·subst c15
     have H1 : (if t111 = t120 then ((pre_Answer_Lets.f t105 t108 t111 a2 l3 a4).bind fun t126 => ((pursuivantref14_Answer_Lets.f k t114 t117 t120 a2 l3 a4).bind fun t127 => (some (t126 == t127)))) else (some false)) = some r := by rw [if_pos rfl] at H; exact H
     clear H
     have H := H1
     clear H1
     by_cases c16 : t111 = t120
     ·rw [if_pos c16] at H
      have c16b0 : (t111 == t120) = true := beq_iff_eq.mpr c16
      have c16b1 : (t111 != t120) = false := bne_eq_false_iff_eq.mpr c16
      clear c16
      replace H := Option.bind_eq_some_iff.mp H
      obtain ⟨t126, A170, H⟩ := H
      replace H : ((pursuivantref14_Answer_Lets.f k t114 t117 t120 a2 l3 a4).bind fun t127 => (some (t126 == t127))) = some r := H
      have A17 := Aside0.mk A170; clear A170
      replace H := Option.bind_eq_some_iff.mp H
      obtain ⟨t127, A180, H⟩ := H
      replace H : (some (t126 == t127)) = some r := H
      have A18 := Aside0.mk A180; clear A180
      obtain rfl := Option.some.inj H
      go_enter Tryz.func4, Tryz.ntmps4
      try go_wp2_with (first | ((with_reducible refine gate_dst (N := 5) rfl ?_); refine box_event ?hg (N := 5) ?hd (cs := #[.int .i64 a0_0, .slice A0_1 l0_1.length c0_1, .string a0_2]) (t := 30) ?hr ?_; (case hd => rfl); (case hg => rfl); (case hr => first | (go_simp; done) | (go_simp; rfl)); intro gb101 hg w19 hbox hb; have n0_ := Aside0.mk (below_step z25_ hb); have n1_ := Aside0.mk (hbox); have n2_ := Aside0.mk ((by rw [hg]; exact (below_size z25_) : w.heap.size ≤ gb101)); have n3_ := Aside0.mk ((by rw [hg]; exact (below_size z25_) : w.heap.size ≤ gb101)); clear HB; have HB := n0_; have BK101 := n1_; have GW101 := n2_; have GE101 := n3_; clear n0_ n1_ n2_ n3_; clear hb hbox hg; have hcz20_0 : w19.cell? ⟨gb101, 0, none⟩ = some (.int .i64 a0_0) := (blk_cell BK101.out 0).trans rfl; have hcz20_1 : w19.cell? ⟨gb101, 1, none⟩ = some (.slice A0_1 l0_1.length c0_1) := (blk_cell BK101.out 1).trans rfl; have hcz20_2 : w19.cell? ⟨gb101, 2, none⟩ = some (.string a0_2) := (blk_cell BK101.out 2).trans rfl; have hfz20_0 := blk_frozen BK101.out 0; have hfz20_1 := blk_frozen BK101.out 1; have hfz20_2 := blk_frozen BK101.out 2) | ((with_reducible refine gate_callee (f := 8) rfl ?_); refine goesL_ (some 18) rfl rfl Tryz.func8 (by kernel_rfl) rfl #[.slice A0_1 l0_1.length c0_1] rfl z24_ ?_; (with_reducible refine (pursuivantlaw14_few.calls (fun k_ => k_ < w.heap.size) _ _ l0_1 t102 _ ?gw1_ ?side1 A6.out).mono ?_); (case gw1_ => exact z1_); (case side1 => exact Kd.V_mk HC0_1.out (Kd.F_below (Kd.C_F k45_heap HR0_1.out) z18_)); rintro e w21 ⟨v103, rfl, ho0, hb⟩; refine ⟨_, rfl, ?_⟩; have n0_ := Aside0.mk (Kd.V_lower (Kd.V_mono (ok' := fun k_ => k_ ≠ gb101) ho0 (fun k_ hk_ => Or.elim hk_ (fun hs_ => fun e_ => Nat.not_le.2 hs_ (by rw [e_]; exact GW101.out)) (fun hn_ => (Kd.freshB (g := gb101) (o := .cells #[.int .i64 a0_0, .slice A0_1 l0_1.length c0_1, .string a0_2] 30 (0, 0)) z38_ k_ hn_)))) (below_size z18_)); have n1_ := Aside0.mk (blk_below (g := gb101) (o := .cells #[.int .i64 a0_0, .slice A0_1 l0_1.length c0_1, .string a0_2] 30 (0, 0)) z38_ hb); have n2_ := Aside0.mk (below_step z18_ hb); clear BK101; clear HB; have HO104 := n0_; have BK101 := n1_; have HB := n2_; clear n0_ n1_ n2_; (try clear hb); (try clear hb2); (try clear hk); (try clear hi); (try clear ho0); obtain ⟨Ao22, co22, eo22⟩ := Kd.V_slice HO104.out; subst eo22; have hcz23_0 : w21.cell? ⟨gb101, 0, none⟩ = some (.int .i64 a0_0) := (blk_cell BK101.out 0).trans rfl; have hcz23_1 : w21.cell? ⟨gb101, 1, none⟩ = some (.slice A0_1 l0_1.length c0_1) := (blk_cell BK101.out 1).trans rfl; have hcz23_2 : w21.cell? ⟨gb101, 2, none⟩ = some (.string a0_2) := (blk_cell BK101.out 2).trans rfl; have hfz23_0 := blk_frozen BK101.out 0; have hfz23_1 := blk_frozen BK101.out 1; have hfz23_2 := blk_frozen BK101.out 2) | ((with_reducible refine gate_callee (f := 13) rfl ?_); refine goesL_ (some 30) rfl rfl Tryz.func13 (by kernel_rfl) rfl #[.agg #[.int .i64 a0_0, .slice Ao22 t102.length co22, .string a0_2], .string a1, .int .i64 a4] rfl z24_ ?_; (with_reducible refine (pre_Read.calls a0_0 _ _ t102 a0_2 a1 a4 t105 t108 t111 t112 _ ?gw2_ ?side1 ?side2 A7.out).mono ?_); (case gw2_ => exact z1_); (case side1 => refine (Kd.V_reads' (e := 45) (base := w.heap.size) (ok := fun k_ => k_ ≠ gb101) (n := t102.length) (c := co22) ?_).2.2; exact z8_); (case side2 => exact (Kd.V_reads' HO104.out).2.1); rintro e w24 ⟨v106, v109, rfl, ho0, ho1, hb⟩; refine ⟨_, rfl, ?_⟩; have n0_ := Aside0.mk (Kd.V_below z8_ hb); have n1_ := Aside0.mk (Kd.V_lower (Kd.V_mono (ok' := fun k_ => k_ ≠ gb101) ho0 (fun k_ hk_ => (Kd.freshB (g := gb101) (o := .cells #[.int .i64 a0_0, .slice Ao22 t102.length co22, .string a0_2] 30 (0, 0)) z6_ k_ hk_))) (below_size z18_)); have n2_ := Aside0.mk (Kd.V_lower (Kd.V_mono (ok' := fun k_ => k_ ≠ gb101) ho1 (fun k_ hk_ => (Kd.freshB (g := gb101) (o := .cells #[.int .i64 a0_0, .slice Ao22 t102.length co22, .string a0_2] 30 (0, 0)) z6_ k_ hk_))) (below_size z18_)); have n3_ := Aside0.mk (blk_below (g := gb101) (o := .cells #[.int .i64 a0_0, .slice Ao22 t102.length co22, .string a0_2] 30 (0, 0)) z6_ hb); have n4_ := Aside0.mk (below_step z18_ hb); clear HO104; clear BK101; clear HB; have HO104 := n0_; have HO107 := n1_; have HO110 := n2_; have BK101 := n3_; have HB := n4_; clear n0_ n1_ n2_ n3_ n4_; (try clear hb); (try clear hb2); (try clear hk); (try clear hi); (try clear ho0); (try clear ho1)) | ((with_reducible refine gate_dst (N := 12) rfl ?_); refine box_event ?hg (N := 12) ?hd (cs := #[.slice none 0 0, .slice none 0 0, .int .i64 0]) (t := 33) ?hr ?_; (case hd => rfl); (case hg => rfl); (case hr => first | (go_simp; done) | (go_simp; rfl)); intro gb113 hg w25 hbox hb; have n0_ := Aside0.mk (Kd.V_below (Kd.V_elderB z46_ gb113 (Nat.le_of_eq hg.symm)) hb); have n1_ := Aside0.mk (Kd.V_below (Kd.V_elderB z47_ gb113 (Nat.le_of_eq hg.symm)) hb); have n2_ := Aside0.mk (Kd.V_below (Kd.V_elderB z44_ gb113 (Nat.le_of_eq hg.symm)) hb); have n3_ := Aside0.mk (blk_below (g := gb101) (o := .cells #[.int .i64 a0_0, .slice Ao22 t102.length co22, .string a0_2] 30 (0, 0)) z38_ hb); have n4_ := Aside0.mk (below_step z18_ hb); have n5_ := Aside0.mk (hbox); have n6_ := Aside0.mk ((by rw [hg]; exact (below_size z18_) : w.heap.size ≤ gb113)); have n7_ := Aside0.mk ((by rw [hg]; exact (below_size z18_) : w.heap.size ≤ gb113)); have n8_ := Aside0.mk ((by rw [hg]; exact Nat.ne_of_lt (blk_lt (g := gb101) (o := .cells #[.int .i64 a0_0, .slice Ao22 t102.length co22, .string a0_2] 30 (0, 0)) z38_) : gb101 ≠ gb113)); have n9_ := Aside0.mk ((by rw [hg]; exact Nat.ne_of_gt (blk_lt (g := gb101) (o := .cells #[.int .i64 a0_0, .slice Ao22 t102.length co22, .string a0_2] 30 (0, 0)) z38_) : gb113 ≠ gb101)); clear HO104; clear HO107; clear HO110; clear BK101; clear HB; have HO104 := n0_; have HO107 := n1_; have HO110 := n2_; have BK101 := n3_; have HB := n4_; have BK113 := n5_; have GW113 := n6_; have GE113 := n7_; have NB101_113 := n8_; have NB113_101 := n9_; clear n0_ n1_ n2_ n3_ n4_ n5_ n6_ n7_ n8_ n9_; clear hb hbox hg; obtain ⟨Ao26, co26, eo26⟩ := Kd.V_slice HO107.out; subst eo26; have hnb27 := NB113_101.out; have hnc27 := NB101_113.out; have hcz28_0 : w25.cell? ⟨gb113, 0, none⟩ = some (.slice none 0 0) := (blk_cell BK113.out 0).trans rfl; have hcz28_1 : w25.cell? ⟨gb113, 1, none⟩ = some (.slice none 0 0) := (blk_cell BK113.out 1).trans rfl; have hcz28_2 : w25.cell? ⟨gb113, 2, none⟩ = some (.int .i64 0) := (blk_cell BK113.out 2).trans rfl; have hfz28_0 := blk_frozen BK113.out 0; have hfz28_1 := blk_frozen BK113.out 1; have hfz28_2 := blk_frozen BK113.out 2; obtain ⟨Ao29, co29, eo29⟩ := Kd.V_slice HO110.out; subst eo29; have hcz30_0 : w25.cell? ⟨gb101, 0, none⟩ = some (.int .i64 a0_0) := (blk_cell BK101.out 0).trans rfl; have hcz30_1 : w25.cell? ⟨gb101, 1, none⟩ = some (.slice Ao22 t102.length co22) := (blk_cell BK101.out 1).trans rfl; have hcz30_2 : w25.cell? ⟨gb101, 2, none⟩ = some (.string a0_2) := (blk_cell BK101.out 2).trans rfl; have hfz30_0 := blk_frozen BK101.out 0; have hfz30_1 := blk_frozen BK101.out 1; have hfz30_2 := blk_frozen BK101.out 2) | ((with_reducible refine gate_callee (f := 14) rfl ?_); refine goesL_ (some 37) rfl rfl Tryz.func14 (by kernel_rfl) rfl #[.agg #[.int .i64 a0_0, .slice Ao22 t102.length co22, .string a0_2], .string a1, .int .i64 a4] rfl z24_ ?_; (with_reducible refine (pursuivantref14_Read.calls k a0_0 _ _ t102 a0_2 a1 a4 t114 t117 t120 t121 _ ?gw3_ ?side1 ?side2 A8.out).mono ?_); (case gw3_ => exact z1_); (case side1 => refine (Kd.V_reads' (e := 45) (base := w.heap.size) (ok := fun k_ => (k_ ≠ gb101 ∧ k_ ≠ gb113)) (n := t102.length) (c := co22) ?_).2.2; exact z5_); (case side2 => exact (Kd.V_reads' HO104.out).2.1); rintro e w31 ⟨v115, v118, rfl, ho0, ho1, hb⟩; refine ⟨_, rfl, ?_⟩; have n0_ := Aside0.mk (Kd.V_mono (Kd.V_told (Kd.V_told (Kd.V_old z5_ hb) (Kd.R_base ho0)) (Kd.R_base ho1)) (fun _ h_ => h_.1)); have n1_ := Aside0.mk (Kd.V_mono (Kd.V_told (Kd.V_told (Kd.V_old (by (with_reducible repeat (first | apply Kd.V_alloc | apply Kd.V_drewN | apply Kd.V_drew)); exact (Kd.V_mono (Kd.V_far (p := ⟨gb113, 2, none⟩) (Kd.V_far (p := ⟨gb113, 1, none⟩) (Kd.V_far (p := ⟨gb113, 0, none⟩) (Kd.V_mono HO107.out (fun k_ hk => (⟨hk, hk.2⟩ : _ ∧ k_ ≠ gb113))) (fun _ hk => hk.2) (.slice Ao26 t105.length co26)) (fun _ hk => hk.2) (.slice Ao29 t108.length co29)) (fun _ hk => hk.2) (.int .i64 t111)) (fun _ h_ => h_.1))) hb) (Kd.R_base ho0)) (Kd.R_base ho1)) (fun _ h_ => h_.1)); have n2_ := Aside0.mk (Kd.V_mono (Kd.V_told (Kd.V_told (Kd.V_old (by (with_reducible repeat (first | apply Kd.V_alloc | apply Kd.V_drewN | apply Kd.V_drew)); exact (Kd.V_mono (Kd.V_far (p := ⟨gb113, 2, none⟩) (Kd.V_far (p := ⟨gb113, 1, none⟩) (Kd.V_far (p := ⟨gb113, 0, none⟩) (Kd.V_mono HO110.out (fun k_ hk => (⟨hk, hk.2⟩ : _ ∧ k_ ≠ gb113))) (fun _ hk => hk.2) (.slice Ao26 t105.length co26)) (fun _ hk => hk.2) (.slice Ao29 t108.length co29)) (fun _ hk => hk.2) (.int .i64 t111)) (fun _ h_ => h_.1))) hb) (Kd.R_base ho0)) (Kd.R_base ho1)) (fun _ h_ => h_.1)); have n3_ := Aside0.mk (Kd.R_lower ho0 (below_size z13_)); have n4_ := Aside0.mk (Kd.R_lower ho1 (below_size z13_)); have n5_ := Aside0.mk (blk_below (g := gb101) (o := .cells #[.int .i64 a0_0, .slice Ao22 t102.length co22, .string a0_2] 30 (0, 0)) (by (with_reducible repeat (first | refine blk_drewN ?_ _ | refine blk_drew ?_ | refine blk_alloc ?_ _)); refine blk_far ?_ NB101_113.out _; (with_reducible repeat (first | refine blk_drewN ?_ _ | refine blk_drew ?_ | refine blk_alloc ?_ _)); refine blk_far ?_ NB101_113.out _; (with_reducible repeat (first | refine blk_drewN ?_ _ | refine blk_drew ?_ | refine blk_alloc ?_ _)); refine blk_far ?_ NB101_113.out _; (with_reducible repeat (first | refine blk_drewN ?_ _ | refine blk_drew ?_ | refine blk_alloc ?_ _)); exact BK101.out) hb); have n6_ := Aside0.mk (blk_below (g := gb113) (o := .cells #[.slice Ao26 t105.length co26, .slice Ao29 t108.length co29, .int .i64 t111] 33 (0, 0)) (by (with_reducible repeat (first | refine blk_drewN ?_ _ | refine blk_drew ?_ | refine blk_alloc ?_ _)); refine blk_put (cs := #[.slice Ao26 t105.length co26, .slice Ao29 t108.length co29, .int .i64 0]) ?_ 2 _ rfl; (with_reducible repeat (first | refine blk_drewN ?_ _ | refine blk_drew ?_ | refine blk_alloc ?_ _)); refine blk_put (cs := #[.slice Ao26 t105.length co26, .slice none 0 0, .int .i64 0]) ?_ 1 _ rfl; (with_reducible repeat (first | refine blk_drewN ?_ _ | refine blk_drew ?_ | refine blk_alloc ?_ _)); refine blk_put (cs := #[.slice none 0 0, .slice none 0 0, .int .i64 0]) ?_ 0 _ rfl; (with_reducible repeat (first | refine blk_drewN ?_ _ | refine blk_drew ?_ | refine blk_alloc ?_ _)); exact BK113.out) hb); have n7_ := Aside0.mk (below_step z13_ hb); clear HO104; clear HO107; clear HO110; clear BK101; clear BK113; clear HB; have HO104 := n0_; have HO107 := n1_; have HO110 := n2_; have HO116 := n3_; have HO119 := n4_; have BK101 := n5_; have BK113 := n6_; have HB := n7_; clear n0_ n1_ n2_ n3_ n4_ n5_ n6_ n7_; (try clear hb); (try clear hb2); (try clear hk); (try clear hi); (try clear ho0); (try clear ho1)) | ((with_reducible refine gate_dst (N := 14) rfl ?_); refine box_event ?hg (N := 14) ?hd (cs := #[.slice none 0 0, .slice none 0 0, .int .i64 0]) (t := 36) ?hr ?_; (case hd => rfl); (case hg => rfl); (case hr => first | (go_simp; done) | (go_simp; rfl)); intro gb122 hg w32 hbox hb; have n0_ := Aside0.mk (Kd.V_below (Kd.V_elderB z46_ gb122 (Nat.le_of_eq hg.symm)) hb); have n1_ := Aside0.mk (Kd.V_below (Kd.V_elderB z47_ gb122 (Nat.le_of_eq hg.symm)) hb); have n2_ := Aside0.mk (Kd.V_below (Kd.V_elderB z44_ gb122 (Nat.le_of_eq hg.symm)) hb); have n3_ := Aside0.mk (Kd.R_below z48_ hb); have n4_ := Aside0.mk (Kd.R_below z49_ hb); have n5_ := Aside0.mk (blk_below (g := gb101) (o := .cells #[.int .i64 a0_0, .slice Ao22 t102.length co22, .string a0_2] 30 (0, 0)) z38_ hb); have n6_ := Aside0.mk (blk_below (g := gb113) (o := .cells #[.slice Ao26 t105.length co26, .slice Ao29 t108.length co29, .int .i64 t111] 33 (0, 0)) z39_ hb); have n7_ := Aside0.mk (below_step z13_ hb); have n8_ := Aside0.mk (hbox); have n9_ := Aside0.mk ((by rw [hg]; exact (below_size z13_) : w.heap.size ≤ gb122)); have n10_ := Aside0.mk ((by rw [hg]; exact (below_size z13_) : w.heap.size ≤ gb122)); have n11_ := Aside0.mk ((by rw [hg]; exact Nat.ne_of_lt (blk_lt (g := gb101) (o := .cells #[.int .i64 a0_0, .slice Ao22 t102.length co22, .string a0_2] 30 (0, 0)) z38_) : gb101 ≠ gb122)); have n12_ := Aside0.mk ((by rw [hg]; exact Nat.ne_of_gt (blk_lt (g := gb101) (o := .cells #[.int .i64 a0_0, .slice Ao22 t102.length co22, .string a0_2] 30 (0, 0)) z38_) : gb122 ≠ gb101)); have n13_ := Aside0.mk ((by rw [hg]; exact Nat.ne_of_lt (blk_lt (g := gb113) (o := .cells #[.slice Ao26 t105.length co26, .slice Ao29 t108.length co29, .int .i64 t111] 33 (0, 0)) z39_) : gb113 ≠ gb122)); have n14_ := Aside0.mk ((by rw [hg]; exact Nat.ne_of_gt (blk_lt (g := gb113) (o := .cells #[.slice Ao26 t105.length co26, .slice Ao29 t108.length co29, .int .i64 t111] 33 (0, 0)) z39_) : gb122 ≠ gb113)); clear HO104; clear HO107; clear HO110; clear HO116; clear HO119; clear BK101; clear BK113; clear HB; have HO104 := n0_; have HO107 := n1_; have HO110 := n2_; have HO116 := n3_; have HO119 := n4_; have BK101 := n5_; have BK113 := n6_; have HB := n7_; have BK122 := n8_; have GW122 := n9_; have GE122 := n10_; have NB101_122 := n11_; have NB122_101 := n12_; have NB113_122 := n13_; have NB122_113 := n14_; clear n0_ n1_ n2_ n3_ n4_ n5_ n6_ n7_ n8_ n9_ n10_ n11_ n12_ n13_ n14_; clear hb hbox hg; obtain ⟨Ao33, co33, eo33⟩ := Kd.R_slice HO116.out; subst eo33; have hnb34 := NB122_101.out; have hnc34 := NB101_122.out; have hnb35 := NB122_113.out; have hnc35 := NB113_122.out; have hcz36_0 : w32.cell? ⟨gb122, 0, none⟩ = some (.slice none 0 0) := (blk_cell BK122.out 0).trans rfl; have hcz36_1 : w32.cell? ⟨gb122, 1, none⟩ = some (.slice none 0 0) := (blk_cell BK122.out 1).trans rfl; have hcz36_2 : w32.cell? ⟨gb122, 2, none⟩ = some (.int .i64 0) := (blk_cell BK122.out 2).trans rfl; have hfz36_0 := blk_frozen BK122.out 0; have hfz36_1 := blk_frozen BK122.out 1; have hfz36_2 := blk_frozen BK122.out 2; obtain ⟨Ao37, co37, eo37⟩ := Kd.R_slice HO119.out; subst eo37))
      have n0_ : Aside0 (Kd.V k45 45 (((w32.setCell ⟨gb122, 0, none⟩ (.slice Ao33 t114.length co33)).setCell ⟨gb122, 1, none⟩ (.slice Ao37 t117.length co37)).setCell ⟨gb122, 2, none⟩ (.int .i64 t120)) w.heap.size (fun k_ => some k_ ≠ (.slice Ao33 t114.length co33 : Value).ownBlock ∧ some k_ ≠ (.slice Ao37 t117.length co37 : Value).ownBlock ∧ k_ ≠ gb101 ∧ k_ ≠ gb113 ∧ k_ ≠ gb122) (.slice Ao22 t102.length co22) t102) := ⟨by (with_reducible repeat (first | apply Kd.V_alloc | apply Kd.V_drewN | apply Kd.V_drew)); exact Kd.V_mono (Kd.V_far (p := ⟨gb122, 2, none⟩) (Kd.V_far (p := ⟨gb122, 1, none⟩) (Kd.V_far (p := ⟨gb122, 0, none⟩) (Kd.V_mono HO104.out (fun k_ hk => (⟨hk, hk.2⟩ : _ ∧ k_ ≠ gb122))) (fun _ hk => hk.2) (.slice Ao33 t114.length co33)) (fun _ hk => hk.2) (.slice Ao37 t117.length co37)) (fun _ hk => hk.2) (.int .i64 t120)) (fun _ hk => ⟨hk.1.1.1.2, ⟨hk.1.1.2, ⟨hk.1.1.1.1.1, ⟨hk.1.1.1.1.2, hk.1.2⟩⟩⟩⟩)⟩
      have n1_ : Aside0 (Kd.V Kd.string 9 (((w32.setCell ⟨gb122, 0, none⟩ (.slice Ao33 t114.length co33)).setCell ⟨gb122, 1, none⟩ (.slice Ao37 t117.length co37)).setCell ⟨gb122, 2, none⟩ (.int .i64 t120)) w.heap.size (fun k_ => some k_ ≠ (.slice Ao33 t114.length co33 : Value).ownBlock ∧ some k_ ≠ (.slice Ao37 t117.length co37 : Value).ownBlock ∧ k_ ≠ gb101 ∧ k_ ≠ gb113 ∧ k_ ≠ gb122) (.slice Ao26 t105.length co26) t105) := ⟨by (with_reducible repeat (first | apply Kd.V_alloc | apply Kd.V_drewN | apply Kd.V_drew)); exact Kd.V_mono (Kd.V_far (p := ⟨gb122, 2, none⟩) (Kd.V_far (p := ⟨gb122, 1, none⟩) (Kd.V_far (p := ⟨gb122, 0, none⟩) (Kd.V_mono HO107.out (fun k_ hk => (⟨hk, hk.2⟩ : _ ∧ k_ ≠ gb122))) (fun _ hk => hk.2) (.slice Ao33 t114.length co33)) (fun _ hk => hk.2) (.slice Ao37 t117.length co37)) (fun _ hk => hk.2) (.int .i64 t120)) (fun _ hk => ⟨hk.1.1.1.2, ⟨hk.1.1.2, ⟨hk.1.1.1.1.1, ⟨hk.1.1.1.1.2, hk.1.2⟩⟩⟩⟩)⟩
      have n2_ : Aside0 (Kd.V Kd.string 9 (((w32.setCell ⟨gb122, 0, none⟩ (.slice Ao33 t114.length co33)).setCell ⟨gb122, 1, none⟩ (.slice Ao37 t117.length co37)).setCell ⟨gb122, 2, none⟩ (.int .i64 t120)) w.heap.size (fun k_ => some k_ ≠ (.slice Ao33 t114.length co33 : Value).ownBlock ∧ some k_ ≠ (.slice Ao37 t117.length co37 : Value).ownBlock ∧ k_ ≠ gb101 ∧ k_ ≠ gb113 ∧ k_ ≠ gb122) (.slice Ao29 t108.length co29) t108) := ⟨by (with_reducible repeat (first | apply Kd.V_alloc | apply Kd.V_drewN | apply Kd.V_drew)); exact Kd.V_mono (Kd.V_far (p := ⟨gb122, 2, none⟩) (Kd.V_far (p := ⟨gb122, 1, none⟩) (Kd.V_far (p := ⟨gb122, 0, none⟩) (Kd.V_mono HO110.out (fun k_ hk => (⟨hk, hk.2⟩ : _ ∧ k_ ≠ gb122))) (fun _ hk => hk.2) (.slice Ao33 t114.length co33)) (fun _ hk => hk.2) (.slice Ao37 t117.length co37)) (fun _ hk => hk.2) (.int .i64 t120)) (fun _ hk => ⟨hk.1.1.1.2, ⟨hk.1.1.2, ⟨hk.1.1.1.1.1, ⟨hk.1.1.1.1.2, hk.1.2⟩⟩⟩⟩)⟩
      have n3_ : Aside0 (Kd.R Kd.string 9 (((w32.setCell ⟨gb122, 0, none⟩ (.slice Ao33 t114.length co33)).setCell ⟨gb122, 1, none⟩ (.slice Ao37 t117.length co37)).setCell ⟨gb122, 2, none⟩ (.int .i64 t120)) w.heap.size (fun k_ => some k_ ≠ (.slice Ao37 t117.length co37 : Value).ownBlock) (.slice Ao33 t114.length co33) t114) := ⟨by (with_reducible repeat (first | apply Kd.R_alloc | apply Kd.R_drewN | apply Kd.R_drew)); exact Kd.R_mono (Kd.R_far (p := ⟨gb122, 2, none⟩) (Kd.R_far (p := ⟨gb122, 1, none⟩) (Kd.R_far (p := ⟨gb122, 0, none⟩) (Kd.R_types HO116.out BK122.out (by decide)) (fun _ hk => hk.2) (.slice Ao33 t114.length co33)) (fun _ hk => hk.2) (.slice Ao37 t117.length co37)) (fun _ hk => hk.2) (.int .i64 t120)) (fun _ hk => hk.1)⟩
      have n4_ : Aside0 (Kd.R Kd.string 9 (((w32.setCell ⟨gb122, 0, none⟩ (.slice Ao33 t114.length co33)).setCell ⟨gb122, 1, none⟩ (.slice Ao37 t117.length co37)).setCell ⟨gb122, 2, none⟩ (.int .i64 t120)) w.heap.size (fun k_ => some k_ ≠ (.slice Ao33 t114.length co33 : Value).ownBlock) (.slice Ao37 t117.length co37) t117) := ⟨by (with_reducible repeat (first | apply Kd.R_alloc | apply Kd.R_drewN | apply Kd.R_drew)); exact Kd.R_mono (Kd.R_far (p := ⟨gb122, 2, none⟩) (Kd.R_far (p := ⟨gb122, 1, none⟩) (Kd.R_far (p := ⟨gb122, 0, none⟩) (Kd.R_types HO119.out BK122.out (by decide)) (fun _ hk => hk.2) (.slice Ao33 t114.length co33)) (fun _ hk => hk.2) (.slice Ao37 t117.length co37)) (fun _ hk => hk.2) (.int .i64 t120)) (fun _ hk => hk.1)⟩
      have n5_ : Aside0 ((((w32.setCell ⟨gb122, 0, none⟩ (.slice Ao33 t114.length co33)).setCell ⟨gb122, 1, none⟩ (.slice Ao37 t117.length co37)).setCell ⟨gb122, 2, none⟩ (.int .i64 t120)).heap[gb101]? = some (.cells #[.int .i64 a0_0, .slice Ao22 t102.length co22, .string a0_2] 30 (0, 0))) := ⟨by (with_reducible repeat (first | refine blk_drewN ?_ _ | refine blk_drew ?_ | refine blk_alloc ?_ _)); refine blk_far ?_ NB101_122.out _; (with_reducible repeat (first | refine blk_drewN ?_ _ | refine blk_drew ?_ | refine blk_alloc ?_ _)); refine blk_far ?_ NB101_122.out _; (with_reducible repeat (first | refine blk_drewN ?_ _ | refine blk_drew ?_ | refine blk_alloc ?_ _)); refine blk_far ?_ NB101_122.out _; (with_reducible repeat (first | refine blk_drewN ?_ _ | refine blk_drew ?_ | refine blk_alloc ?_ _)); exact BK101.out⟩
      have n6_ : Aside0 ((((w32.setCell ⟨gb122, 0, none⟩ (.slice Ao33 t114.length co33)).setCell ⟨gb122, 1, none⟩ (.slice Ao37 t117.length co37)).setCell ⟨gb122, 2, none⟩ (.int .i64 t120)).heap[gb113]? = some (.cells #[.slice Ao26 t105.length co26, .slice Ao29 t108.length co29, .int .i64 t111] 33 (0, 0))) := ⟨by (with_reducible repeat (first | refine blk_drewN ?_ _ | refine blk_drew ?_ | refine blk_alloc ?_ _)); refine blk_far ?_ NB113_122.out _; (with_reducible repeat (first | refine blk_drewN ?_ _ | refine blk_drew ?_ | refine blk_alloc ?_ _)); refine blk_far ?_ NB113_122.out _; (with_reducible repeat (first | refine blk_drewN ?_ _ | refine blk_drew ?_ | refine blk_alloc ?_ _)); refine blk_far ?_ NB113_122.out _; (with_reducible repeat (first | refine blk_drewN ?_ _ | refine blk_drew ?_ | refine blk_alloc ?_ _)); exact BK113.out⟩
      have n7_ : Aside0 ((((w32.setCell ⟨gb122, 0, none⟩ (.slice Ao33 t114.length co33)).setCell ⟨gb122, 1, none⟩ (.slice Ao37 t117.length co37)).setCell ⟨gb122, 2, none⟩ (.int .i64 t120)).heap[gb122]? = some (.cells #[.slice Ao33 t114.length co33, .slice Ao37 t117.length co37, .int .i64 t120] 36 (0, 0))) := ⟨by (with_reducible repeat (first | refine blk_drewN ?_ _ | refine blk_drew ?_ | refine blk_alloc ?_ _)); refine blk_put (cs := #[.slice Ao33 t114.length co33, .slice Ao37 t117.length co37, .int .i64 0]) ?_ 2 _ rfl; (with_reducible repeat (first | refine blk_drewN ?_ _ | refine blk_drew ?_ | refine blk_alloc ?_ _)); refine blk_put (cs := #[.slice Ao33 t114.length co33, .slice none 0 0, .int .i64 0]) ?_ 1 _ rfl; (with_reducible repeat (first | refine blk_drewN ?_ _ | refine blk_drew ?_ | refine blk_alloc ?_ _)); refine blk_put (cs := #[.slice none 0 0, .slice none 0 0, .int .i64 0]) ?_ 0 _ rfl; (with_reducible repeat (first | refine blk_drewN ?_ _ | refine blk_drew ?_ | refine blk_alloc ?_ _)); exact BK122.out⟩
      have n8_ : Aside0 (Below w.heap.size w (((w32.setCell ⟨gb122, 0, none⟩ (.slice Ao33 t114.length co33)).setCell ⟨gb122, 1, none⟩ (.slice Ao37 t117.length co37)).setCell ⟨gb122, 2, none⟩ (.int .i64 t120))) := ⟨z11_⟩
      (try clear HO104)
      (try clear HO107)
      (try clear HO110)
      (try clear HO116)
      (try clear HO119)
      (try clear BK101)
      (try clear BK113)
      (try clear BK122)
      (try clear HB)
      generalize (((w32.setCell ⟨gb122, 0, none⟩ (.slice Ao33 t114.length co33)).setCell ⟨gb122, 1, none⟩ (.slice Ao37 t117.length co37)).setCell ⟨gb122, 2, none⟩ (.int .i64 t120)) = w38 at n0_ n1_ n2_ n3_ n4_ n5_ n6_ n7_ n8_ ⊢
      have HO104 := n0_
      have HO107 := n1_
      have HO110 := n2_
      have HO116 := n3_
      have HO119 := n4_
      have BK101 := n5_
      have BK113 := n6_
      have BK122 := n7_
      have HB := n8_
      clear n0_ n1_ n2_ n3_ n4_ n5_ n6_ n7_ n8_
      have n0_ := Aside0.mk (Kd.V_drew HO104.out)
      have n1_ := Aside0.mk (Kd.V_drew HO107.out)
      have n2_ := Aside0.mk (Kd.V_drew HO110.out)
      have n3_ := Aside0.mk (Kd.R_drew HO116.out)
      have n4_ := Aside0.mk (Kd.R_drew HO119.out)
      have n5_ := Aside0.mk (blk_drew BK101.out)
      have n6_ := Aside0.mk (blk_drew BK113.out)
      have n7_ := Aside0.mk (blk_drew BK122.out)
      have n8_ := Aside0.mk (below_drew1 HB.out)
      clear HO104; clear HO107; clear HO110; clear HO116; clear HO119; clear BK101; clear BK113; clear BK122; clear HB
      have HO104 := n0_
      have HO107 := n1_
      have HO110 := n2_
      have HO116 := n3_
      have HO119 := n4_
      have BK101 := n5_
      have BK113 := n6_
      have BK122 := n7_
      have HB := n8_
      clear n0_ n1_ n2_ n3_ n4_ n5_ n6_ n7_ n8_
      refine start_ (n := 41) (S := fun w' => w'.cell? ⟨gb113, 0, none⟩ = some (.slice Ao26 t105.length co26) ∧ w'.cell? ⟨gb113, 1, none⟩ = some (.slice Ao29 t108.length co29) ∧ w'.cell? ⟨gb113, 2, none⟩ = some (.int .i64 t111) ∧ w'.cell? ⟨gb122, 0, none⟩ = some (.slice Ao33 t114.length co33) ∧ w'.cell? ⟨gb122, 1, none⟩ = some (.slice Ao37 t117.length co37) ∧ w'.cell? ⟨gb122, 2, none⟩ = some (.int .i64 t120)) (ds := []) (tb_ 41 0) (by kernel_rfl) rfl rfl ⟨(blk_cell BK113.out 0).trans rfl, (blk_cell BK113.out 1).trans rfl, (blk_cell BK113.out 2).trans rfl, (blk_cell BK122.out 0).trans rfl, (blk_cell BK122.out 1).trans rfl, (blk_cell BK122.out 2).trans rfl⟩ (fun hHeld => ?_); refine with_tabW pursuivantlaw14_PreReadsN.tab7 pursuivantlaw14_PreReadsN.bits7 (fun HT_ HW_ => ?_)
      generalize w38.drew = w39 at HO104 HO107 HO110 HO116 HO119 BK101 BK113 BK122 HB hHeld ⊢
      refine one_ (i := 0) (N := some 40) (tb_ 41 1) rfl rfl (one_of HT_.out (by kernel_rfl)) (by decide) (fun K hK => ?_)
      refine goes_ Tryz.func6 (by kernel_rfl) rfl #[] (by rfl) rfl rfl z24_ ?_
      with_reducible refine (pursuivantlaw14_awake.calls k  true _ ?gw4_ A9.out (by first | rfl | assumption)).mono ?_
      case gw4_ => exact z1_
      rintro e w40 ⟨rfl, hb⟩
      refine ⟨_, rfl, ?_⟩
      have n0_ := Aside0.mk (Kd.V_below z46_ hb)
      have n1_ := Aside0.mk (Kd.V_below z47_ hb)
      have n2_ := Aside0.mk (Kd.V_below z44_ hb)
      have n3_ := Aside0.mk (Kd.R_below z48_ hb)
      have n4_ := Aside0.mk (Kd.R_below z49_ hb)
      have n5_ := Aside0.mk (blk_below (g := gb101) (o := .cells #[.int .i64 a0_0, .slice Ao22 t102.length co22, .string a0_2] 30 (0, 0)) z38_ hb)
      have n6_ := Aside0.mk (blk_below (g := gb113) (o := .cells #[.slice Ao26 t105.length co26, .slice Ao29 t108.length co29, .int .i64 t111] 33 (0, 0)) z39_ hb)
      have n7_ := Aside0.mk (blk_below (g := gb122) (o := .cells #[.slice Ao33 t114.length co33, .slice Ao37 t117.length co37, .int .i64 t120] 36 (0, 0)) z40_ hb)
      have n8_ := Aside0.mk (below_step z11_ hb)
      clear HO104; clear HO107; clear HO110; clear HO116; clear HO119; clear BK101; clear BK113; clear BK122; clear HB
      have HO104 := n0_
      have HO107 := n1_
      have HO110 := n2_
      have HO116 := n3_
      have HO119 := n4_
      have BK101 := n5_
      have BK113 := n6_
      have BK122 := n7_
      have HB := n8_
      clear n0_ n1_ n2_ n3_ n4_ n5_ n6_ n7_ n8_
      (try clear hb)
      (try clear hb2)
      (try clear hk)
      (try clear hi)
      refine hK.out _ _ ⟨(blk_cell BK113.out 0).trans rfl, (blk_cell BK113.out 1).trans rfl, (blk_cell BK113.out 2).trans rfl, (blk_cell BK122.out 0).trans rfl, (blk_cell BK122.out 1).trans rfl, (blk_cell BK122.out 2).trans rfl⟩ (fun hHeld => ?_)
      clear hK K
      refine norm_ (a' := ?_) ?_ ?_
      rotate_left
      ·show Act.put _ (some 40) _ = _
       simp only [Act.put, List.setIfInBounds_toArray, List.set_cons_zero, List.set_cons_succ, i64_w, i32_w]
       rfl
      refine pz_ 1 41 (tb_ 41 3) HT_.out ?_
      refine pz_ 2 42 (tb_ 41 7) HT_.out ?_
      refine pz_ 3 43 (tb_ 41 15) HT_.out ?_
      refine pz_ 4 44 (tb_ 41 31) HT_.out ?_
      refine pz_ 5 45 (tb_ 41 63) HT_.out ?_
      refine pz_ 6 46 (tb_ 41 127) HT_.out ?_
      refine pz_ 7 47 (tb_ 41 255) HT_.out ?_
      refine pz_ 9 49 (tb_ 41 767) HT_.out ?_
      refine take_ (i := 8) (N := some 48) (v := ?_) (a' := ?_) (tb_ 41 1023) rfl rfl (take_ofW HT_.out HW_.out (by kernel_rfl)) (fun _ _ _ h => h) (Or.inl ⟨by rfl, ?_⟩) hHeld ?_ ?_
      rotate_left
      ·rintro w' ⟨s0, s1, s2, s3, s4, s5⟩
       go_simp
       with_reducible rfl
      rotate_left
      ·simp only [Act.put, List.setIfInBounds_toArray, List.set_cons_zero, List.set_cons_succ, i64_w, i32_w]
       rfl
      refine take_ (i := 10) (N := some 50) (v := ?_) (a' := ?_) (tb_ 41 2047) rfl rfl (take_ofW HT_.out HW_.out (by kernel_rfl)) (fun _ _ _ h => h) (Or.inl ⟨by rfl, ?_⟩) hHeld ?_ ?_
      rotate_left
      ·rintro w' ⟨s0, s1, s2, s3, s4, s5⟩
       go_simp
       with_reducible rfl
      rotate_left
      ·simp only [Act.put, List.setIfInBounds_toArray, List.set_cons_zero, List.set_cons_succ, i64_w, i32_w]
       rfl
      refine one_ (i := 11) (N := some 51) (tb_ 41 4095) rfl rfl (one_of HT_.out (by kernel_rfl)) (by decide) (fun K hK => ?_)
      refine goes_ Tryz.func15 (by kernel_rfl) rfl #[.slice Ao26 t105.length co26, .slice Ao33 t114.length co33] (by rfl) rfl rfl z24_ ?_
      with_reducible refine (pursuivantref04_Same.calls k _ _ t105 _ _ t114 true _ ?gw5_ ?side1c1 ?side2c1 ?side3c1 ?side4c1 A12.out).mono ?_
      case gw5_ => exact z1_
      (case side1c1 => repeat (first | exact (Kd.V_reads' HO107.out).2.2 | (with_reducible refine Kd.C_alloc ?_ _) | (with_reducible refine Kd.C_drewN ?_ _) | (with_reducible refine Kd.C_drew ?_)))
      (case side2c1 => exact (Kd.V_reads' HO107.out).2.1)
      (case side3c1 => repeat (first | exact (Kd.R_reads' HO116.out).2.2 | (with_reducible refine Kd.C_alloc ?_ _) | (with_reducible refine Kd.C_drewN ?_ _) | (with_reducible refine Kd.C_drew ?_)))
      (case side4c1 => exact (Kd.R_reads' HO116.out).2.1)
      rintro e w' ⟨rfl, ⟨nd, rfl⟩⟩
      refine ⟨_, rfl, ?_⟩
      refine hK.out _ _ ⟨(blk_cell BK113.out 0).trans rfl, (blk_cell BK113.out 1).trans rfl, (blk_cell BK113.out 2).trans rfl, (blk_cell BK122.out 0).trans rfl, (blk_cell BK122.out 1).trans rfl, (blk_cell BK122.out 2).trans rfl⟩ (fun hHeld => ?_)
      clear hK K
      refine norm_ (a' := ?_) ?_ ?_
      rotate_left
      ·show Act.put _ (some 51) _ = _
       simp only [Act.put, List.setIfInBounds_toArray, List.set_cons_zero, List.set_cons_succ, i64_w, i32_w]
       rfl
      refine pz_ 12 52 (tb_ 41 8191) HT_.out ?_
      refine pz_ 13 53 (tb_ 41 16383) HT_.out ?_
      refine pz_ 14 54 (tb_ 41 32767) HT_.out ?_
      refine pz_ 16 56 (tb_ 41 98303) HT_.out ?_
      refine take_ (i := 15) (N := some 55) (v := ?_) (a' := ?_) (tb_ 41 131071) rfl rfl (take_ofW HT_.out HW_.out (by kernel_rfl)) (fun _ _ _ h => h) (Or.inl ⟨by rfl, ?_⟩) hHeld ?_ ?_
      rotate_left
      ·rintro w' ⟨s0, s1, s2, s3, s4, s5⟩
       go_simp
       with_reducible rfl
      rotate_left
      ·simp only [Act.put, List.setIfInBounds_toArray, List.set_cons_zero, List.set_cons_succ, i64_w, i32_w]
       rfl
      refine take_ (i := 17) (N := some 57) (v := ?_) (a' := ?_) (tb_ 41 262143) rfl rfl (take_ofW HT_.out HW_.out (by kernel_rfl)) (fun _ _ _ h => h) (Or.inl ⟨by rfl, ?_⟩) hHeld ?_ ?_
      rotate_left
      ·rintro w' ⟨s0, s1, s2, s3, s4, s5⟩
       go_simp
       with_reducible rfl
      rotate_left
      ·simp only [Act.put, List.setIfInBounds_toArray, List.set_cons_zero, List.set_cons_succ, i64_w, i32_w]
       rfl
      refine one_ (i := 18) (N := some 58) (tb_ 41 524287) rfl rfl (one_of HT_.out (by kernel_rfl)) (by decide) (fun K hK => ?_)
      refine goes_ Tryz.func15 (by kernel_rfl) rfl #[.slice Ao29 t108.length co29, .slice Ao37 t117.length co37] (by rfl) rfl rfl z24_ ?_
      with_reducible refine (pursuivantref04_Same.calls k _ _ t108 _ _ t117 true _ ?gw6_ ?side1c2 ?side2c2 ?side3c2 ?side4c2 A14.out).mono ?_
      case gw6_ => exact z1_
      (case side1c2 => repeat (first | exact (Kd.V_reads' HO110.out).2.2 | (with_reducible refine Kd.C_alloc ?_ _) | (with_reducible refine Kd.C_drewN ?_ _) | (with_reducible refine Kd.C_drew ?_)))
      (case side2c2 => exact (Kd.V_reads' HO110.out).2.1)
      (case side3c2 => repeat (first | exact (Kd.R_reads' HO119.out).2.2 | (with_reducible refine Kd.C_alloc ?_ _) | (with_reducible refine Kd.C_drewN ?_ _) | (with_reducible refine Kd.C_drew ?_)))
      (case side4c2 => exact (Kd.R_reads' HO119.out).2.1)
      rintro e w' ⟨rfl, ⟨nd, rfl⟩⟩
      refine ⟨_, rfl, ?_⟩
      refine hK.out _ _ ⟨(blk_cell BK113.out 0).trans rfl, (blk_cell BK113.out 1).trans rfl, (blk_cell BK113.out 2).trans rfl, (blk_cell BK122.out 0).trans rfl, (blk_cell BK122.out 1).trans rfl, (blk_cell BK122.out 2).trans rfl⟩ (fun hHeld => ?_)
      clear hK K
      refine norm_ (a' := ?_) ?_ ?_
      rotate_left
      ·show Act.put _ (some 58) _ = _
       simp only [Act.put, List.setIfInBounds_toArray, List.set_cons_zero, List.set_cons_succ, i64_w, i32_w]
       rfl
      refine pz_ 19 59 (tb_ 41 1048575) HT_.out ?_
      refine pz_ 20 60 (tb_ 41 2097151) HT_.out ?_
      refine pz_ 21 61 (tb_ 41 4194303) HT_.out ?_
      refine pz_ 23 63 (tb_ 41 12582911) HT_.out ?_
      refine take_ (i := 22) (N := some 62) (v := ?_) (a' := ?_) (tb_ 41 16777215) rfl rfl (take_ofW HT_.out HW_.out (by kernel_rfl)) (fun _ _ _ h => h) (Or.inl ⟨by rfl, ?_⟩) hHeld ?_ ?_
      rotate_left
      ·rintro w' ⟨s0, s1, s2, s3, s4, s5⟩
       go_simp
       with_reducible rfl
      rotate_left
      ·simp only [Act.put, List.setIfInBounds_toArray, List.set_cons_zero, List.set_cons_succ, i64_w, i32_w]
       rfl
      refine take_ (i := 24) (N := some 64) (v := ?_) (a' := ?_) (tb_ 41 33554431) rfl rfl (take_ofW HT_.out HW_.out (by kernel_rfl)) (fun _ _ _ h => h) (Or.inl ⟨by rfl, ?_⟩) hHeld ?_ ?_
      rotate_left
      ·rintro w' ⟨s0, s1, s2, s3, s4, s5⟩
       go_simp
       with_reducible rfl
      rotate_left
      ·simp only [Act.put, List.setIfInBounds_toArray, List.set_cons_zero, List.set_cons_succ, i64_w, i32_w]
       rfl
      refine pz_ 25 65 (tb_ 41 67108863) HT_.out ?_
      refine pz_ 26 66 (tb_ 41 134217727) HT_.out ?_
      refine pz_ 27 67 (tb_ 41 268435455) HT_.out ?_
      refine pz_ 29 69 (tb_ 41 805306367) HT_.out ?_
      refine pz_ 30 70 (tb_ 41 1879048191) HT_.out ?_
      refine pz_ 31 71 (tb_ 41 4026531839) HT_.out ?_
      refine pz_ 34 74 (tb_ 41 21206401023) HT_.out ?_
      refine pz_ 35 75 (tb_ 41 55566139391) HT_.out ?_
      refine pz_ 36 76 (tb_ 41 124285616127) HT_.out ?_
      refine take_ (i := 28) (N := some 68) (v := ?_) (a' := ?_) (tb_ 41 124554051583) rfl rfl (take_ofW HT_.out HW_.out (by kernel_rfl)) (fun _ _ _ h => h) (Or.inl ⟨by rfl, ?_⟩) hHeld ?_ ?_
      rotate_left
      ·rintro w' ⟨s0, s1, s2, s3, s4, s5⟩
       go_simp
       with_reducible rfl
      rotate_left
      ·simp only [Act.put, List.setIfInBounds_toArray, List.set_cons_zero, List.set_cons_succ, i64_w, i32_w]
       rfl
      refine take_ (i := 33) (N := some 73) (v := ?_) (a' := ?_) (tb_ 41 133143986175) rfl rfl (take_ofW HT_.out HW_.out (by kernel_rfl)) (fun _ _ _ h => h) (Or.inl ⟨by rfl, ?_⟩) hHeld ?_ ?_
      rotate_left
      ·rintro w' ⟨s0, s1, s2, s3, s4, s5⟩
       go_simp
       with_reducible rfl
      rotate_left
      ·simp only [Act.put, List.setIfInBounds_toArray, List.set_cons_zero, List.set_cons_succ, i64_w, i32_w]
       rfl
      refine one_ (i := 32) (N := some 72) (tb_ 41 137438953471) rfl rfl (one_of HT_.out (by kernel_rfl)) (by decide) (fun K hK => ?_)
      refine goes_ Tryz.func16 (by kernel_rfl) rfl #[.agg #[.slice Ao26 t105.length co26, .slice Ao29 t108.length co29, .int .i64 t111], .string a2, .slice A3 l3.length c3, .int .i64 a4] (by rfl) rfl rfl z24_ ?_
      with_reducible refine (pre_Answer_Lets.calls _ _ t105 _ _ t108 t111 a2 _ _ l3 a4 t126 _ ?gw7_ ?side1c3 ?side2c3 ?side3c3 ?side4c3 ?side5c3 ?side6c3 A17.out).mono ?_
      case gw7_ => exact z1_
      (case side1c3 => repeat (first | exact (Kd.V_reads' HO107.out).2.2 | (with_reducible refine Kd.C_alloc ?_ _) | (with_reducible refine Kd.C_drewN ?_ _) | (with_reducible refine Kd.C_drew ?_)))
      (case side2c3 => exact (Kd.V_reads' HO107.out).2.1)
      (case side3c3 => repeat (first | exact (Kd.V_reads' HO110.out).2.2 | (with_reducible refine Kd.C_alloc ?_ _) | (with_reducible refine Kd.C_drewN ?_ _) | (with_reducible refine Kd.C_drew ?_)))
      (case side4c3 => exact (Kd.V_reads' HO110.out).2.1)
      (case side5c3 => repeat (first | exact (Kd.C_below HR3.out z11_) | (with_reducible refine Kd.C_alloc ?_ _) | (with_reducible refine Kd.C_drewN ?_ _) | (with_reducible refine Kd.C_drew ?_)))
      (case side6c3 => exact HC3.out)
      rintro e w41 ⟨rfl, hb⟩
      refine ⟨_, rfl, ?_⟩
      have n0_ := Aside0.mk (Kd.V_below z46_ hb)
      have n1_ := Aside0.mk (Kd.V_below z47_ hb)
      have n2_ := Aside0.mk (Kd.V_below z44_ hb)
      have n3_ := Aside0.mk (Kd.R_below z48_ hb)
      have n4_ := Aside0.mk (Kd.R_below z49_ hb)
      have n5_ := Aside0.mk (blk_below (g := gb101) (o := .cells #[.int .i64 a0_0, .slice Ao22 t102.length co22, .string a0_2] 30 (0, 0)) z38_ hb)
      have n6_ := Aside0.mk (blk_below (g := gb113) (o := .cells #[.slice Ao26 t105.length co26, .slice Ao29 t108.length co29, .int .i64 t111] 33 (0, 0)) z39_ hb)
      have n7_ := Aside0.mk (blk_below (g := gb122) (o := .cells #[.slice Ao33 t114.length co33, .slice Ao37 t117.length co37, .int .i64 t120] 36 (0, 0)) z40_ hb)
      have n8_ := Aside0.mk (below_step z11_ hb)
      clear HO104; clear HO107; clear HO110; clear HO116; clear HO119; clear BK101; clear BK113; clear BK122; clear HB
      have HO104 := n0_
      have HO107 := n1_
      have HO110 := n2_
      have HO116 := n3_
      have HO119 := n4_
      have BK101 := n5_
      have BK113 := n6_
      have BK122 := n7_
      have HB := n8_
      clear n0_ n1_ n2_ n3_ n4_ n5_ n6_ n7_ n8_
      (try clear hb)
      (try clear hb2)
      (try clear hk)
      (try clear hi)
      refine hK.out _ _ ⟨(blk_cell BK113.out 0).trans rfl, (blk_cell BK113.out 1).trans rfl, (blk_cell BK113.out 2).trans rfl, (blk_cell BK122.out 0).trans rfl, (blk_cell BK122.out 1).trans rfl, (blk_cell BK122.out 2).trans rfl⟩ (fun hHeld => ?_)
      clear hK K
      refine norm_ (a' := ?_) ?_ ?_
      rotate_left
      ·show Act.put _ (some 72) _ = _
       simp only [Act.put, List.setIfInBounds_toArray, List.set_cons_zero, List.set_cons_succ, i64_w, i32_w]
       rfl
      refine one_ (i := 37) (N := some 77) (tb_ 41 274877906943) rfl rfl (one_of HT_.out (by kernel_rfl)) (by decide) (fun K hK => ?_)
      refine goes_ Tryz.func17 (by kernel_rfl) rfl #[.agg #[.slice Ao33 t114.length co33, .slice Ao37 t117.length co37, .int .i64 t120], .string a2, .slice A3 l3.length c3, .int .i64 a4] (by rfl) rfl rfl z24_ ?_
      with_reducible refine (pursuivantref14_Answer_Lets.calls k _ _ t114 _ _ t117 t120 a2 _ _ l3 a4 t127 _ ?gw8_ ?side1c4 ?side2c4 ?side3c4 ?side4c4 ?side5c4 ?side6c4 A18.out).mono ?_
      case gw8_ => exact z1_
      (case side1c4 => repeat (first | exact (Kd.R_reads' HO116.out).2.2 | (with_reducible refine Kd.C_alloc ?_ _) | (with_reducible refine Kd.C_drewN ?_ _) | (with_reducible refine Kd.C_drew ?_)))
      (case side2c4 => exact (Kd.R_reads' HO116.out).2.1)
      (case side3c4 => repeat (first | exact (Kd.R_reads' HO119.out).2.2 | (with_reducible refine Kd.C_alloc ?_ _) | (with_reducible refine Kd.C_drewN ?_ _) | (with_reducible refine Kd.C_drew ?_)))
      (case side4c4 => exact (Kd.R_reads' HO119.out).2.1)
      (case side5c4 => repeat (first | exact (Kd.C_below HR3.out HB.out) | (with_reducible refine Kd.C_alloc ?_ _) | (with_reducible refine Kd.C_drewN ?_ _) | (with_reducible refine Kd.C_drew ?_)))
      (case side6c4 => exact HC3.out)
      rintro e w42 ⟨rfl, hb⟩
      refine ⟨_, rfl, ?_⟩
      have n0_ := Aside0.mk (Kd.V_below z46_ hb)
      have n1_ := Aside0.mk (Kd.V_below z47_ hb)
      have n2_ := Aside0.mk (Kd.V_below z44_ hb)
      have n3_ := Aside0.mk (Kd.R_below z48_ hb)
      have n4_ := Aside0.mk (Kd.R_below z49_ hb)
      have n5_ := Aside0.mk (blk_below (g := gb101) (o := .cells #[.int .i64 a0_0, .slice Ao22 t102.length co22, .string a0_2] 30 (0, 0)) z38_ hb)
      have n6_ := Aside0.mk (blk_below (g := gb113) (o := .cells #[.slice Ao26 t105.length co26, .slice Ao29 t108.length co29, .int .i64 t111] 33 (0, 0)) z39_ hb)
      have n7_ := Aside0.mk (blk_below (g := gb122) (o := .cells #[.slice Ao33 t114.length co33, .slice Ao37 t117.length co37, .int .i64 t120] 36 (0, 0)) z40_ hb)
      have n8_ := Aside0.mk (below_step z11_ hb)
      clear HO104; clear HO107; clear HO110; clear HO116; clear HO119; clear BK101; clear BK113; clear BK122; clear HB
      have HO104 := n0_
      have HO107 := n1_
      have HO110 := n2_
      have HO116 := n3_
      have HO119 := n4_
      have BK101 := n5_
      have BK113 := n6_
      have BK122 := n7_
      have HB := n8_
      clear n0_ n1_ n2_ n3_ n4_ n5_ n6_ n7_ n8_
      (try clear hb)
      (try clear hb2)
      (try clear hk)
      (try clear hi)
      refine hK.out _ _ ⟨(blk_cell BK113.out 0).trans rfl, (blk_cell BK113.out 1).trans rfl, (blk_cell BK113.out 2).trans rfl, (blk_cell BK122.out 0).trans rfl, (blk_cell BK122.out 1).trans rfl, (blk_cell BK122.out 2).trans rfl⟩ (fun hHeld => ?_)
      clear hK K
      refine norm_ (a' := ?_) ?_ ?_
      rotate_left
      ·show Act.put _ (some 77) _ = _
       simp only [Act.put, List.setIfInBounds_toArray, List.set_cons_zero, List.set_cons_succ, i64_w, i32_w]
       rfl
      refine pz_ 38 78 (tb_ 41 549755813887) HT_.out ?_
      refine pz_ 39 79 (tb_ 41 1099511627775) HT_.out ?_
      refine pz_ 40 10 (tb_ 41 2199023255551) HT_.out ?_
      refine done_ (done_of HT_.out (by kernel_rfl)) ?_
      try go_wp2
      go_ret
      exact ⟨z28_, z11_⟩
     ·rw [if_neg c16] at H
      have c16b0 : (t111 == t120) = false := beq_eq_false_iff_ne.mpr c16
      have c16b1 : (t111 != t120) = true := bne_iff_ne.mpr c16
      exact absurd ((Option.some.inj H).trans hr_) Bool.false_ne_true
    ·replace c15 := Bool.eq_false_iff.mpr c15
     subst c15
     have H1 : (some false) = some r := by rw [if_neg (show ¬ (false = true) by decide)] at H; exact H
     clear H
     have H := H1
     clear H1
     exact absurd ((Option.some.inj H).trans hr_) Bool.false_ne_true
   ·replace c13 := Bool.eq_false_iff.mpr c13
    subst c13
    have H1 : (some false) = some r := by rw [if_neg (show ¬ (false = true) by decide)] at H; exact H
    clear H
    have H := H1
    clear H1
    exact absurd ((Option.some.inj H).trans hr_) Bool.false_ne_true
  ·rw [if_neg c11] at H
   have c11b0 : (t112 == t121) = false := by simpa using c11
   (try (have c11b1 : decide (t112 = t121) = false := by simpa using c11))
   (try (have c11b2 : (t112 == t121) = false := by simpa using c11))
   (try (have c11b3 : ¬ (t112 = t121) := by simpa using c11))
   clear c11
   exact absurd ((Option.some.inj H).trans hr_) Bool.false_ne_true
 ·replace c10 := Bool.eq_false_iff.mpr c10
  subst c10
  have H1 : (some false) = some r := by rw [if_neg (show ¬ (false = true) by decide)] at H; exact H
  clear H
  have H := H1
  clear H1
  exact absurd ((Option.some.inj H).trans hr_) Bool.false_ne_true
set_option maxHeartbeats 8000000 in
set_option maxRecDepth 100000 in
theorem pursuivantlaw14_PreReadsN.callsB (k : Nat) (a0_0 : Int) (A0_1 : Option Addr) (c0_1 : Nat) (l0_1 : List (S45)) (a0_2 : ByteArray) (a1 : ByteArray) (a2 : ByteArray) (A3 : Option Addr) (c3 : Nat) (l3 : List ByteArray) (a4 : Int) (r : Bool) (w : World) (hG_ : GW w) (hr0_1 : Kd.C k45 w A0_1 l0_1.length l0_1) (hc0_1 : l0_1.length ≤ c0_1) (hr3 : Kd.C Kd.string w A3 l3.length l3) (hc3 : l3.length ≤ c3) (hn : 12 < l3.length) (h : pursuivantlaw14_PreReadsN.f k a0_0 l0_1 a0_2 a1 a2 (l3.take 12) a4 = some r) (hr_ : r = true) :
  Calls Tryz.prog 4 #[.agg #[.int .i64 a0_0, .slice A0_1 l0_1.length c0_1, .string a0_2], .string a1, .string a2, .slice A3 l3.length c3, .int .i64 a4] w fun e w' => e = .returned (.bool r) ∧ Below w.heap.size w w' := by
 have hu30 := Tryz.underlying30
 have hu33 := Tryz.underlying33
 have hu36 := Tryz.underlying36
 have HR0_1 := Aside0.mk hr0_1; have HC0_1 := Aside0.mk hc0_1; clear hr0_1 hc0_1
 obtain ⟨l3c, hl3c⟩ : ∃ l_, l_ = l3.take 12 := ⟨_, rfl⟩
 have hy : l3c.length = (12 : Int).toNat := (by rw [hl3c, List.length_take]; omega)
 obtain ⟨i0_, hi0_, _, hsz_, _⟩ := info_parts info9
 have hcut_ := cut_to (P := Tryz.prog) 31 9 .i64 Tryz.underlying31 hi0_ A3 l3.length c3 12 (by omega) (show (12 : Int) ≤ (l3.length : Int) by omega) hc3
 rw [← hy] at hcut_
 rw [← hl3c] at h
 have HR3 := Aside0.mk (show Kd.C Kd.string w A3 l3c.length l3c by have hr_ := Kd.C_take (m := 12) hr3 (by omega); rw [← hl3c] at hr_; exact hr_)
 have HC3 := Aside0.mk (show l3c.length ≤ c3 from by have := hy; omega)
 have c0b0 : decide ((l3.length : Int) > 12) = true := decide_eq_true (by omega)
 have c0b1 : decide (l3.length > 12) = true := decide_eq_true (by omega)
 have c0b2 : decide ((12 : Int) < (l3.length : Int)) = true := decide_eq_true (by omega)
 have c0b3 : decide (12 < l3.length) = true := decide_eq_true (by omega)
 clear hn hl3c hi0_ hsz_ hr3 hc3; have HY3 := Aside0.mk hy; clear hy
 have HB := Aside0.mk (Below.refl w.heap.size w)
 have H : ((pursuivantlaw14_few.f l0_1).bind fun t102 => ((pre_Read.f a0_0 t102 a0_2 a1 a4).bind fun bt105 => ((pursuivantref14_Read.f k a0_0 t102 a0_2 a1 a4).bind fun bt114 => ((pursuivantlaw14_awake.f k).bind fun t123 => (if t123 = true then (if (bt105.2.2.2 == bt114.2.2.2) = true then ((pursuivantref04_Same.f k bt105.1 bt114.1).bind fun t124 => (if t124 = true then ((pursuivantref04_Same.f k bt105.2.1 bt114.2.1).bind fun t125 => (if t125 = true then (if bt105.2.2.1 = bt114.2.2.1 then ((pre_Answer_Lets.f bt105.1 bt105.2.1 bt105.2.2.1 a2 l3c a4).bind fun t126 => ((pursuivantref14_Answer_Lets.f k bt114.1 bt114.2.1 bt114.2.2.1 a2 l3c a4).bind fun t127 => (some (t126 == t127)))) else (some false)) else (some false))) else (some false))) else (some false)) else (some false)))))) = some r := h
 clear h
 replace H := Option.bind_eq_some_iff.mp H
 obtain ⟨t102, A60, H⟩ := H
 replace H : ((pre_Read.f a0_0 t102 a0_2 a1 a4).bind fun bt105 => ((pursuivantref14_Read.f k a0_0 t102 a0_2 a1 a4).bind fun bt114 => ((pursuivantlaw14_awake.f k).bind fun t123 => (if t123 = true then (if (bt105.2.2.2 == bt114.2.2.2) = true then ((pursuivantref04_Same.f k bt105.1 bt114.1).bind fun t124 => (if t124 = true then ((pursuivantref04_Same.f k bt105.2.1 bt114.2.1).bind fun t125 => (if t125 = true then (if bt105.2.2.1 = bt114.2.2.1 then ((pre_Answer_Lets.f bt105.1 bt105.2.1 bt105.2.2.1 a2 l3c a4).bind fun t126 => ((pursuivantref14_Answer_Lets.f k bt114.1 bt114.2.1 bt114.2.2.1 a2 l3c a4).bind fun t127 => (some (t126 == t127)))) else (some false)) else (some false))) else (some false))) else (some false)) else (some false))))) = some r := H
 have A6 := Aside0.mk A60; clear A60
 replace H := Option.bind_eq_some_iff.mp H
 obtain ⟨⟨t105, t108, t111, t112⟩, A70, H⟩ := H
 replace H : ((pursuivantref14_Read.f k a0_0 t102 a0_2 a1 a4).bind fun bt114 => ((pursuivantlaw14_awake.f k).bind fun t123 => (if t123 = true then (if (t112 == bt114.2.2.2) = true then ((pursuivantref04_Same.f k t105 bt114.1).bind fun t124 => (if t124 = true then ((pursuivantref04_Same.f k t108 bt114.2.1).bind fun t125 => (if t125 = true then (if t111 = bt114.2.2.1 then ((pre_Answer_Lets.f t105 t108 t111 a2 l3c a4).bind fun t126 => ((pursuivantref14_Answer_Lets.f k bt114.1 bt114.2.1 bt114.2.2.1 a2 l3c a4).bind fun t127 => (some (t126 == t127)))) else (some false)) else (some false))) else (some false))) else (some false)) else (some false)))) = some r := H
 have A7 := Aside0.mk A70; clear A70
 replace H := Option.bind_eq_some_iff.mp H
 obtain ⟨⟨t114, t117, t120, t121⟩, A80, H⟩ := H
 replace H : ((pursuivantlaw14_awake.f k).bind fun t123 => (if t123 = true then (if (t112 == t121) = true then ((pursuivantref04_Same.f k t105 t114).bind fun t124 => (if t124 = true then ((pursuivantref04_Same.f k t108 t117).bind fun t125 => (if t125 = true then (if t111 = t120 then ((pre_Answer_Lets.f t105 t108 t111 a2 l3c a4).bind fun t126 => ((pursuivantref14_Answer_Lets.f k t114 t117 t120 a2 l3c a4).bind fun t127 => (some (t126 == t127)))) else (some false)) else (some false))) else (some false))) else (some false)) else (some false))) = some r := H
 have A8 := Aside0.mk A80; clear A80
 replace H := Option.bind_eq_some_iff.mp H
 obtain ⟨t123, A90, H⟩ := H
 replace H : (if t123 = true then (if (t112 == t121) = true then ((pursuivantref04_Same.f k t105 t114).bind fun t124 => (if t124 = true then ((pursuivantref04_Same.f k t108 t117).bind fun t125 => (if t125 = true then (if t111 = t120 then ((pre_Answer_Lets.f t105 t108 t111 a2 l3c a4).bind fun t126 => ((pursuivantref14_Answer_Lets.f k t114 t117 t120 a2 l3c a4).bind fun t127 => (some (t126 == t127)))) else (some false)) else (some false))) else (some false))) else (some false)) else (some false)) = some r := H
 have A9 := Aside0.mk A90; clear A90
 by_cases c10 : t123 = true
 ·subst c10
  have H1 : (if (t112 == t121) = true then ((pursuivantref04_Same.f k t105 t114).bind fun t124 => (if t124 = true then ((pursuivantref04_Same.f k t108 t117).bind fun t125 => (if t125 = true then (if t111 = t120 then ((pre_Answer_Lets.f t105 t108 t111 a2 l3c a4).bind fun t126 => ((pursuivantref14_Answer_Lets.f k t114 t117 t120 a2 l3c a4).bind fun t127 => (some (t126 == t127)))) else (some false)) else (some false))) else (some false))) else (some false)) = some r := by rw [if_pos rfl] at H; exact H
  clear H
  have H := H1
  clear H1
  by_cases c11 : (t112 == t121) = true
  ·rw [if_pos c11] at H
   have c11b0 : (t112 == t121) = true := c11
   (try (have c11b1 : decide (t112 = t121) = true := by simpa using c11))
   (try (have c11b2 : (t112 == t121) = true := by simpa using c11))
   clear c11
   replace H := Option.bind_eq_some_iff.mp H
   obtain ⟨t124, A120, H⟩ := H
   replace H : (if t124 = true then ((pursuivantref04_Same.f k t108 t117).bind fun t125 => (if t125 = true then (if t111 = t120 then ((pre_Answer_Lets.f t105 t108 t111 a2 l3c a4).bind fun t126 => ((pursuivantref14_Answer_Lets.f k t114 t117 t120 a2 l3c a4).bind fun t127 => (some (t126 == t127)))) else (some false)) else (some false))) else (some false)) = some r := H
   have A12 := Aside0.mk A120; clear A120
   by_cases c13 : t124 = true
   ·subst c13
    have H1 : ((pursuivantref04_Same.f k t108 t117).bind fun t125 => (if t125 = true then (if t111 = t120 then ((pre_Answer_Lets.f t105 t108 t111 a2 l3c a4).bind fun t126 => ((pursuivantref14_Answer_Lets.f k t114 t117 t120 a2 l3c a4).bind fun t127 => (some (t126 == t127)))) else (some false)) else (some false))) = some r := by rw [if_pos rfl] at H; exact H
    clear H
    have H := H1
    clear H1
    replace H := Option.bind_eq_some_iff.mp H
    obtain ⟨t125, A140, H⟩ := H
    replace H : (if t125 = true then (if t111 = t120 then ((pre_Answer_Lets.f t105 t108 t111 a2 l3c a4).bind fun t126 => ((pursuivantref14_Answer_Lets.f k t114 t117 t120 a2 l3c a4).bind fun t127 => (some (t126 == t127)))) else (some false)) else (some false)) = some r := H
    have A14 := Aside0.mk A140; clear A140
    by_cases c15 : t125 = true
    ·subst c15
     have H1 : (if t111 = t120 then ((pre_Answer_Lets.f t105 t108 t111 a2 l3c a4).bind fun t126 => ((pursuivantref14_Answer_Lets.f k t114 t117 t120 a2 l3c a4).bind fun t127 => (some (t126 == t127)))) else (some false)) = some r := by rw [if_pos rfl] at H; exact H
     clear H
     have H := H1
     clear H1
     by_cases c16 : t111 = t120
     ·rw [if_pos c16] at H
      have c16b0 : (t111 == t120) = true := beq_iff_eq.mpr c16
      have c16b1 : (t111 != t120) = false := bne_eq_false_iff_eq.mpr c16
      clear c16
      replace H := Option.bind_eq_some_iff.mp H
      obtain ⟨t126, A170, H⟩ := H
      replace H : ((pursuivantref14_Answer_Lets.f k t114 t117 t120 a2 l3c a4).bind fun t127 => (some (t126 == t127))) = some r := H
      have A17 := Aside0.mk A170; clear A170
      replace H := Option.bind_eq_some_iff.mp H
      obtain ⟨t127, A180, H⟩ := H
      replace H : (some (t126 == t127)) = some r := H
      have A18 := Aside0.mk A180; clear A180
      obtain rfl := Option.some.inj H
      go_enter Tryz.func4, Tryz.ntmps4
      try go_wp2_with (first | ((with_reducible refine gate_dst (N := 5) rfl ?_); refine box_event ?hg (N := 5) ?hd (cs := #[.int .i64 a0_0, .slice A0_1 l0_1.length c0_1, .string a0_2]) (t := 30) ?hr ?_; (case hd => rfl); (case hg => rfl); (case hr => first | (go_simp; done) | (go_simp; rfl)); intro gb101 hg w19 hbox hb; have n0_ := Aside0.mk (below_step z25_ hb); have n1_ := Aside0.mk (hbox); have n2_ := Aside0.mk ((by rw [hg]; exact (below_size z25_) : w.heap.size ≤ gb101)); have n3_ := Aside0.mk ((by rw [hg]; exact (below_size z25_) : w.heap.size ≤ gb101)); clear HB; have HB := n0_; have BK101 := n1_; have GW101 := n2_; have GE101 := n3_; clear n0_ n1_ n2_ n3_; clear hb hbox hg; have hcz20_0 : w19.cell? ⟨gb101, 0, none⟩ = some (.int .i64 a0_0) := (blk_cell BK101.out 0).trans rfl; have hcz20_1 : w19.cell? ⟨gb101, 1, none⟩ = some (.slice A0_1 l0_1.length c0_1) := (blk_cell BK101.out 1).trans rfl; have hcz20_2 : w19.cell? ⟨gb101, 2, none⟩ = some (.string a0_2) := (blk_cell BK101.out 2).trans rfl; have hfz20_0 := blk_frozen BK101.out 0; have hfz20_1 := blk_frozen BK101.out 1; have hfz20_2 := blk_frozen BK101.out 2) | ((with_reducible refine gate_callee (f := 8) rfl ?_); refine goesL_ (some 18) rfl rfl Tryz.func8 (by kernel_rfl) rfl #[.slice A0_1 l0_1.length c0_1] rfl z24_ ?_; (with_reducible refine (pursuivantlaw14_few.calls (fun k_ => k_ < w.heap.size) _ _ l0_1 t102 _ ?gw1_ ?side1 A6.out).mono ?_); (case gw1_ => exact z1_); (case side1 => exact Kd.V_mk HC0_1.out (Kd.F_below (Kd.C_F k45_heap HR0_1.out) z18_)); rintro e w21 ⟨v103, rfl, ho0, hb⟩; refine ⟨_, rfl, ?_⟩; have n0_ := Aside0.mk (Kd.V_lower (Kd.V_mono (ok' := fun k_ => k_ ≠ gb101) ho0 (fun k_ hk_ => Or.elim hk_ (fun hs_ => fun e_ => Nat.not_le.2 hs_ (by rw [e_]; exact GW101.out)) (fun hn_ => (Kd.freshB (g := gb101) (o := .cells #[.int .i64 a0_0, .slice A0_1 l0_1.length c0_1, .string a0_2] 30 (0, 0)) z38_ k_ hn_)))) (below_size z18_)); have n1_ := Aside0.mk (blk_below (g := gb101) (o := .cells #[.int .i64 a0_0, .slice A0_1 l0_1.length c0_1, .string a0_2] 30 (0, 0)) z38_ hb); have n2_ := Aside0.mk (below_step z18_ hb); clear BK101; clear HB; have HO104 := n0_; have BK101 := n1_; have HB := n2_; clear n0_ n1_ n2_; (try clear hb); (try clear hb2); (try clear hk); (try clear hi); (try clear ho0); obtain ⟨Ao22, co22, eo22⟩ := Kd.V_slice HO104.out; subst eo22; have hcz23_0 : w21.cell? ⟨gb101, 0, none⟩ = some (.int .i64 a0_0) := (blk_cell BK101.out 0).trans rfl; have hcz23_1 : w21.cell? ⟨gb101, 1, none⟩ = some (.slice A0_1 l0_1.length c0_1) := (blk_cell BK101.out 1).trans rfl; have hcz23_2 : w21.cell? ⟨gb101, 2, none⟩ = some (.string a0_2) := (blk_cell BK101.out 2).trans rfl; have hfz23_0 := blk_frozen BK101.out 0; have hfz23_1 := blk_frozen BK101.out 1; have hfz23_2 := blk_frozen BK101.out 2) | ((with_reducible refine gate_callee (f := 13) rfl ?_); refine goesL_ (some 30) rfl rfl Tryz.func13 (by kernel_rfl) rfl #[.agg #[.int .i64 a0_0, .slice Ao22 t102.length co22, .string a0_2], .string a1, .int .i64 a4] rfl z24_ ?_; (with_reducible refine (pre_Read.calls a0_0 _ _ t102 a0_2 a1 a4 t105 t108 t111 t112 _ ?gw2_ ?side1 ?side2 A7.out).mono ?_); (case gw2_ => exact z1_); (case side1 => refine (Kd.V_reads' (e := 45) (base := w.heap.size) (ok := fun k_ => k_ ≠ gb101) (n := t102.length) (c := co22) ?_).2.2; exact z8_); (case side2 => exact (Kd.V_reads' HO104.out).2.1); rintro e w24 ⟨v106, v109, rfl, ho0, ho1, hb⟩; refine ⟨_, rfl, ?_⟩; have n0_ := Aside0.mk (Kd.V_below z8_ hb); have n1_ := Aside0.mk (Kd.V_lower (Kd.V_mono (ok' := fun k_ => k_ ≠ gb101) ho0 (fun k_ hk_ => (Kd.freshB (g := gb101) (o := .cells #[.int .i64 a0_0, .slice Ao22 t102.length co22, .string a0_2] 30 (0, 0)) z6_ k_ hk_))) (below_size z18_)); have n2_ := Aside0.mk (Kd.V_lower (Kd.V_mono (ok' := fun k_ => k_ ≠ gb101) ho1 (fun k_ hk_ => (Kd.freshB (g := gb101) (o := .cells #[.int .i64 a0_0, .slice Ao22 t102.length co22, .string a0_2] 30 (0, 0)) z6_ k_ hk_))) (below_size z18_)); have n3_ := Aside0.mk (blk_below (g := gb101) (o := .cells #[.int .i64 a0_0, .slice Ao22 t102.length co22, .string a0_2] 30 (0, 0)) z6_ hb); have n4_ := Aside0.mk (below_step z18_ hb); clear HO104; clear BK101; clear HB; have HO104 := n0_; have HO107 := n1_; have HO110 := n2_; have BK101 := n3_; have HB := n4_; clear n0_ n1_ n2_ n3_ n4_; (try clear hb); (try clear hb2); (try clear hk); (try clear hi); (try clear ho0); (try clear ho1)) | ((with_reducible refine gate_dst (N := 12) rfl ?_); refine box_event ?hg (N := 12) ?hd (cs := #[.slice none 0 0, .slice none 0 0, .int .i64 0]) (t := 33) ?hr ?_; (case hd => rfl); (case hg => rfl); (case hr => first | (go_simp; done) | (go_simp; rfl)); intro gb113 hg w25 hbox hb; have n0_ := Aside0.mk (Kd.V_below (Kd.V_elderB z46_ gb113 (Nat.le_of_eq hg.symm)) hb); have n1_ := Aside0.mk (Kd.V_below (Kd.V_elderB z47_ gb113 (Nat.le_of_eq hg.symm)) hb); have n2_ := Aside0.mk (Kd.V_below (Kd.V_elderB z44_ gb113 (Nat.le_of_eq hg.symm)) hb); have n3_ := Aside0.mk (blk_below (g := gb101) (o := .cells #[.int .i64 a0_0, .slice Ao22 t102.length co22, .string a0_2] 30 (0, 0)) z38_ hb); have n4_ := Aside0.mk (below_step z18_ hb); have n5_ := Aside0.mk (hbox); have n6_ := Aside0.mk ((by rw [hg]; exact (below_size z18_) : w.heap.size ≤ gb113)); have n7_ := Aside0.mk ((by rw [hg]; exact (below_size z18_) : w.heap.size ≤ gb113)); have n8_ := Aside0.mk ((by rw [hg]; exact Nat.ne_of_lt (blk_lt (g := gb101) (o := .cells #[.int .i64 a0_0, .slice Ao22 t102.length co22, .string a0_2] 30 (0, 0)) z38_) : gb101 ≠ gb113)); have n9_ := Aside0.mk ((by rw [hg]; exact Nat.ne_of_gt (blk_lt (g := gb101) (o := .cells #[.int .i64 a0_0, .slice Ao22 t102.length co22, .string a0_2] 30 (0, 0)) z38_) : gb113 ≠ gb101)); clear HO104; clear HO107; clear HO110; clear BK101; clear HB; have HO104 := n0_; have HO107 := n1_; have HO110 := n2_; have BK101 := n3_; have HB := n4_; have BK113 := n5_; have GW113 := n6_; have GE113 := n7_; have NB101_113 := n8_; have NB113_101 := n9_; clear n0_ n1_ n2_ n3_ n4_ n5_ n6_ n7_ n8_ n9_; clear hb hbox hg; obtain ⟨Ao26, co26, eo26⟩ := Kd.V_slice HO107.out; subst eo26; have hnb27 := NB113_101.out; have hnc27 := NB101_113.out; have hcz28_0 : w25.cell? ⟨gb113, 0, none⟩ = some (.slice none 0 0) := (blk_cell BK113.out 0).trans rfl; have hcz28_1 : w25.cell? ⟨gb113, 1, none⟩ = some (.slice none 0 0) := (blk_cell BK113.out 1).trans rfl; have hcz28_2 : w25.cell? ⟨gb113, 2, none⟩ = some (.int .i64 0) := (blk_cell BK113.out 2).trans rfl; have hfz28_0 := blk_frozen BK113.out 0; have hfz28_1 := blk_frozen BK113.out 1; have hfz28_2 := blk_frozen BK113.out 2; obtain ⟨Ao29, co29, eo29⟩ := Kd.V_slice HO110.out; subst eo29; have hcz30_0 : w25.cell? ⟨gb101, 0, none⟩ = some (.int .i64 a0_0) := (blk_cell BK101.out 0).trans rfl; have hcz30_1 : w25.cell? ⟨gb101, 1, none⟩ = some (.slice Ao22 t102.length co22) := (blk_cell BK101.out 1).trans rfl; have hcz30_2 : w25.cell? ⟨gb101, 2, none⟩ = some (.string a0_2) := (blk_cell BK101.out 2).trans rfl; have hfz30_0 := blk_frozen BK101.out 0; have hfz30_1 := blk_frozen BK101.out 1; have hfz30_2 := blk_frozen BK101.out 2) | ((with_reducible refine gate_callee (f := 14) rfl ?_); refine goesL_ (some 37) rfl rfl Tryz.func14 (by kernel_rfl) rfl #[.agg #[.int .i64 a0_0, .slice Ao22 t102.length co22, .string a0_2], .string a1, .int .i64 a4] rfl z24_ ?_; (with_reducible refine (pursuivantref14_Read.calls k a0_0 _ _ t102 a0_2 a1 a4 t114 t117 t120 t121 _ ?gw3_ ?side1 ?side2 A8.out).mono ?_); (case gw3_ => exact z1_); (case side1 => refine (Kd.V_reads' (e := 45) (base := w.heap.size) (ok := fun k_ => (k_ ≠ gb101 ∧ k_ ≠ gb113)) (n := t102.length) (c := co22) ?_).2.2; exact z5_); (case side2 => exact (Kd.V_reads' HO104.out).2.1); rintro e w31 ⟨v115, v118, rfl, ho0, ho1, hb⟩; refine ⟨_, rfl, ?_⟩; have n0_ := Aside0.mk (Kd.V_mono (Kd.V_told (Kd.V_told (Kd.V_old z5_ hb) (Kd.R_base ho0)) (Kd.R_base ho1)) (fun _ h_ => h_.1)); have n1_ := Aside0.mk (Kd.V_mono (Kd.V_told (Kd.V_told (Kd.V_old (by (with_reducible repeat (first | apply Kd.V_alloc | apply Kd.V_drewN | apply Kd.V_drew)); exact (Kd.V_mono (Kd.V_far (p := ⟨gb113, 2, none⟩) (Kd.V_far (p := ⟨gb113, 1, none⟩) (Kd.V_far (p := ⟨gb113, 0, none⟩) (Kd.V_mono HO107.out (fun k_ hk => (⟨hk, hk.2⟩ : _ ∧ k_ ≠ gb113))) (fun _ hk => hk.2) (.slice Ao26 t105.length co26)) (fun _ hk => hk.2) (.slice Ao29 t108.length co29)) (fun _ hk => hk.2) (.int .i64 t111)) (fun _ h_ => h_.1))) hb) (Kd.R_base ho0)) (Kd.R_base ho1)) (fun _ h_ => h_.1)); have n2_ := Aside0.mk (Kd.V_mono (Kd.V_told (Kd.V_told (Kd.V_old (by (with_reducible repeat (first | apply Kd.V_alloc | apply Kd.V_drewN | apply Kd.V_drew)); exact (Kd.V_mono (Kd.V_far (p := ⟨gb113, 2, none⟩) (Kd.V_far (p := ⟨gb113, 1, none⟩) (Kd.V_far (p := ⟨gb113, 0, none⟩) (Kd.V_mono HO110.out (fun k_ hk => (⟨hk, hk.2⟩ : _ ∧ k_ ≠ gb113))) (fun _ hk => hk.2) (.slice Ao26 t105.length co26)) (fun _ hk => hk.2) (.slice Ao29 t108.length co29)) (fun _ hk => hk.2) (.int .i64 t111)) (fun _ h_ => h_.1))) hb) (Kd.R_base ho0)) (Kd.R_base ho1)) (fun _ h_ => h_.1)); have n3_ := Aside0.mk (Kd.R_lower ho0 (below_size z13_)); have n4_ := Aside0.mk (Kd.R_lower ho1 (below_size z13_)); have n5_ := Aside0.mk (blk_below (g := gb101) (o := .cells #[.int .i64 a0_0, .slice Ao22 t102.length co22, .string a0_2] 30 (0, 0)) (by (with_reducible repeat (first | refine blk_drewN ?_ _ | refine blk_drew ?_ | refine blk_alloc ?_ _)); refine blk_far ?_ NB101_113.out _; (with_reducible repeat (first | refine blk_drewN ?_ _ | refine blk_drew ?_ | refine blk_alloc ?_ _)); refine blk_far ?_ NB101_113.out _; (with_reducible repeat (first | refine blk_drewN ?_ _ | refine blk_drew ?_ | refine blk_alloc ?_ _)); refine blk_far ?_ NB101_113.out _; (with_reducible repeat (first | refine blk_drewN ?_ _ | refine blk_drew ?_ | refine blk_alloc ?_ _)); exact BK101.out) hb); have n6_ := Aside0.mk (blk_below (g := gb113) (o := .cells #[.slice Ao26 t105.length co26, .slice Ao29 t108.length co29, .int .i64 t111] 33 (0, 0)) (by (with_reducible repeat (first | refine blk_drewN ?_ _ | refine blk_drew ?_ | refine blk_alloc ?_ _)); refine blk_put (cs := #[.slice Ao26 t105.length co26, .slice Ao29 t108.length co29, .int .i64 0]) ?_ 2 _ rfl; (with_reducible repeat (first | refine blk_drewN ?_ _ | refine blk_drew ?_ | refine blk_alloc ?_ _)); refine blk_put (cs := #[.slice Ao26 t105.length co26, .slice none 0 0, .int .i64 0]) ?_ 1 _ rfl; (with_reducible repeat (first | refine blk_drewN ?_ _ | refine blk_drew ?_ | refine blk_alloc ?_ _)); refine blk_put (cs := #[.slice none 0 0, .slice none 0 0, .int .i64 0]) ?_ 0 _ rfl; (with_reducible repeat (first | refine blk_drewN ?_ _ | refine blk_drew ?_ | refine blk_alloc ?_ _)); exact BK113.out) hb); have n7_ := Aside0.mk (below_step z13_ hb); clear HO104; clear HO107; clear HO110; clear BK101; clear BK113; clear HB; have HO104 := n0_; have HO107 := n1_; have HO110 := n2_; have HO116 := n3_; have HO119 := n4_; have BK101 := n5_; have BK113 := n6_; have HB := n7_; clear n0_ n1_ n2_ n3_ n4_ n5_ n6_ n7_; (try clear hb); (try clear hb2); (try clear hk); (try clear hi); (try clear ho0); (try clear ho1)) | ((with_reducible refine gate_dst (N := 14) rfl ?_); refine box_event ?hg (N := 14) ?hd (cs := #[.slice none 0 0, .slice none 0 0, .int .i64 0]) (t := 36) ?hr ?_; (case hd => rfl); (case hg => rfl); (case hr => first | (go_simp; done) | (go_simp; rfl)); intro gb122 hg w32 hbox hb; have n0_ := Aside0.mk (Kd.V_below (Kd.V_elderB z46_ gb122 (Nat.le_of_eq hg.symm)) hb); have n1_ := Aside0.mk (Kd.V_below (Kd.V_elderB z47_ gb122 (Nat.le_of_eq hg.symm)) hb); have n2_ := Aside0.mk (Kd.V_below (Kd.V_elderB z44_ gb122 (Nat.le_of_eq hg.symm)) hb); have n3_ := Aside0.mk (Kd.R_below z48_ hb); have n4_ := Aside0.mk (Kd.R_below z49_ hb); have n5_ := Aside0.mk (blk_below (g := gb101) (o := .cells #[.int .i64 a0_0, .slice Ao22 t102.length co22, .string a0_2] 30 (0, 0)) z38_ hb); have n6_ := Aside0.mk (blk_below (g := gb113) (o := .cells #[.slice Ao26 t105.length co26, .slice Ao29 t108.length co29, .int .i64 t111] 33 (0, 0)) z39_ hb); have n7_ := Aside0.mk (below_step z13_ hb); have n8_ := Aside0.mk (hbox); have n9_ := Aside0.mk ((by rw [hg]; exact (below_size z13_) : w.heap.size ≤ gb122)); have n10_ := Aside0.mk ((by rw [hg]; exact (below_size z13_) : w.heap.size ≤ gb122)); have n11_ := Aside0.mk ((by rw [hg]; exact Nat.ne_of_lt (blk_lt (g := gb101) (o := .cells #[.int .i64 a0_0, .slice Ao22 t102.length co22, .string a0_2] 30 (0, 0)) z38_) : gb101 ≠ gb122)); have n12_ := Aside0.mk ((by rw [hg]; exact Nat.ne_of_gt (blk_lt (g := gb101) (o := .cells #[.int .i64 a0_0, .slice Ao22 t102.length co22, .string a0_2] 30 (0, 0)) z38_) : gb122 ≠ gb101)); have n13_ := Aside0.mk ((by rw [hg]; exact Nat.ne_of_lt (blk_lt (g := gb113) (o := .cells #[.slice Ao26 t105.length co26, .slice Ao29 t108.length co29, .int .i64 t111] 33 (0, 0)) z39_) : gb113 ≠ gb122)); have n14_ := Aside0.mk ((by rw [hg]; exact Nat.ne_of_gt (blk_lt (g := gb113) (o := .cells #[.slice Ao26 t105.length co26, .slice Ao29 t108.length co29, .int .i64 t111] 33 (0, 0)) z39_) : gb122 ≠ gb113)); clear HO104; clear HO107; clear HO110; clear HO116; clear HO119; clear BK101; clear BK113; clear HB; have HO104 := n0_; have HO107 := n1_; have HO110 := n2_; have HO116 := n3_; have HO119 := n4_; have BK101 := n5_; have BK113 := n6_; have HB := n7_; have BK122 := n8_; have GW122 := n9_; have GE122 := n10_; have NB101_122 := n11_; have NB122_101 := n12_; have NB113_122 := n13_; have NB122_113 := n14_; clear n0_ n1_ n2_ n3_ n4_ n5_ n6_ n7_ n8_ n9_ n10_ n11_ n12_ n13_ n14_; clear hb hbox hg; obtain ⟨Ao33, co33, eo33⟩ := Kd.R_slice HO116.out; subst eo33; have hnb34 := NB122_101.out; have hnc34 := NB101_122.out; have hnb35 := NB122_113.out; have hnc35 := NB113_122.out; have hcz36_0 : w32.cell? ⟨gb122, 0, none⟩ = some (.slice none 0 0) := (blk_cell BK122.out 0).trans rfl; have hcz36_1 : w32.cell? ⟨gb122, 1, none⟩ = some (.slice none 0 0) := (blk_cell BK122.out 1).trans rfl; have hcz36_2 : w32.cell? ⟨gb122, 2, none⟩ = some (.int .i64 0) := (blk_cell BK122.out 2).trans rfl; have hfz36_0 := blk_frozen BK122.out 0; have hfz36_1 := blk_frozen BK122.out 1; have hfz36_2 := blk_frozen BK122.out 2; obtain ⟨Ao37, co37, eo37⟩ := Kd.R_slice HO119.out; subst eo37))
      have n0_ : Aside0 (Kd.V k45 45 (((w32.setCell ⟨gb122, 0, none⟩ (.slice Ao33 t114.length co33)).setCell ⟨gb122, 1, none⟩ (.slice Ao37 t117.length co37)).setCell ⟨gb122, 2, none⟩ (.int .i64 t120)) w.heap.size (fun k_ => some k_ ≠ (.slice Ao33 t114.length co33 : Value).ownBlock ∧ some k_ ≠ (.slice Ao37 t117.length co37 : Value).ownBlock ∧ k_ ≠ gb101 ∧ k_ ≠ gb113 ∧ k_ ≠ gb122) (.slice Ao22 t102.length co22) t102) := ⟨by (with_reducible repeat (first | apply Kd.V_alloc | apply Kd.V_drewN | apply Kd.V_drew)); exact Kd.V_mono (Kd.V_far (p := ⟨gb122, 2, none⟩) (Kd.V_far (p := ⟨gb122, 1, none⟩) (Kd.V_far (p := ⟨gb122, 0, none⟩) (Kd.V_mono HO104.out (fun k_ hk => (⟨hk, hk.2⟩ : _ ∧ k_ ≠ gb122))) (fun _ hk => hk.2) (.slice Ao33 t114.length co33)) (fun _ hk => hk.2) (.slice Ao37 t117.length co37)) (fun _ hk => hk.2) (.int .i64 t120)) (fun _ hk => ⟨hk.1.1.1.2, ⟨hk.1.1.2, ⟨hk.1.1.1.1.1, ⟨hk.1.1.1.1.2, hk.1.2⟩⟩⟩⟩)⟩
      have n1_ : Aside0 (Kd.V Kd.string 9 (((w32.setCell ⟨gb122, 0, none⟩ (.slice Ao33 t114.length co33)).setCell ⟨gb122, 1, none⟩ (.slice Ao37 t117.length co37)).setCell ⟨gb122, 2, none⟩ (.int .i64 t120)) w.heap.size (fun k_ => some k_ ≠ (.slice Ao33 t114.length co33 : Value).ownBlock ∧ some k_ ≠ (.slice Ao37 t117.length co37 : Value).ownBlock ∧ k_ ≠ gb101 ∧ k_ ≠ gb113 ∧ k_ ≠ gb122) (.slice Ao26 t105.length co26) t105) := ⟨by (with_reducible repeat (first | apply Kd.V_alloc | apply Kd.V_drewN | apply Kd.V_drew)); exact Kd.V_mono (Kd.V_far (p := ⟨gb122, 2, none⟩) (Kd.V_far (p := ⟨gb122, 1, none⟩) (Kd.V_far (p := ⟨gb122, 0, none⟩) (Kd.V_mono HO107.out (fun k_ hk => (⟨hk, hk.2⟩ : _ ∧ k_ ≠ gb122))) (fun _ hk => hk.2) (.slice Ao33 t114.length co33)) (fun _ hk => hk.2) (.slice Ao37 t117.length co37)) (fun _ hk => hk.2) (.int .i64 t120)) (fun _ hk => ⟨hk.1.1.1.2, ⟨hk.1.1.2, ⟨hk.1.1.1.1.1, ⟨hk.1.1.1.1.2, hk.1.2⟩⟩⟩⟩)⟩
      have n2_ : Aside0 (Kd.V Kd.string 9 (((w32.setCell ⟨gb122, 0, none⟩ (.slice Ao33 t114.length co33)).setCell ⟨gb122, 1, none⟩ (.slice Ao37 t117.length co37)).setCell ⟨gb122, 2, none⟩ (.int .i64 t120)) w.heap.size (fun k_ => some k_ ≠ (.slice Ao33 t114.length co33 : Value).ownBlock ∧ some k_ ≠ (.slice Ao37 t117.length co37 : Value).ownBlock ∧ k_ ≠ gb101 ∧ k_ ≠ gb113 ∧ k_ ≠ gb122) (.slice Ao29 t108.length co29) t108) := ⟨by (with_reducible repeat (first | apply Kd.V_alloc | apply Kd.V_drewN | apply Kd.V_drew)); exact Kd.V_mono (Kd.V_far (p := ⟨gb122, 2, none⟩) (Kd.V_far (p := ⟨gb122, 1, none⟩) (Kd.V_far (p := ⟨gb122, 0, none⟩) (Kd.V_mono HO110.out (fun k_ hk => (⟨hk, hk.2⟩ : _ ∧ k_ ≠ gb122))) (fun _ hk => hk.2) (.slice Ao33 t114.length co33)) (fun _ hk => hk.2) (.slice Ao37 t117.length co37)) (fun _ hk => hk.2) (.int .i64 t120)) (fun _ hk => ⟨hk.1.1.1.2, ⟨hk.1.1.2, ⟨hk.1.1.1.1.1, ⟨hk.1.1.1.1.2, hk.1.2⟩⟩⟩⟩)⟩
      have n3_ : Aside0 (Kd.R Kd.string 9 (((w32.setCell ⟨gb122, 0, none⟩ (.slice Ao33 t114.length co33)).setCell ⟨gb122, 1, none⟩ (.slice Ao37 t117.length co37)).setCell ⟨gb122, 2, none⟩ (.int .i64 t120)) w.heap.size (fun k_ => some k_ ≠ (.slice Ao37 t117.length co37 : Value).ownBlock) (.slice Ao33 t114.length co33) t114) := ⟨by (with_reducible repeat (first | apply Kd.R_alloc | apply Kd.R_drewN | apply Kd.R_drew)); exact Kd.R_mono (Kd.R_far (p := ⟨gb122, 2, none⟩) (Kd.R_far (p := ⟨gb122, 1, none⟩) (Kd.R_far (p := ⟨gb122, 0, none⟩) (Kd.R_types HO116.out BK122.out (by decide)) (fun _ hk => hk.2) (.slice Ao33 t114.length co33)) (fun _ hk => hk.2) (.slice Ao37 t117.length co37)) (fun _ hk => hk.2) (.int .i64 t120)) (fun _ hk => hk.1)⟩
      have n4_ : Aside0 (Kd.R Kd.string 9 (((w32.setCell ⟨gb122, 0, none⟩ (.slice Ao33 t114.length co33)).setCell ⟨gb122, 1, none⟩ (.slice Ao37 t117.length co37)).setCell ⟨gb122, 2, none⟩ (.int .i64 t120)) w.heap.size (fun k_ => some k_ ≠ (.slice Ao33 t114.length co33 : Value).ownBlock) (.slice Ao37 t117.length co37) t117) := ⟨by (with_reducible repeat (first | apply Kd.R_alloc | apply Kd.R_drewN | apply Kd.R_drew)); exact Kd.R_mono (Kd.R_far (p := ⟨gb122, 2, none⟩) (Kd.R_far (p := ⟨gb122, 1, none⟩) (Kd.R_far (p := ⟨gb122, 0, none⟩) (Kd.R_types HO119.out BK122.out (by decide)) (fun _ hk => hk.2) (.slice Ao33 t114.length co33)) (fun _ hk => hk.2) (.slice Ao37 t117.length co37)) (fun _ hk => hk.2) (.int .i64 t120)) (fun _ hk => hk.1)⟩
      have n5_ : Aside0 ((((w32.setCell ⟨gb122, 0, none⟩ (.slice Ao33 t114.length co33)).setCell ⟨gb122, 1, none⟩ (.slice Ao37 t117.length co37)).setCell ⟨gb122, 2, none⟩ (.int .i64 t120)).heap[gb101]? = some (.cells #[.int .i64 a0_0, .slice Ao22 t102.length co22, .string a0_2] 30 (0, 0))) := ⟨by (with_reducible repeat (first | refine blk_drewN ?_ _ | refine blk_drew ?_ | refine blk_alloc ?_ _)); refine blk_far ?_ NB101_122.out _; (with_reducible repeat (first | refine blk_drewN ?_ _ | refine blk_drew ?_ | refine blk_alloc ?_ _)); refine blk_far ?_ NB101_122.out _; (with_reducible repeat (first | refine blk_drewN ?_ _ | refine blk_drew ?_ | refine blk_alloc ?_ _)); refine blk_far ?_ NB101_122.out _; (with_reducible repeat (first | refine blk_drewN ?_ _ | refine blk_drew ?_ | refine blk_alloc ?_ _)); exact BK101.out⟩
      have n6_ : Aside0 ((((w32.setCell ⟨gb122, 0, none⟩ (.slice Ao33 t114.length co33)).setCell ⟨gb122, 1, none⟩ (.slice Ao37 t117.length co37)).setCell ⟨gb122, 2, none⟩ (.int .i64 t120)).heap[gb113]? = some (.cells #[.slice Ao26 t105.length co26, .slice Ao29 t108.length co29, .int .i64 t111] 33 (0, 0))) := ⟨by (with_reducible repeat (first | refine blk_drewN ?_ _ | refine blk_drew ?_ | refine blk_alloc ?_ _)); refine blk_far ?_ NB113_122.out _; (with_reducible repeat (first | refine blk_drewN ?_ _ | refine blk_drew ?_ | refine blk_alloc ?_ _)); refine blk_far ?_ NB113_122.out _; (with_reducible repeat (first | refine blk_drewN ?_ _ | refine blk_drew ?_ | refine blk_alloc ?_ _)); refine blk_far ?_ NB113_122.out _; (with_reducible repeat (first | refine blk_drewN ?_ _ | refine blk_drew ?_ | refine blk_alloc ?_ _)); exact BK113.out⟩
      have n7_ : Aside0 ((((w32.setCell ⟨gb122, 0, none⟩ (.slice Ao33 t114.length co33)).setCell ⟨gb122, 1, none⟩ (.slice Ao37 t117.length co37)).setCell ⟨gb122, 2, none⟩ (.int .i64 t120)).heap[gb122]? = some (.cells #[.slice Ao33 t114.length co33, .slice Ao37 t117.length co37, .int .i64 t120] 36 (0, 0))) := ⟨by (with_reducible repeat (first | refine blk_drewN ?_ _ | refine blk_drew ?_ | refine blk_alloc ?_ _)); refine blk_put (cs := #[.slice Ao33 t114.length co33, .slice Ao37 t117.length co37, .int .i64 0]) ?_ 2 _ rfl; (with_reducible repeat (first | refine blk_drewN ?_ _ | refine blk_drew ?_ | refine blk_alloc ?_ _)); refine blk_put (cs := #[.slice Ao33 t114.length co33, .slice none 0 0, .int .i64 0]) ?_ 1 _ rfl; (with_reducible repeat (first | refine blk_drewN ?_ _ | refine blk_drew ?_ | refine blk_alloc ?_ _)); refine blk_put (cs := #[.slice none 0 0, .slice none 0 0, .int .i64 0]) ?_ 0 _ rfl; (with_reducible repeat (first | refine blk_drewN ?_ _ | refine blk_drew ?_ | refine blk_alloc ?_ _)); exact BK122.out⟩
      have n8_ : Aside0 (Below w.heap.size w (((w32.setCell ⟨gb122, 0, none⟩ (.slice Ao33 t114.length co33)).setCell ⟨gb122, 1, none⟩ (.slice Ao37 t117.length co37)).setCell ⟨gb122, 2, none⟩ (.int .i64 t120))) := ⟨z11_⟩
      (try clear HO104)
      (try clear HO107)
      (try clear HO110)
      (try clear HO116)
      (try clear HO119)
      (try clear BK101)
      (try clear BK113)
      (try clear BK122)
      (try clear HB)
      generalize (((w32.setCell ⟨gb122, 0, none⟩ (.slice Ao33 t114.length co33)).setCell ⟨gb122, 1, none⟩ (.slice Ao37 t117.length co37)).setCell ⟨gb122, 2, none⟩ (.int .i64 t120)) = w38 at n0_ n1_ n2_ n3_ n4_ n5_ n6_ n7_ n8_ ⊢
      have HO104 := n0_
      have HO107 := n1_
      have HO110 := n2_
      have HO116 := n3_
      have HO119 := n4_
      have BK101 := n5_
      have BK113 := n6_
      have BK122 := n7_
      have HB := n8_
      clear n0_ n1_ n2_ n3_ n4_ n5_ n6_ n7_ n8_
      have n0_ := Aside0.mk (Kd.V_drew HO104.out)
      have n1_ := Aside0.mk (Kd.V_drew HO107.out)
      have n2_ := Aside0.mk (Kd.V_drew HO110.out)
      have n3_ := Aside0.mk (Kd.R_drew HO116.out)
      have n4_ := Aside0.mk (Kd.R_drew HO119.out)
      have n5_ := Aside0.mk (blk_drew BK101.out)
      have n6_ := Aside0.mk (blk_drew BK113.out)
      have n7_ := Aside0.mk (blk_drew BK122.out)
      have n8_ := Aside0.mk (below_drew1 HB.out)
      clear HO104; clear HO107; clear HO110; clear HO116; clear HO119; clear BK101; clear BK113; clear BK122; clear HB
      have HO104 := n0_
      have HO107 := n1_
      have HO110 := n2_
      have HO116 := n3_
      have HO119 := n4_
      have BK101 := n5_
      have BK113 := n6_
      have BK122 := n7_
      have HB := n8_
      clear n0_ n1_ n2_ n3_ n4_ n5_ n6_ n7_ n8_
      refine start_ (n := 41) (S := fun w' => w'.cell? ⟨gb113, 0, none⟩ = some (.slice Ao26 t105.length co26) ∧ w'.cell? ⟨gb113, 1, none⟩ = some (.slice Ao29 t108.length co29) ∧ w'.cell? ⟨gb113, 2, none⟩ = some (.int .i64 t111) ∧ w'.cell? ⟨gb122, 0, none⟩ = some (.slice Ao33 t114.length co33) ∧ w'.cell? ⟨gb122, 1, none⟩ = some (.slice Ao37 t117.length co37) ∧ w'.cell? ⟨gb122, 2, none⟩ = some (.int .i64 t120)) (ds := []) (tb_ 41 0) (by kernel_rfl) rfl rfl ⟨(blk_cell BK113.out 0).trans rfl, (blk_cell BK113.out 1).trans rfl, (blk_cell BK113.out 2).trans rfl, (blk_cell BK122.out 0).trans rfl, (blk_cell BK122.out 1).trans rfl, (blk_cell BK122.out 2).trans rfl⟩ (fun hHeld => ?_); refine with_tabW pursuivantlaw14_PreReadsN.tab7 pursuivantlaw14_PreReadsN.bits7 (fun HT_ HW_ => ?_)
      generalize w38.drew = w39 at HO104 HO107 HO110 HO116 HO119 BK101 BK113 BK122 HB hHeld ⊢
      refine one_ (i := 0) (N := some 40) (tb_ 41 1) rfl rfl (one_of HT_.out (by kernel_rfl)) (by decide) (fun K hK => ?_)
      refine goes_ Tryz.func6 (by kernel_rfl) rfl #[] (by rfl) rfl rfl z24_ ?_
      with_reducible refine (pursuivantlaw14_awake.calls k  true _ ?gw4_ A9.out (by first | rfl | assumption)).mono ?_
      case gw4_ => exact z1_
      rintro e w40 ⟨rfl, hb⟩
      refine ⟨_, rfl, ?_⟩
      have n0_ := Aside0.mk (Kd.V_below z46_ hb)
      have n1_ := Aside0.mk (Kd.V_below z47_ hb)
      have n2_ := Aside0.mk (Kd.V_below z44_ hb)
      have n3_ := Aside0.mk (Kd.R_below z48_ hb)
      have n4_ := Aside0.mk (Kd.R_below z49_ hb)
      have n5_ := Aside0.mk (blk_below (g := gb101) (o := .cells #[.int .i64 a0_0, .slice Ao22 t102.length co22, .string a0_2] 30 (0, 0)) z38_ hb)
      have n6_ := Aside0.mk (blk_below (g := gb113) (o := .cells #[.slice Ao26 t105.length co26, .slice Ao29 t108.length co29, .int .i64 t111] 33 (0, 0)) z39_ hb)
      have n7_ := Aside0.mk (blk_below (g := gb122) (o := .cells #[.slice Ao33 t114.length co33, .slice Ao37 t117.length co37, .int .i64 t120] 36 (0, 0)) z40_ hb)
      have n8_ := Aside0.mk (below_step z11_ hb)
      clear HO104; clear HO107; clear HO110; clear HO116; clear HO119; clear BK101; clear BK113; clear BK122; clear HB
      have HO104 := n0_
      have HO107 := n1_
      have HO110 := n2_
      have HO116 := n3_
      have HO119 := n4_
      have BK101 := n5_
      have BK113 := n6_
      have BK122 := n7_
      have HB := n8_
      clear n0_ n1_ n2_ n3_ n4_ n5_ n6_ n7_ n8_
      (try clear hb)
      (try clear hb2)
      (try clear hk)
      (try clear hi)
      refine hK.out _ _ ⟨(blk_cell BK113.out 0).trans rfl, (blk_cell BK113.out 1).trans rfl, (blk_cell BK113.out 2).trans rfl, (blk_cell BK122.out 0).trans rfl, (blk_cell BK122.out 1).trans rfl, (blk_cell BK122.out 2).trans rfl⟩ (fun hHeld => ?_)
      clear hK K
      refine norm_ (a' := ?_) ?_ ?_
      rotate_left
      ·show Act.put _ (some 40) _ = _
       simp only [Act.put, List.setIfInBounds_toArray, List.set_cons_zero, List.set_cons_succ, i64_w, i32_w]
       rfl
      refine pz_ 1 41 (tb_ 41 3) HT_.out ?_
      refine pz_ 2 42 (tb_ 41 7) HT_.out ?_
      refine pz_ 3 43 (tb_ 41 15) HT_.out ?_
      refine pz_ 4 44 (tb_ 41 31) HT_.out ?_
      refine pz_ 5 45 (tb_ 41 63) HT_.out ?_
      refine pz_ 6 46 (tb_ 41 127) HT_.out ?_
      refine pz_ 7 47 (tb_ 41 255) HT_.out ?_
      refine pz_ 9 49 (tb_ 41 767) HT_.out ?_
      refine take_ (i := 8) (N := some 48) (v := ?_) (a' := ?_) (tb_ 41 1023) rfl rfl (take_ofW HT_.out HW_.out (by kernel_rfl)) (fun _ _ _ h => h) (Or.inl ⟨by rfl, ?_⟩) hHeld ?_ ?_
      rotate_left
      ·rintro w' ⟨s0, s1, s2, s3, s4, s5⟩
       go_simp
       with_reducible rfl
      rotate_left
      ·simp only [Act.put, List.setIfInBounds_toArray, List.set_cons_zero, List.set_cons_succ, i64_w, i32_w]
       rfl
      refine take_ (i := 10) (N := some 50) (v := ?_) (a' := ?_) (tb_ 41 2047) rfl rfl (take_ofW HT_.out HW_.out (by kernel_rfl)) (fun _ _ _ h => h) (Or.inl ⟨by rfl, ?_⟩) hHeld ?_ ?_
      rotate_left
      ·rintro w' ⟨s0, s1, s2, s3, s4, s5⟩
       go_simp
       with_reducible rfl
      rotate_left
      ·simp only [Act.put, List.setIfInBounds_toArray, List.set_cons_zero, List.set_cons_succ, i64_w, i32_w]
       rfl
      refine one_ (i := 11) (N := some 51) (tb_ 41 4095) rfl rfl (one_of HT_.out (by kernel_rfl)) (by decide) (fun K hK => ?_)
      refine goes_ Tryz.func15 (by kernel_rfl) rfl #[.slice Ao26 t105.length co26, .slice Ao33 t114.length co33] (by rfl) rfl rfl z24_ ?_
      with_reducible refine (pursuivantref04_Same.calls k _ _ t105 _ _ t114 true _ ?gw5_ ?side1c1 ?side2c1 ?side3c1 ?side4c1 A12.out).mono ?_
      case gw5_ => exact z1_
      (case side1c1 => repeat (first | exact (Kd.V_reads' HO107.out).2.2 | (with_reducible refine Kd.C_alloc ?_ _) | (with_reducible refine Kd.C_drewN ?_ _) | (with_reducible refine Kd.C_drew ?_)))
      (case side2c1 => exact (Kd.V_reads' HO107.out).2.1)
      (case side3c1 => repeat (first | exact (Kd.R_reads' HO116.out).2.2 | (with_reducible refine Kd.C_alloc ?_ _) | (with_reducible refine Kd.C_drewN ?_ _) | (with_reducible refine Kd.C_drew ?_)))
      (case side4c1 => exact (Kd.R_reads' HO116.out).2.1)
      rintro e w' ⟨rfl, ⟨nd, rfl⟩⟩
      refine ⟨_, rfl, ?_⟩
      refine hK.out _ _ ⟨(blk_cell BK113.out 0).trans rfl, (blk_cell BK113.out 1).trans rfl, (blk_cell BK113.out 2).trans rfl, (blk_cell BK122.out 0).trans rfl, (blk_cell BK122.out 1).trans rfl, (blk_cell BK122.out 2).trans rfl⟩ (fun hHeld => ?_)
      clear hK K
      refine norm_ (a' := ?_) ?_ ?_
      rotate_left
      ·show Act.put _ (some 51) _ = _
       simp only [Act.put, List.setIfInBounds_toArray, List.set_cons_zero, List.set_cons_succ, i64_w, i32_w]
       rfl
      refine pz_ 12 52 (tb_ 41 8191) HT_.out ?_
      refine pz_ 13 53 (tb_ 41 16383) HT_.out ?_
      refine pz_ 14 54 (tb_ 41 32767) HT_.out ?_
      refine pz_ 16 56 (tb_ 41 98303) HT_.out ?_
      refine take_ (i := 15) (N := some 55) (v := ?_) (a' := ?_) (tb_ 41 131071) rfl rfl (take_ofW HT_.out HW_.out (by kernel_rfl)) (fun _ _ _ h => h) (Or.inl ⟨by rfl, ?_⟩) hHeld ?_ ?_
      rotate_left
      ·rintro w' ⟨s0, s1, s2, s3, s4, s5⟩
       go_simp
       with_reducible rfl
      rotate_left
      ·simp only [Act.put, List.setIfInBounds_toArray, List.set_cons_zero, List.set_cons_succ, i64_w, i32_w]
       rfl
      refine take_ (i := 17) (N := some 57) (v := ?_) (a' := ?_) (tb_ 41 262143) rfl rfl (take_ofW HT_.out HW_.out (by kernel_rfl)) (fun _ _ _ h => h) (Or.inl ⟨by rfl, ?_⟩) hHeld ?_ ?_
      rotate_left
      ·rintro w' ⟨s0, s1, s2, s3, s4, s5⟩
       go_simp
       with_reducible rfl
      rotate_left
      ·simp only [Act.put, List.setIfInBounds_toArray, List.set_cons_zero, List.set_cons_succ, i64_w, i32_w]
       rfl
      refine one_ (i := 18) (N := some 58) (tb_ 41 524287) rfl rfl (one_of HT_.out (by kernel_rfl)) (by decide) (fun K hK => ?_)
      refine goes_ Tryz.func15 (by kernel_rfl) rfl #[.slice Ao29 t108.length co29, .slice Ao37 t117.length co37] (by rfl) rfl rfl z24_ ?_
      with_reducible refine (pursuivantref04_Same.calls k _ _ t108 _ _ t117 true _ ?gw6_ ?side1c2 ?side2c2 ?side3c2 ?side4c2 A14.out).mono ?_
      case gw6_ => exact z1_
      (case side1c2 => repeat (first | exact (Kd.V_reads' HO110.out).2.2 | (with_reducible refine Kd.C_alloc ?_ _) | (with_reducible refine Kd.C_drewN ?_ _) | (with_reducible refine Kd.C_drew ?_)))
      (case side2c2 => exact (Kd.V_reads' HO110.out).2.1)
      (case side3c2 => repeat (first | exact (Kd.R_reads' HO119.out).2.2 | (with_reducible refine Kd.C_alloc ?_ _) | (with_reducible refine Kd.C_drewN ?_ _) | (with_reducible refine Kd.C_drew ?_)))
      (case side4c2 => exact (Kd.R_reads' HO119.out).2.1)
      rintro e w' ⟨rfl, ⟨nd, rfl⟩⟩
      refine ⟨_, rfl, ?_⟩
      refine hK.out _ _ ⟨(blk_cell BK113.out 0).trans rfl, (blk_cell BK113.out 1).trans rfl, (blk_cell BK113.out 2).trans rfl, (blk_cell BK122.out 0).trans rfl, (blk_cell BK122.out 1).trans rfl, (blk_cell BK122.out 2).trans rfl⟩ (fun hHeld => ?_)
      clear hK K
      refine norm_ (a' := ?_) ?_ ?_
      rotate_left
      ·show Act.put _ (some 58) _ = _
       simp only [Act.put, List.setIfInBounds_toArray, List.set_cons_zero, List.set_cons_succ, i64_w, i32_w]
       rfl
      refine pz_ 19 59 (tb_ 41 1048575) HT_.out ?_
      refine pz_ 20 60 (tb_ 41 2097151) HT_.out ?_
      refine pz_ 21 61 (tb_ 41 4194303) HT_.out ?_
      refine pz_ 23 63 (tb_ 41 12582911) HT_.out ?_
      refine take_ (i := 22) (N := some 62) (v := ?_) (a' := ?_) (tb_ 41 16777215) rfl rfl (take_ofW HT_.out HW_.out (by kernel_rfl)) (fun _ _ _ h => h) (Or.inl ⟨by rfl, ?_⟩) hHeld ?_ ?_
      rotate_left
      ·rintro w' ⟨s0, s1, s2, s3, s4, s5⟩
       go_simp
       with_reducible rfl
      rotate_left
      ·simp only [Act.put, List.setIfInBounds_toArray, List.set_cons_zero, List.set_cons_succ, i64_w, i32_w]
       rfl
      refine take_ (i := 24) (N := some 64) (v := ?_) (a' := ?_) (tb_ 41 33554431) rfl rfl (take_ofW HT_.out HW_.out (by kernel_rfl)) (fun _ _ _ h => h) (Or.inl ⟨by rfl, ?_⟩) hHeld ?_ ?_
      rotate_left
      ·rintro w' ⟨s0, s1, s2, s3, s4, s5⟩
       go_simp
       with_reducible rfl
      rotate_left
      ·simp only [Act.put, List.setIfInBounds_toArray, List.set_cons_zero, List.set_cons_succ, i64_w, i32_w]
       rfl
      refine pz_ 25 65 (tb_ 41 67108863) HT_.out ?_
      refine pz_ 26 66 (tb_ 41 134217727) HT_.out ?_
      refine pz_ 27 67 (tb_ 41 268435455) HT_.out ?_
      refine pz_ 29 69 (tb_ 41 805306367) HT_.out ?_
      refine pz_ 30 70 (tb_ 41 1879048191) HT_.out ?_
      refine pz_ 31 71 (tb_ 41 4026531839) HT_.out ?_
      refine pz_ 34 74 (tb_ 41 21206401023) HT_.out ?_
      refine pz_ 35 75 (tb_ 41 55566139391) HT_.out ?_
      refine pz_ 36 76 (tb_ 41 124285616127) HT_.out ?_
      refine take_ (i := 28) (N := some 68) (v := ?_) (a' := ?_) (tb_ 41 124554051583) rfl rfl (take_ofW HT_.out HW_.out (by kernel_rfl)) (fun _ _ _ h => h) (Or.inl ⟨by rfl, ?_⟩) hHeld ?_ ?_
      rotate_left
      ·rintro w' ⟨s0, s1, s2, s3, s4, s5⟩
       go_simp
       with_reducible rfl
      rotate_left
      ·simp only [Act.put, List.setIfInBounds_toArray, List.set_cons_zero, List.set_cons_succ, i64_w, i32_w]
       rfl
      refine take_ (i := 33) (N := some 73) (v := ?_) (a' := ?_) (tb_ 41 133143986175) rfl rfl (take_ofW HT_.out HW_.out (by kernel_rfl)) (fun _ _ _ h => h) (Or.inl ⟨by rfl, ?_⟩) hHeld ?_ ?_
      rotate_left
      ·rintro w' ⟨s0, s1, s2, s3, s4, s5⟩
       go_simp
       with_reducible rfl
      rotate_left
      ·simp only [Act.put, List.setIfInBounds_toArray, List.set_cons_zero, List.set_cons_succ, i64_w, i32_w]
       rfl
      refine one_ (i := 32) (N := some 72) (tb_ 41 137438953471) rfl rfl (one_of HT_.out (by kernel_rfl)) (by decide) (fun K hK => ?_)
      refine goes_ Tryz.func16 (by kernel_rfl) rfl #[.agg #[.slice Ao26 t105.length co26, .slice Ao29 t108.length co29, .int .i64 t111], .string a2, .slice A3 l3c.length c3, .int .i64 a4] (by rfl) rfl rfl z24_ ?_
      with_reducible refine (pre_Answer_Lets.calls _ _ t105 _ _ t108 t111 a2 _ _ l3c a4 t126 _ ?gw7_ ?side1c3 ?side2c3 ?side3c3 ?side4c3 ?side5c3 ?side6c3 A17.out).mono ?_
      case gw7_ => exact z1_
      (case side1c3 => repeat (first | exact (Kd.V_reads' HO107.out).2.2 | (with_reducible refine Kd.C_alloc ?_ _) | (with_reducible refine Kd.C_drewN ?_ _) | (with_reducible refine Kd.C_drew ?_)))
      (case side2c3 => exact (Kd.V_reads' HO107.out).2.1)
      (case side3c3 => repeat (first | exact (Kd.V_reads' HO110.out).2.2 | (with_reducible refine Kd.C_alloc ?_ _) | (with_reducible refine Kd.C_drewN ?_ _) | (with_reducible refine Kd.C_drew ?_)))
      (case side4c3 => exact (Kd.V_reads' HO110.out).2.1)
      (case side5c3 => repeat (first | exact (Kd.C_below HR3.out z11_) | (with_reducible refine Kd.C_alloc ?_ _) | (with_reducible refine Kd.C_drewN ?_ _) | (with_reducible refine Kd.C_drew ?_)))
      (case side6c3 => exact HC3.out)
      rintro e w41 ⟨rfl, hb⟩
      refine ⟨_, rfl, ?_⟩
      have n0_ := Aside0.mk (Kd.V_below z46_ hb)
      have n1_ := Aside0.mk (Kd.V_below z47_ hb)
      have n2_ := Aside0.mk (Kd.V_below z44_ hb)
      have n3_ := Aside0.mk (Kd.R_below z48_ hb)
      have n4_ := Aside0.mk (Kd.R_below z49_ hb)
      have n5_ := Aside0.mk (blk_below (g := gb101) (o := .cells #[.int .i64 a0_0, .slice Ao22 t102.length co22, .string a0_2] 30 (0, 0)) z38_ hb)
      have n6_ := Aside0.mk (blk_below (g := gb113) (o := .cells #[.slice Ao26 t105.length co26, .slice Ao29 t108.length co29, .int .i64 t111] 33 (0, 0)) z39_ hb)
      have n7_ := Aside0.mk (blk_below (g := gb122) (o := .cells #[.slice Ao33 t114.length co33, .slice Ao37 t117.length co37, .int .i64 t120] 36 (0, 0)) z40_ hb)
      have n8_ := Aside0.mk (below_step z11_ hb)
      clear HO104; clear HO107; clear HO110; clear HO116; clear HO119; clear BK101; clear BK113; clear BK122; clear HB
      have HO104 := n0_
      have HO107 := n1_
      have HO110 := n2_
      have HO116 := n3_
      have HO119 := n4_
      have BK101 := n5_
      have BK113 := n6_
      have BK122 := n7_
      have HB := n8_
      clear n0_ n1_ n2_ n3_ n4_ n5_ n6_ n7_ n8_
      (try clear hb)
      (try clear hb2)
      (try clear hk)
      (try clear hi)
      refine hK.out _ _ ⟨(blk_cell BK113.out 0).trans rfl, (blk_cell BK113.out 1).trans rfl, (blk_cell BK113.out 2).trans rfl, (blk_cell BK122.out 0).trans rfl, (blk_cell BK122.out 1).trans rfl, (blk_cell BK122.out 2).trans rfl⟩ (fun hHeld => ?_)
      clear hK K
      refine norm_ (a' := ?_) ?_ ?_
      rotate_left
      ·show Act.put _ (some 72) _ = _
       simp only [Act.put, List.setIfInBounds_toArray, List.set_cons_zero, List.set_cons_succ, i64_w, i32_w]
       rfl
      refine one_ (i := 37) (N := some 77) (tb_ 41 274877906943) rfl rfl (one_of HT_.out (by kernel_rfl)) (by decide) (fun K hK => ?_)
      refine goes_ Tryz.func17 (by kernel_rfl) rfl #[.agg #[.slice Ao33 t114.length co33, .slice Ao37 t117.length co37, .int .i64 t120], .string a2, .slice A3 l3c.length c3, .int .i64 a4] (by rfl) rfl rfl z24_ ?_
      with_reducible refine (pursuivantref14_Answer_Lets.calls k _ _ t114 _ _ t117 t120 a2 _ _ l3c a4 t127 _ ?gw8_ ?side1c4 ?side2c4 ?side3c4 ?side4c4 ?side5c4 ?side6c4 A18.out).mono ?_
      case gw8_ => exact z1_
      (case side1c4 => repeat (first | exact (Kd.R_reads' HO116.out).2.2 | (with_reducible refine Kd.C_alloc ?_ _) | (with_reducible refine Kd.C_drewN ?_ _) | (with_reducible refine Kd.C_drew ?_)))
      (case side2c4 => exact (Kd.R_reads' HO116.out).2.1)
      (case side3c4 => repeat (first | exact (Kd.R_reads' HO119.out).2.2 | (with_reducible refine Kd.C_alloc ?_ _) | (with_reducible refine Kd.C_drewN ?_ _) | (with_reducible refine Kd.C_drew ?_)))
      (case side4c4 => exact (Kd.R_reads' HO119.out).2.1)
      (case side5c4 => repeat (first | exact (Kd.C_below HR3.out HB.out) | (with_reducible refine Kd.C_alloc ?_ _) | (with_reducible refine Kd.C_drewN ?_ _) | (with_reducible refine Kd.C_drew ?_)))
      (case side6c4 => exact HC3.out)
      rintro e w42 ⟨rfl, hb⟩
      refine ⟨_, rfl, ?_⟩
      have n0_ := Aside0.mk (Kd.V_below z46_ hb)
      have n1_ := Aside0.mk (Kd.V_below z47_ hb)
      have n2_ := Aside0.mk (Kd.V_below z44_ hb)
      have n3_ := Aside0.mk (Kd.R_below z48_ hb)
      have n4_ := Aside0.mk (Kd.R_below z49_ hb)
      have n5_ := Aside0.mk (blk_below (g := gb101) (o := .cells #[.int .i64 a0_0, .slice Ao22 t102.length co22, .string a0_2] 30 (0, 0)) z38_ hb)
      have n6_ := Aside0.mk (blk_below (g := gb113) (o := .cells #[.slice Ao26 t105.length co26, .slice Ao29 t108.length co29, .int .i64 t111] 33 (0, 0)) z39_ hb)
      have n7_ := Aside0.mk (blk_below (g := gb122) (o := .cells #[.slice Ao33 t114.length co33, .slice Ao37 t117.length co37, .int .i64 t120] 36 (0, 0)) z40_ hb)
      have n8_ := Aside0.mk (below_step z11_ hb)
      clear HO104; clear HO107; clear HO110; clear HO116; clear HO119; clear BK101; clear BK113; clear BK122; clear HB
      have HO104 := n0_
      have HO107 := n1_
      have HO110 := n2_
      have HO116 := n3_
      have HO119 := n4_
      have BK101 := n5_
      have BK113 := n6_
      have BK122 := n7_
      have HB := n8_
      clear n0_ n1_ n2_ n3_ n4_ n5_ n6_ n7_ n8_
      (try clear hb)
      (try clear hb2)
      (try clear hk)
      (try clear hi)
      refine hK.out _ _ ⟨(blk_cell BK113.out 0).trans rfl, (blk_cell BK113.out 1).trans rfl, (blk_cell BK113.out 2).trans rfl, (blk_cell BK122.out 0).trans rfl, (blk_cell BK122.out 1).trans rfl, (blk_cell BK122.out 2).trans rfl⟩ (fun hHeld => ?_)
      clear hK K
      refine norm_ (a' := ?_) ?_ ?_
      rotate_left
      ·show Act.put _ (some 77) _ = _
       simp only [Act.put, List.setIfInBounds_toArray, List.set_cons_zero, List.set_cons_succ, i64_w, i32_w]
       rfl
      refine pz_ 38 78 (tb_ 41 549755813887) HT_.out ?_
      refine pz_ 39 79 (tb_ 41 1099511627775) HT_.out ?_
      refine pz_ 40 10 (tb_ 41 2199023255551) HT_.out ?_
      refine done_ (done_of HT_.out (by kernel_rfl)) ?_
      try go_wp2
      go_ret
      exact ⟨z28_, z11_⟩
     ·rw [if_neg c16] at H
      have c16b0 : (t111 == t120) = false := beq_eq_false_iff_ne.mpr c16
      have c16b1 : (t111 != t120) = true := bne_iff_ne.mpr c16
      exact absurd ((Option.some.inj H).trans hr_) Bool.false_ne_true
    ·replace c15 := Bool.eq_false_iff.mpr c15
     subst c15
     have H1 : (some false) = some r := by rw [if_neg (show ¬ (false = true) by decide)] at H; exact H
     clear H
     have H := H1
     clear H1
     exact absurd ((Option.some.inj H).trans hr_) Bool.false_ne_true
   ·replace c13 := Bool.eq_false_iff.mpr c13
    subst c13
    have H1 : (some false) = some r := by rw [if_neg (show ¬ (false = true) by decide)] at H; exact H
    clear H
    have H := H1
    clear H1
    exact absurd ((Option.some.inj H).trans hr_) Bool.false_ne_true
  ·rw [if_neg c11] at H
   have c11b0 : (t112 == t121) = false := by simpa using c11
   (try (have c11b1 : decide (t112 = t121) = false := by simpa using c11))
   (try (have c11b2 : (t112 == t121) = false := by simpa using c11))
   (try (have c11b3 : ¬ (t112 = t121) := by simpa using c11))
   clear c11
   exact absurd ((Option.some.inj H).trans hr_) Bool.false_ne_true
 ·replace c10 := Bool.eq_false_iff.mpr c10
  subst c10
  have H1 : (some false) = some r := by rw [if_neg (show ¬ (false = true) by decide)] at H; exact H
  clear H
  have H := H1
  clear H1
  exact absurd ((Option.some.inj H).trans hr_) Bool.false_ne_true
def pursuivantlaw14_PreReads.f (k : Nat) (a0_0 : Int) (l0_1 : List (S45)) (a0_2 : ByteArray) (a1 : ByteArray) (a2 : ByteArray) (l3 : List ByteArray) (a4 : Int) : Option (Bool) := pursuivantlaw14_PreReadsN.f k a0_0 l0_1 a0_2 a1 a2 (l3.take 12) a4
theorem pursuivantlaw14_PreReads.calls (k : Nat) (a0_0 : Int) (A0_1 : Option Addr) (c0_1 : Nat) (l0_1 : List (S45)) (a0_2 : ByteArray) (a1 : ByteArray) (a2 : ByteArray) (A3 : Option Addr) (c3 : Nat) (l3 : List ByteArray) (a4 : Int) (r : Bool) (w : World) (hG_ : GW w) (hr0_1 : Kd.C k45 w A0_1 l0_1.length l0_1) (hc0_1 : l0_1.length ≤ c0_1) (hr3 : Kd.C Kd.string w A3 l3.length l3) (hc3 : l3.length ≤ c3) (h : pursuivantlaw14_PreReads.f k a0_0 l0_1 a0_2 a1 a2 l3 a4 = some r) (hr_ : r = true) :
  Calls Tryz.prog 4 #[.agg #[.int .i64 a0_0, .slice A0_1 l0_1.length c0_1, .string a0_2], .string a1, .string a2, .slice A3 l3.length c3, .int .i64 a4] w fun e w' => e = .returned (.bool r) ∧ Below w.heap.size w w' := by
 by_cases hn : 12 < l3.length
 ·exact pursuivantlaw14_PreReadsN.callsB k a0_0 A0_1 c0_1 l0_1 a0_2 a1 a2 A3 c3 l3 a4 r w hG_ hr0_1 hc0_1 hr3 hc3 hn h hr_
 ·have e : l3.take 12 = l3 := List.take_of_length_le (by omega)
  unfold pursuivantlaw14_PreReads.f at h
  rw [e] at h
  exact pursuivantlaw14_PreReadsN.callsA k a0_0 A0_1 c0_1 l0_1 a0_2 a1 a2 A3 c3 l3 a4 r w hG_ hr0_1 hc0_1 hr3 hc3 hn h hr_
end Go.Proofs.YtfibkgmbgdaeoaaGreatDoor.Hand
