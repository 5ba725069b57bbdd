/- What each Go function here computes, and that its call computes it, over contracts proved by hand (written by this project's xprint.py, which drives the kit's print). -/
import Derived.Test.YtfibkgmbgdaeoaaGreatDoorZ
import Derived.Test.YtfibkgmbgdaeoaaGreatDoorK
import Derived.Test.YtfibkgmbgdaeoaaGreatDoorClip
import Derived.Test.YtfibkgmbgdaeoaaGreatDoorPreJ
import Derived.Test.YtfibkgmbgdaeoaaGreatDoorPreL
import Derived.Test.YtfibkgmbgdaeoaaGreatDoorPreR
import Derived.Test.YtfibkgmbgdaeoaaGreatDoorSafeU
import Derived.Test.YtfibkgmbgdaeoaaGreatDoorSafeR
import Derived.Test.YtfibkgmbgdaeoaaGreatDoorList
import Derived.Test.YtfibkgmbgdaeoaaGreatDoorFA1
import Derived.Test.YtfibkgmbgdaeoaaGreatDoorFP1
import Derived.Test.YtfibkgmbgdaeoaaGreatDoorFPB1
import Derived.Test.YtfibkgmbgdaeoaaGreatDoorFYA1
import Derived.Test.YtfibkgmbgdaeoaaGreatDoorFYB1
import Derived.Test.YtfibkgmbgdaeoaaGreatDoorFY1
import Derived.Test.YtfibkgmbgdaeoaaGreatDoorFY2
import Derived.Test.YtfibkgmbgdaeoaaGreatDoorPreA
import Derived.Test.YtfibkgmbgdaeoaaGreatDoorFYP1
namespace Go.Proofs.YtfibkgmbgdaeoaaGreatDoor.Hand
open Go.RowKit Go.Proofs.YtfibkgmbgdaeoaaGreatDoorW.PrintWords Go.Proofs.YtfibkgmbgdaeoaaGreatDoorW.PrintLast Go.Proofs.YtfibkgmbgdaeoaaGreatDoorW.PrintMore
attribute [local go_sem] Instr.field asAgg max2_int min2_int max_two min_two max_three min_three max_four min_four   -- for this text's walks alone
set_option linter.unusedVariables false
set_option linter.unusedSimpArgs false

def pursuivantlaw14_PreMore.j0 : Nat → ByteArray → List (S45) → Int → List ByteArray → Bool → List ByteArray → List ByteArray → Int → Option (Bool)
 | 0, _, _, _, _, _, _, _, _ => none
 | k + 1, x2, x3, x4, x13, x82, x114000, x114001, x114002 => if x82 = true then (some false) else ((pursuivantlaw14_awake.f k).bind fun t139 => (if t139 = true then ((pursuivantlaw14_few.f x3).bind fun t140 => ((pre_Needs.f k x2 t140).bind fun t143 => (if t143 = true then (if x114002 ≥ 0 then (some (decide (x114002 ≤ 86400))) else (some false)) else ((pre_Answer_Lets.f x114000 x114001 x114002 x2 x13 x4).bind fun t144 => (if t144 = true then (if x114002 ≥ 0 then (some (decide (x114002 ≤ 86400))) else (some false)) else (some false)))))) else (some false)))
def pursuivantlaw14_PreMore.f (k : Nat) (a0_0 : Int) (l0_1 : List (S45)) (a0_2 : ByteArray) (a1 : ByteArray) (a2 : ByteArray) (l3 : List (S45)) (a4 : Int) : Option (Bool) := (pursuivantlaw14_few.f l0_1).bind fun t102 => ((pre_Read.f a0_0 t102 a0_2 a1 a4).bind fun bt105 => (if bt105.2.2.2 = true then ((pursuivantlaw14_few.f l3).bind fun t115 => ((pursuivantref10_Unsafe.f k t115).bind fun t118 => ((pre_Answer_Lets.f bt105.1 bt105.2.1 bt105.2.2.1 a2 t118 3).bind fun t121 => (if t121 = true then ((pre_Answer_Lets.f bt105.1 bt105.2.1 bt105.2.2.1 a2 t118 1).bind fun t122 => (if t122 = true then ((pre_Answer_Lets.f bt105.1 bt105.2.1 bt105.2.2.1 a2 t118 a4).bind fun t123 => (if t123 = true then ((pre_Answer_Lets.f bt105.1 bt105.2.1 bt105.2.2.1 a2 ([] : List ByteArray) a4).bind fun t124 => (if t124 = true then (if (t118.length : Int) > 0 then (if 1 ≤ (t118.length : Int) then ((pre_Answer_Lets.f bt105.1 bt105.2.1 bt105.2.2.1 a2 (t118.drop 1) a4).bind fun t130 => (pursuivantlaw14_PreMore.j0 k a2 l3 a4 t118 (!t130) bt105.1 bt105.2.1 bt105.2.2.1)) else (none)) else (pursuivantlaw14_PreMore.j0 k a2 l3 a4 t118 false bt105.1 bt105.2.1 bt105.2.2.1)) else (pursuivantlaw14_PreMore.j0 k a2 l3 a4 t118 true bt105.1 bt105.2.1 bt105.2.2.1))) else (pursuivantlaw14_PreMore.j0 k a2 l3 a4 t118 false bt105.1 bt105.2.1 bt105.2.2.1))) else (pursuivantlaw14_PreMore.j0 k a2 l3 a4 t118 true bt105.1 bt105.2.1 bt105.2.2.1))) else ((pre_Answer_Lets.f bt105.1 bt105.2.1 bt105.2.2.1 a2 t118 a4).bind fun t131 => (if t131 = true then ((pre_Answer_Lets.f bt105.1 bt105.2.1 bt105.2.2.1 a2 ([] : List ByteArray) a4).bind fun t132 => (if t132 = true then (if (t118.length : Int) > 0 then (if 1 ≤ (t118.length : Int) then ((pre_Answer_Lets.f bt105.1 bt105.2.1 bt105.2.2.1 a2 (t118.drop 1) a4).bind fun t138 => (pursuivantlaw14_PreMore.j0 k a2 l3 a4 t118 (!t138) bt105.1 bt105.2.1 bt105.2.2.1)) else (none)) else (pursuivantlaw14_PreMore.j0 k a2 l3 a4 t118 false bt105.1 bt105.2.1 bt105.2.2.1)) else (pursuivantlaw14_PreMore.j0 k a2 l3 a4 t118 true bt105.1 bt105.2.1 bt105.2.2.1))) else (pursuivantlaw14_PreMore.j0 k a2 l3 a4 t118 false bt105.1 bt105.2.1 bt105.2.2.1))))))) else ((pursuivantlaw14_awake.f k).bind fun t114 => (if t114 = true then (some ((wrap64 ((wrap64 ((bt105.1.length : Int) + (bt105.2.1.length : Int))) + bt105.2.2.1)) == 0)) else (some false)))))
def pursuivantlaw14_PreMore.T6 : Bool × List (List Nat × List Nat) := (true, [([], []), ([], []), ([], []), ([0, 1, 2], [0, 1, 2]), ([3, 3], [3]), ([4], [4]), ([4], [4]), ([4], [4]), ([5, 6, 7, 4, 4], [4, 5, 6, 7]), ([8, 4], [4, 8]), ([4, 9], [4, 9]), ([10, 8], [10]), ([11], [11]), ([11], [11]), ([11], [11]), ([11], [11]), ([12, 13, 14, 15, 11, 11], [11, 12, 13, 14, 15]), ([16, 16, 11], [11, 16]), ([17], [17]), ([17], [17]), ([17], [17]), ([18, 19, 20, 17, 17], [17, 18, 19, 20]), ([21, 17], [17, 21]), ([22, 21, 17], [17, 22]), ([23], [23]), ([24, 23], [23, 24]), ([25, 23], [23, 25]), ([26, 23, 23], [23, 26]), ([27], [27]), ([27], [27]), ([27], [27]), ([30, 27], [27, 30]), ([27], [27]), ([28, 29, 31, 32, 27, 27], [27, 28, 29, 31, 32]), ([33, 27], [27, 33]), ([27, 34, 23], [23, 27, 34]), ([23, 35, 17], [17, 23, 35]), ([17, 36, 11], [11, 17, 36]), ([11, 37], [11, 37])])
def pursuivantlaw14_PreMore.B6 : List Nat := [0, 0, 0, 7, 15, 31, 31, 31, 255, 511, 1023, 2047, 4095, 4095, 4095, 4095, 65535, 131071, 262143, 262143, 262143, 2097151, 4194303, 8388607, 16777215, 33554431, 67108863, 134217727, 268435455, 268435455, 268435455, 1342177279, 268435455, 8589934591, 17179869183, 34359738367, 68719476735, 137438953471, 274877906943]
theorem pursuivantlaw14_PreMore.tab6 : rtab .any (opsOf Tryz.f5 6) = pursuivantlaw14_PreMore.T6 := by kernel_rfl
theorem pursuivantlaw14_PreMore.bits6 : waitsOk pursuivantlaw14_PreMore.T6.2 pursuivantlaw14_PreMore.B6 = true := by kernel_rfl
set_option maxHeartbeats 8000000 in
set_option maxRecDepth 100000 in
theorem pursuivantlaw14_PreMore.calls (k : Nat) (a0_0 : Int) (A0_1 : Option Addr) (c0_1 : Nat) (l0_1 : List (S45)) (a0_2 : ByteArray) (a1 : ByteArray) (a2 : ByteArray) (A3 : Option Addr) (c3 : Nat) (l3 : List (S45)) (a4 : Int) (r : Bool) (w : World) (hG_ : GW w) (hr0_1 : Kd.C k45 w A0_1 l0_1.length l0_1) (hc0_1 : l0_1.length ≤ c0_1) (hr3 : Kd.C k45 w A3 l3.length l3) (hc3 : l3.length ≤ c3) (h : pursuivantlaw14_PreMore.f k a0_0 l0_1 a0_2 a1 a2 l3 a4 = some r) (hr_ : r = true) :
  Calls Tryz.prog 5 #[.agg #[.int .i64 a0_0, .slice A0_1 l0_1.length c0_1, .string a0_2], .string a1, .string a2, .slice A3 l3.length c3, .int .i64 a4] w fun e w' => e = .returned (.bool r) ∧ Below w.heap.size w w' := by
 have hu30 := Tryz.underlying30
 have hu33 := Tryz.underlying33
 have HR0_1 := Aside0.mk hr0_1; have HC0_1 := Aside0.mk hc0_1; clear hr0_1 hc0_1; have HR3 := Aside0.mk hr3; have HC3 := Aside0.mk hc3; clear hr3 hc3
 have HB := Aside0.mk (Below.refl w.heap.size w)
 have H : ((pursuivantlaw14_few.f l0_1).bind fun t102 => ((pre_Read.f a0_0 t102 a0_2 a1 a4).bind fun bt105 => (if bt105.2.2.2 = true then ((pursuivantlaw14_few.f l3).bind fun t115 => ((pursuivantref10_Unsafe.f k t115).bind fun t118 => ((pre_Answer_Lets.f bt105.1 bt105.2.1 bt105.2.2.1 a2 t118 3).bind fun t121 => (if t121 = true then ((pre_Answer_Lets.f bt105.1 bt105.2.1 bt105.2.2.1 a2 t118 1).bind fun t122 => (if t122 = true then ((pre_Answer_Lets.f bt105.1 bt105.2.1 bt105.2.2.1 a2 t118 a4).bind fun t123 => (if t123 = true then ((pre_Answer_Lets.f bt105.1 bt105.2.1 bt105.2.2.1 a2 ([] : List ByteArray) a4).bind fun t124 => (if t124 = true then (if (t118.length : Int) > 0 then (if 1 ≤ (t118.length : Int) then ((pre_Answer_Lets.f bt105.1 bt105.2.1 bt105.2.2.1 a2 (t118.drop 1) a4).bind fun t130 => (pursuivantlaw14_PreMore.j0 k a2 l3 a4 t118 (!t130) bt105.1 bt105.2.1 bt105.2.2.1)) else (none)) else (pursuivantlaw14_PreMore.j0 k a2 l3 a4 t118 false bt105.1 bt105.2.1 bt105.2.2.1)) else (pursuivantlaw14_PreMore.j0 k a2 l3 a4 t118 true bt105.1 bt105.2.1 bt105.2.2.1))) else (pursuivantlaw14_PreMore.j0 k a2 l3 a4 t118 false bt105.1 bt105.2.1 bt105.2.2.1))) else (pursuivantlaw14_PreMore.j0 k a2 l3 a4 t118 true bt105.1 bt105.2.1 bt105.2.2.1))) else ((pre_Answer_Lets.f bt105.1 bt105.2.1 bt105.2.2.1 a2 t118 a4).bind fun t131 => (if t131 = true then ((pre_Answer_Lets.f bt105.1 bt105.2.1 bt105.2.2.1 a2 ([] : List ByteArray) a4).bind fun t132 => (if t132 = true then (if (t118.length : Int) > 0 then (if 1 ≤ (t118.length : Int) then ((pre_Answer_Lets.f bt105.1 bt105.2.1 bt105.2.2.1 a2 (t118.drop 1) a4).bind fun t138 => (pursuivantlaw14_PreMore.j0 k a2 l3 a4 t118 (!t138) bt105.1 bt105.2.1 bt105.2.2.1)) else (none)) else (pursuivantlaw14_PreMore.j0 k a2 l3 a4 t118 false bt105.1 bt105.2.1 bt105.2.2.1)) else (pursuivantlaw14_PreMore.j0 k a2 l3 a4 t118 true bt105.1 bt105.2.1 bt105.2.2.1))) else (pursuivantlaw14_PreMore.j0 k a2 l3 a4 t118 false bt105.1 bt105.2.1 bt105.2.2.1))))))) else ((pursuivantlaw14_awake.f k).bind fun t114 => (if t114 = true then (some ((wrap64 ((wrap64 ((bt105.1.length : Int) + (bt105.2.1.length : Int))) + bt105.2.2.1)) == 0)) else (some false)))))) = some r := h
 clear h
 replace H := Option.bind_eq_some_iff.mp H
 obtain ⟨t102, A60, H⟩ := H
 replace H : ((pre_Read.f a0_0 t102 a0_2 a1 a4).bind fun bt105 => (if bt105.2.2.2 = true then ((pursuivantlaw14_few.f l3).bind fun t115 => ((pursuivantref10_Unsafe.f k t115).bind fun t118 => ((pre_Answer_Lets.f bt105.1 bt105.2.1 bt105.2.2.1 a2 t118 3).bind fun t121 => (if t121 = true then ((pre_Answer_Lets.f bt105.1 bt105.2.1 bt105.2.2.1 a2 t118 1).bind fun t122 => (if t122 = true then ((pre_Answer_Lets.f bt105.1 bt105.2.1 bt105.2.2.1 a2 t118 a4).bind fun t123 => (if t123 = true then ((pre_Answer_Lets.f bt105.1 bt105.2.1 bt105.2.2.1 a2 ([] : List ByteArray) a4).bind fun t124 => (if t124 = true then (if (t118.length : Int) > 0 then (if 1 ≤ (t118.length : Int) then ((pre_Answer_Lets.f bt105.1 bt105.2.1 bt105.2.2.1 a2 (t118.drop 1) a4).bind fun t130 => (pursuivantlaw14_PreMore.j0 k a2 l3 a4 t118 (!t130) bt105.1 bt105.2.1 bt105.2.2.1)) else (none)) else (pursuivantlaw14_PreMore.j0 k a2 l3 a4 t118 false bt105.1 bt105.2.1 bt105.2.2.1)) else (pursuivantlaw14_PreMore.j0 k a2 l3 a4 t118 true bt105.1 bt105.2.1 bt105.2.2.1))) else (pursuivantlaw14_PreMore.j0 k a2 l3 a4 t118 false bt105.1 bt105.2.1 bt105.2.2.1))) else (pursuivantlaw14_PreMore.j0 k a2 l3 a4 t118 true bt105.1 bt105.2.1 bt105.2.2.1))) else ((pre_Answer_Lets.f bt105.1 bt105.2.1 bt105.2.2.1 a2 t118 a4).bind fun t131 => (if t131 = true then ((pre_Answer_Lets.f bt105.1 bt105.2.1 bt105.2.2.1 a2 ([] : List ByteArray) a4).bind fun t132 => (if t132 = true then (if (t118.length : Int) > 0 then (if 1 ≤ (t118.length : Int) then ((pre_Answer_Lets.f bt105.1 bt105.2.1 bt105.2.2.1 a2 (t118.drop 1) a4).bind fun t138 => (pursuivantlaw14_PreMore.j0 k a2 l3 a4 t118 (!t138) bt105.1 bt105.2.1 bt105.2.2.1)) else (none)) else (pursuivantlaw14_PreMore.j0 k a2 l3 a4 t118 false bt105.1 bt105.2.1 bt105.2.2.1)) else (pursuivantlaw14_PreMore.j0 k a2 l3 a4 t118 true bt105.1 bt105.2.1 bt105.2.2.1))) else (pursuivantlaw14_PreMore.j0 k a2 l3 a4 t118 false bt105.1 bt105.2.1 bt105.2.2.1))))))) else ((pursuivantlaw14_awake.f k).bind fun t114 => (if t114 = true then (some ((wrap64 ((wrap64 ((bt105.1.length : Int) + (bt105.2.1.length : Int))) + bt105.2.2.1)) == 0)) else (some false))))) = some r := H
 have A6 := Aside0.mk A60; clear A60
 replace H := Option.bind_eq_some_iff.mp H
 obtain ⟨⟨t105, t108, t111, t112⟩, A70, H⟩ := H
 replace H : (if t112 = true then ((pursuivantlaw14_few.f l3).bind fun t115 => ((pursuivantref10_Unsafe.f k t115).bind fun t118 => ((pre_Answer_Lets.f t105 t108 t111 a2 t118 3).bind fun t121 => (if t121 = true then ((pre_Answer_Lets.f t105 t108 t111 a2 t118 1).bind fun t122 => (if t122 = true then ((pre_Answer_Lets.f t105 t108 t111 a2 t118 a4).bind fun t123 => (if t123 = true then ((pre_Answer_Lets.f t105 t108 t111 a2 ([] : List ByteArray) a4).bind fun t124 => (if t124 = true then (if (t118.length : Int) > 0 then (if 1 ≤ (t118.length : Int) then ((pre_Answer_Lets.f t105 t108 t111 a2 (t118.drop 1) a4).bind fun t130 => (pursuivantlaw14_PreMore.j0 k a2 l3 a4 t118 (!t130) t105 t108 t111)) else (none)) else (pursuivantlaw14_PreMore.j0 k a2 l3 a4 t118 false t105 t108 t111)) else (pursuivantlaw14_PreMore.j0 k a2 l3 a4 t118 true t105 t108 t111))) else (pursuivantlaw14_PreMore.j0 k a2 l3 a4 t118 false t105 t108 t111))) else (pursuivantlaw14_PreMore.j0 k a2 l3 a4 t118 true t105 t108 t111))) else ((pre_Answer_Lets.f t105 t108 t111 a2 t118 a4).bind fun t131 => (if t131 = true then ((pre_Answer_Lets.f t105 t108 t111 a2 ([] : List ByteArray) a4).bind fun t132 => (if t132 = true then (if (t118.length : Int) > 0 then (if 1 ≤ (t118.length : Int) then ((pre_Answer_Lets.f t105 t108 t111 a2 (t118.drop 1) a4).bind fun t138 => (pursuivantlaw14_PreMore.j0 k a2 l3 a4 t118 (!t138) t105 t108 t111)) else (none)) else (pursuivantlaw14_PreMore.j0 k a2 l3 a4 t118 false t105 t108 t111)) else (pursuivantlaw14_PreMore.j0 k a2 l3 a4 t118 true t105 t108 t111))) else (pursuivantlaw14_PreMore.j0 k a2 l3 a4 t118 false t105 t108 t111))))))) else ((pursuivantlaw14_awake.f k).bind fun t114 => (if t114 = true then (some ((wrap64 ((wrap64 ((t105.length : Int) + (t108.length : Int))) + t111)) == 0)) else (some false)))) = some r := H
 have A7 := Aside0.mk A70; clear A70
 by_cases c8 : t112 = true
 ·subst c8
  have H1 : ((pursuivantlaw14_few.f l3).bind fun t115 => ((pursuivantref10_Unsafe.f k t115).bind fun t118 => ((pre_Answer_Lets.f t105 t108 t111 a2 t118 3).bind fun t121 => (if t121 = true then ((pre_Answer_Lets.f t105 t108 t111 a2 t118 1).bind fun t122 => (if t122 = true then ((pre_Answer_Lets.f t105 t108 t111 a2 t118 a4).bind fun t123 => (if t123 = true then ((pre_Answer_Lets.f t105 t108 t111 a2 ([] : List ByteArray) a4).bind fun t124 => (if t124 = true then (if (t118.length : Int) > 0 then (if 1 ≤ (t118.length : Int) then ((pre_Answer_Lets.f t105 t108 t111 a2 (t118.drop 1) a4).bind fun t130 => (pursuivantlaw14_PreMore.j0 k a2 l3 a4 t118 (!t130) t105 t108 t111)) else (none)) else (pursuivantlaw14_PreMore.j0 k a2 l3 a4 t118 false t105 t108 t111)) else (pursuivantlaw14_PreMore.j0 k a2 l3 a4 t118 true t105 t108 t111))) else (pursuivantlaw14_PreMore.j0 k a2 l3 a4 t118 false t105 t108 t111))) else (pursuivantlaw14_PreMore.j0 k a2 l3 a4 t118 true t105 t108 t111))) else ((pre_Answer_Lets.f t105 t108 t111 a2 t118 a4).bind fun t131 => (if t131 = true then ((pre_Answer_Lets.f t105 t108 t111 a2 ([] : List ByteArray) a4).bind fun t132 => (if t132 = true then (if (t118.length : Int) > 0 then (if 1 ≤ (t118.length : Int) then ((pre_Answer_Lets.f t105 t108 t111 a2 (t118.drop 1) a4).bind fun t138 => (pursuivantlaw14_PreMore.j0 k a2 l3 a4 t118 (!t138) t105 t108 t111)) else (none)) else (pursuivantlaw14_PreMore.j0 k a2 l3 a4 t118 false t105 t108 t111)) else (pursuivantlaw14_PreMore.j0 k a2 l3 a4 t118 true t105 t108 t111))) else (pursuivantlaw14_PreMore.j0 k a2 l3 a4 t118 false t105 t108 t111))))))) = some r := by rw [if_pos rfl] at H; exact H
  clear H
  have H := H1
  clear H1
  replace H := Option.bind_eq_some_iff.mp H
  obtain ⟨t115, A90, H⟩ := H
  replace H : ((pursuivantref10_Unsafe.f k t115).bind fun t118 => ((pre_Answer_Lets.f t105 t108 t111 a2 t118 3).bind fun t121 => (if t121 = true then ((pre_Answer_Lets.f t105 t108 t111 a2 t118 1).bind fun t122 => (if t122 = true then ((pre_Answer_Lets.f t105 t108 t111 a2 t118 a4).bind fun t123 => (if t123 = true then ((pre_Answer_Lets.f t105 t108 t111 a2 ([] : List ByteArray) a4).bind fun t124 => (if t124 = true then (if (t118.length : Int) > 0 then (if 1 ≤ (t118.length : Int) then ((pre_Answer_Lets.f t105 t108 t111 a2 (t118.drop 1) a4).bind fun t130 => (pursuivantlaw14_PreMore.j0 k a2 l3 a4 t118 (!t130) t105 t108 t111)) else (none)) else (pursuivantlaw14_PreMore.j0 k a2 l3 a4 t118 false t105 t108 t111)) else (pursuivantlaw14_PreMore.j0 k a2 l3 a4 t118 true t105 t108 t111))) else (pursuivantlaw14_PreMore.j0 k a2 l3 a4 t118 false t105 t108 t111))) else (pursuivantlaw14_PreMore.j0 k a2 l3 a4 t118 true t105 t108 t111))) else ((pre_Answer_Lets.f t105 t108 t111 a2 t118 a4).bind fun t131 => (if t131 = true then ((pre_Answer_Lets.f t105 t108 t111 a2 ([] : List ByteArray) a4).bind fun t132 => (if t132 = true then (if (t118.length : Int) > 0 then (if 1 ≤ (t118.length : Int) then ((pre_Answer_Lets.f t105 t108 t111 a2 (t118.drop 1) a4).bind fun t138 => (pursuivantlaw14_PreMore.j0 k a2 l3 a4 t118 (!t138) t105 t108 t111)) else (none)) else (pursuivantlaw14_PreMore.j0 k a2 l3 a4 t118 false t105 t108 t111)) else (pursuivantlaw14_PreMore.j0 k a2 l3 a4 t118 true t105 t108 t111))) else (pursuivantlaw14_PreMore.j0 k a2 l3 a4 t118 false t105 t108 t111)))))) = some r := H
  have A9 := Aside0.mk A90; clear A90
  replace H := Option.bind_eq_some_iff.mp H
  obtain ⟨t118, A100, H⟩ := H
  replace H : ((pre_Answer_Lets.f t105 t108 t111 a2 t118 3).bind fun t121 => (if t121 = true then ((pre_Answer_Lets.f t105 t108 t111 a2 t118 1).bind fun t122 => (if t122 = true then ((pre_Answer_Lets.f t105 t108 t111 a2 t118 a4).bind fun t123 => (if t123 = true then ((pre_Answer_Lets.f t105 t108 t111 a2 ([] : List ByteArray) a4).bind fun t124 => (if t124 = true then (if (t118.length : Int) > 0 then (if 1 ≤ (t118.length : Int) then ((pre_Answer_Lets.f t105 t108 t111 a2 (t118.drop 1) a4).bind fun t130 => (pursuivantlaw14_PreMore.j0 k a2 l3 a4 t118 (!t130) t105 t108 t111)) else (none)) else (pursuivantlaw14_PreMore.j0 k a2 l3 a4 t118 false t105 t108 t111)) else (pursuivantlaw14_PreMore.j0 k a2 l3 a4 t118 true t105 t108 t111))) else (pursuivantlaw14_PreMore.j0 k a2 l3 a4 t118 false t105 t108 t111))) else (pursuivantlaw14_PreMore.j0 k a2 l3 a4 t118 true t105 t108 t111))) else ((pre_Answer_Lets.f t105 t108 t111 a2 t118 a4).bind fun t131 => (if t131 = true then ((pre_Answer_Lets.f t105 t108 t111 a2 ([] : List ByteArray) a4).bind fun t132 => (if t132 = true then (if (t118.length : Int) > 0 then (if 1 ≤ (t118.length : Int) then ((pre_Answer_Lets.f t105 t108 t111 a2 (t118.drop 1) a4).bind fun t138 => (pursuivantlaw14_PreMore.j0 k a2 l3 a4 t118 (!t138) t105 t108 t111)) else (none)) else (pursuivantlaw14_PreMore.j0 k a2 l3 a4 t118 false t105 t108 t111)) else (pursuivantlaw14_PreMore.j0 k a2 l3 a4 t118 true t105 t108 t111))) else (pursuivantlaw14_PreMore.j0 k a2 l3 a4 t118 false t105 t108 t111))))) = some r := H
  have A10 := Aside0.mk A100; clear A100; have HC11 := Aside0.mk H; clear H
  go_enter Tryz.func5, Tryz.ntmps5
  go_upto_region 6 with (first | ((with_reducible refine gate_dst (N := 5) rfl ?_); (try (refine gate_guard (by rfl) ?_; dsimp only)); refine box_event ?hg (N := 5) ?hd (cs := #[.int .i64 a0_0, .slice A0_1 l0_1.length c0_1, .string a0_2]) (t := 30) ?hr ?_; (case hd => rfl); (case hg => rfl); (case hr => first | (go_simp; done) | (go_simp; rfl)); intro gb101 hg w12 hbox hb; have n0_ := Aside0.mk (below_step z10_ hb); have n1_ := Aside0.mk (hbox); have n2_ := Aside0.mk ((by rw [hg]; exact (below_size z10_) : w.heap.size ≤ gb101)); have n3_ := Aside0.mk ((by rw [hg]; exact (below_size z10_) : w.heap.size ≤ gb101)); clear HB; have HB := n0_; have BK101 := n1_; have GW101 := n2_; have GE101 := n3_; clear n0_ n1_ n2_ n3_; clear hb hbox hg; have hcz13_0 : w12.cell? ⟨gb101, 0, none⟩ = some (.int .i64 a0_0) := (blk_cell BK101.out 0).trans rfl; have hcz13_1 : w12.cell? ⟨gb101, 1, none⟩ = some (.slice A0_1 l0_1.length c0_1) := (blk_cell BK101.out 1).trans rfl; have hcz13_2 : w12.cell? ⟨gb101, 2, none⟩ = some (.string a0_2) := (blk_cell BK101.out 2).trans rfl; have hfz13_0 := blk_frozen BK101.out 0; have hfz13_1 := blk_frozen BK101.out 1; have hfz13_2 := blk_frozen BK101.out 2) | ((with_reducible refine gate_callee (f := 8) rfl ?_); refine goesL_ (some 16) rfl rfl Tryz.func8 (by kernel_rfl) rfl #[.slice A0_1 l0_1.length c0_1] rfl z9_ ?_; (with_reducible refine (pursuivantlaw14_few.calls (fun k_ => k_ < w.heap.size) _ _ l0_1 t102 _ ?gw1_ ?side1 A6.out).mono ?_); (case gw1_ => exact z0_); (case side1 => exact Kd.V_mk HC0_1.out (Kd.F_below (Kd.C_F k45_heap HR0_1.out) z8_)); rintro e w14 ⟨v103, rfl, ho0, hb⟩; refine ⟨_, rfl, ?_⟩; have n0_ := Aside0.mk (Kd.V_lower (Kd.V_mono (ok' := fun k_ => k_ ≠ gb101) ho0 (fun k_ hk_ => Or.elim hk_ (fun hs_ => fun e_ => Nat.not_le.2 hs_ z34_) (fun hn_ => (Kd.freshB (g := gb101) (o := .cells #[.int .i64 a0_0, .slice A0_1 l0_1.length c0_1, .string a0_2] 30 (0, 0)) z15_ k_ hn_)))) (below_size z8_)); have n1_ := Aside0.mk (blk_below (g := gb101) (o := .cells #[.int .i64 a0_0, .slice A0_1 l0_1.length c0_1, .string a0_2] 30 (0, 0)) z15_ hb); have n2_ := Aside0.mk (below_step z8_ hb); clear BK101; clear HB; have HO104 := n0_; have BK101 := n1_; have HB := n2_; clear n0_ n1_ n2_; (try clear hb); (try clear hb2); (try clear hk); (try clear hi); (try clear ho0); obtain ⟨Ao15, co15, eo15⟩ := Kd.V_slice HO104.out; subst eo15; have hcz16_0 : w14.cell? ⟨gb101, 0, none⟩ = some (.int .i64 a0_0) := (blk_cell BK101.out 0).trans rfl; have hcz16_1 : w14.cell? ⟨gb101, 1, none⟩ = some (.slice A0_1 l0_1.length c0_1) := (blk_cell BK101.out 1).trans rfl; have hcz16_2 : w14.cell? ⟨gb101, 2, none⟩ = some (.string a0_2) := (blk_cell BK101.out 2).trans rfl; have hfz16_0 := blk_frozen BK101.out 0; have hfz16_1 := blk_frozen BK101.out 1; have hfz16_2 := blk_frozen BK101.out 2) | ((with_reducible refine gate_callee (f := 13) rfl ?_); refine goesL_ (some 22) rfl rfl Tryz.func13 (by kernel_rfl) rfl #[.agg #[.int .i64 a0_0, .slice Ao15 t102.length co15, .string a0_2], .string a1, .int .i64 a4] rfl z9_ ?_; (with_reducible refine (pre_Read.calls a0_0 _ _ t102 a0_2 a1 a4 t105 t108 t111 true _ ?gw2_ ?side1 ?side2 A7.out).mono ?_); (case gw2_ => exact z0_); (case side1 => refine (Kd.V_reads' (e := 45) (base := w.heap.size) (ok := fun k_ => k_ ≠ gb101) (n := t102.length) (c := co15) ?_).2.2; exact (by (with_reducible repeat (first | apply Kd.V_alloc | apply Kd.V_drewN | apply Kd.V_drew)); exact (Kd.V_mono (Kd.V_far (p := ⟨gb101, 1, none⟩) (Kd.V_mono HO104.out (fun k_ hk => (⟨hk, hk⟩ : _ ∧ k_ ≠ gb101))) (fun _ hk => hk.2) (.slice Ao15 t102.length co15)) (fun _ h_ => h_.1)))); (case side2 => exact (Kd.V_reads' HO104.out).2.1); rintro e w17 ⟨v106, v109, rfl, ho0, ho1, hb⟩; refine ⟨_, rfl, ?_⟩; have n0_ := Aside0.mk (Kd.V_below (by (with_reducible repeat (first | apply Kd.V_alloc | apply Kd.V_drewN | apply Kd.V_drew)); exact (Kd.V_mono (Kd.V_far (p := ⟨gb101, 1, none⟩) (Kd.V_mono HO104.out (fun k_ hk => (⟨hk, hk⟩ : _ ∧ k_ ≠ gb101))) (fun _ hk => hk.2) (.slice Ao15 t102.length co15)) (fun _ h_ => h_.1))) hb); have n1_ := Aside0.mk (Kd.V_lower (Kd.V_mono (ok' := fun k_ => k_ ≠ gb101) ho0 (fun k_ hk_ => (Kd.freshB (g := gb101) (o := .cells #[.int .i64 a0_0, .slice Ao15 t102.length co15, .string a0_2] 30 (0, 0)) z4_ k_ hk_))) (below_size z8_)); have n2_ := Aside0.mk (Kd.V_lower (Kd.V_mono (ok' := fun k_ => k_ ≠ gb101) ho1 (fun k_ hk_ => (Kd.freshB (g := gb101) (o := .cells #[.int .i64 a0_0, .slice Ao15 t102.length co15, .string a0_2] 30 (0, 0)) z4_ k_ hk_))) (below_size z8_)); have n3_ := Aside0.mk (blk_below (g := gb101) (o := .cells #[.int .i64 a0_0, .slice Ao15 t102.length co15, .string a0_2] 30 (0, 0)) z4_ hb); have n4_ := Aside0.mk (below_step z8_ hb); clear HO104; clear BK101; clear HB; have HO104 := n0_; have HO107 := n1_; have HO110 := n2_; have BK101 := n3_; have HB := n4_; clear n0_ n1_ n2_ n3_ n4_; (try clear hb); (try clear hb2); (try clear hk); (try clear hi); (try clear ho0); (try clear ho1)) | ((with_reducible refine gate_dst (N := 11) rfl ?_); (try (refine gate_guard (by rfl) ?_; dsimp only)); refine box_event ?hg (N := 11) ?hd (cs := #[.slice none 0 0, .slice none 0 0, .int .i64 0]) (t := 33) ?hr ?_; (case hd => rfl); (case hg => rfl); (case hr => first | (go_simp; done) | (go_simp; rfl)); intro gb113 hg w18 hbox hb; have n0_ := Aside0.mk (Kd.V_below (Kd.V_elderB z23_ gb113 (Nat.le_of_eq hg.symm)) hb); have n1_ := Aside0.mk (Kd.V_below (Kd.V_elderB z24_ gb113 (Nat.le_of_eq hg.symm)) hb); have n2_ := Aside0.mk (Kd.V_below (Kd.V_elderB z21_ gb113 (Nat.le_of_eq hg.symm)) hb); have n3_ := Aside0.mk (blk_below (g := gb101) (o := .cells #[.int .i64 a0_0, .slice Ao15 t102.length co15, .string a0_2] 30 (0, 0)) z15_ hb); have n4_ := Aside0.mk (below_step z8_ hb); have n5_ := Aside0.mk (hbox); have n6_ := Aside0.mk ((by rw [hg]; exact (below_size z8_) : w.heap.size ≤ gb113)); have n7_ := Aside0.mk ((by rw [hg]; exact (below_size z8_) : w.heap.size ≤ gb113)); have n8_ := Aside0.mk ((by rw [hg]; exact Nat.ne_of_lt (blk_lt (g := gb101) (o := .cells #[.int .i64 a0_0, .slice Ao15 t102.length co15, .string a0_2] 30 (0, 0)) z15_) : gb101 ≠ gb113)); have n9_ := Aside0.mk ((by rw [hg]; exact Nat.ne_of_gt (blk_lt (g := gb101) (o := .cells #[.int .i64 a0_0, .slice Ao15 t102.length co15, .string a0_2] 30 (0, 0)) z15_) : gb113 ≠ gb101)); clear HO104; clear HO107; clear HO110; clear BK101; clear HB; have HO104 := n0_; have HO107 := n1_; have HO110 := n2_; have BK101 := n3_; have HB := n4_; have BK113 := n5_; have GW113 := n6_; have GE113 := n7_; have NB101_113 := n8_; have NB113_101 := n9_; clear n0_ n1_ n2_ n3_ n4_ n5_ n6_ n7_ n8_ n9_; clear hb hbox hg; obtain ⟨Ao19, co19, eo19⟩ := Kd.V_slice HO107.out; subst eo19; have hnb20 := NB113_101.out; have hnc20 := NB101_113.out; have hcz21_0 : w18.cell? ⟨gb113, 0, none⟩ = some (.slice none 0 0) := (blk_cell BK113.out 0).trans rfl; have hcz21_1 : w18.cell? ⟨gb113, 1, none⟩ = some (.slice none 0 0) := (blk_cell BK113.out 1).trans rfl; have hcz21_2 : w18.cell? ⟨gb113, 2, none⟩ = some (.int .i64 0) := (blk_cell BK113.out 2).trans rfl; have hfz21_0 := blk_frozen BK113.out 0; have hfz21_1 := blk_frozen BK113.out 1; have hfz21_2 := blk_frozen BK113.out 2; obtain ⟨Ao22, co22, eo22⟩ := Kd.V_slice HO110.out; subst eo22) | ((with_reducible refine gate_store (t := 33) (p := 11) rfl ?_); refine store_event (t := 33) (p := 11) (v := ?vo_w23) (w1 := (((w18.setCell ⟨gb113, 0, none⟩ (.slice Ao19 t105.length co19)).setCell ⟨gb113, 1, none⟩ (.slice Ao22 t108.length co22)).setCell ⟨gb113, 2, none⟩ (.int .i64 t111))) ?hg ?ho ?hn ?hr ?_; (case ho => rfl); (case hg => rfl); (case hn => rfl); (case hr => first | (go_simp; done) | (go_simp; rfl)); intro w23 hw; have n0_ : Aside0 (Kd.V k45 45 w23 w.heap.size (fun k_ => k_ ≠ gb101 ∧ k_ ≠ gb113) (.slice Ao15 t102.length co15) t102) := ⟨(by rw [hw]; exact (by (with_reducible repeat (first | apply Kd.V_alloc | apply Kd.V_drewN | apply Kd.V_drew)); exact Kd.V_mono (Kd.V_far (p := ⟨gb113, 2, none⟩) (Kd.V_far (p := ⟨gb113, 1, none⟩) (Kd.V_far (p := ⟨gb113, 0, none⟩) (Kd.V_mono HO104.out (fun k_ hk => (⟨hk, hk.2⟩ : _ ∧ k_ ≠ gb113))) (fun _ hk => hk.2) (.slice Ao19 t105.length co19)) (fun _ hk => hk.2) (.slice Ao22 t108.length co22)) (fun _ hk => hk.2) (.int .i64 t111)) (fun _ hk => ⟨hk.1.1, hk.1.2⟩)))⟩; have n1_ : Aside0 (Kd.V Kd.string 9 w23 w.heap.size (fun k_ => k_ ≠ gb101 ∧ k_ ≠ gb113) (.slice Ao19 t105.length co19) t105) := ⟨(by rw [hw]; exact (by (with_reducible repeat (first | apply Kd.V_alloc | apply Kd.V_drewN | apply Kd.V_drew)); exact Kd.V_mono (Kd.V_far (p := ⟨gb113, 2, none⟩) (Kd.V_far (p := ⟨gb113, 1, none⟩) (Kd.V_far (p := ⟨gb113, 0, none⟩) (Kd.V_mono HO107.out (fun k_ hk => (⟨hk, hk.2⟩ : _ ∧ k_ ≠ gb113))) (fun _ hk => hk.2) (.slice Ao19 t105.length co19)) (fun _ hk => hk.2) (.slice Ao22 t108.length co22)) (fun _ hk => hk.2) (.int .i64 t111)) (fun _ hk => ⟨hk.1.1, hk.1.2⟩)))⟩; have n2_ : Aside0 (Kd.V Kd.string 9 w23 w.heap.size (fun k_ => k_ ≠ gb101 ∧ k_ ≠ gb113) (.slice Ao22 t108.length co22) t108) := ⟨(by rw [hw]; exact (by (with_reducible repeat (first | apply Kd.V_alloc | apply Kd.V_drewN | apply Kd.V_drew)); exact Kd.V_mono (Kd.V_far (p := ⟨gb113, 2, none⟩) (Kd.V_far (p := ⟨gb113, 1, none⟩) (Kd.V_far (p := ⟨gb113, 0, none⟩) (Kd.V_mono HO110.out (fun k_ hk => (⟨hk, hk.2⟩ : _ ∧ k_ ≠ gb113))) (fun _ hk => hk.2) (.slice Ao19 t105.length co19)) (fun _ hk => hk.2) (.slice Ao22 t108.length co22)) (fun _ hk => hk.2) (.int .i64 t111)) (fun _ hk => ⟨hk.1.1, hk.1.2⟩)))⟩; have n3_ : Aside0 (w23.heap[gb101]? = some (.cells #[.int .i64 a0_0, .slice Ao15 t102.length co15, .string a0_2] 30 (0, 0))) := ⟨(by rw [hw]; exact (by (with_reducible repeat (first | refine blk_drewN ?_ _ | refine blk_drew ?_ | refine blk_alloc ?_ _)); refine blk_far ?_ NB101_113.out _; (with_reducible repeat (first | refine blk_drewN ?_ _ | refine blk_drew ?_ | refine blk_alloc ?_ _)); refine blk_far ?_ NB101_113.out _; (with_reducible repeat (first | refine blk_drewN ?_ _ | refine blk_drew ?_ | refine blk_alloc ?_ _)); refine blk_far ?_ NB101_113.out _; (with_reducible repeat (first | refine blk_drewN ?_ _ | refine blk_drew ?_ | refine blk_alloc ?_ _)); exact BK101.out))⟩; have n4_ : Aside0 (w23.heap[gb113]? = some (.cells #[.slice Ao19 t105.length co19, .slice Ao22 t108.length co22, .int .i64 t111] 33 (0, 0))) := ⟨(by rw [hw]; exact (by (with_reducible repeat (first | refine blk_drewN ?_ _ | refine blk_drew ?_ | refine blk_alloc ?_ _)); refine blk_put (cs := #[.slice Ao19 t105.length co19, .slice Ao22 t108.length co22, .int .i64 0]) ?_ 2 _ rfl; (with_reducible repeat (first | refine blk_drewN ?_ _ | refine blk_drew ?_ | refine blk_alloc ?_ _)); refine blk_put (cs := #[.slice Ao19 t105.length co19, .slice none 0 0, .int .i64 0]) ?_ 1 _ rfl; (with_reducible repeat (first | refine blk_drewN ?_ _ | refine blk_drew ?_ | refine blk_alloc ?_ _)); refine blk_put (cs := #[.slice none 0 0, .slice none 0 0, .int .i64 0]) ?_ 0 _ rfl; (with_reducible repeat (first | refine blk_drewN ?_ _ | refine blk_drew ?_ | refine blk_alloc ?_ _)); exact BK113.out))⟩; have n5_ : Aside0 (Below w.heap.size w w23) := ⟨(by rw [hw]; exact z5_)⟩; clear hw; clear HO104; clear HO107; clear HO110; clear BK101; clear BK113; clear HB; have HO104 := n0_; have HO107 := n1_; have HO110 := n2_; have BK101 := n3_; have BK113 := n4_; have HB := n5_; clear n0_ n1_ n2_ n3_ n4_ n5_) | ((with_reducible refine gate_callee (f := 8) rfl ?_); refine goesL_ (some 42) rfl rfl Tryz.func8 (by kernel_rfl) rfl #[.slice A3 l3.length c3] rfl z9_ ?_; (with_reducible refine (pursuivantlaw14_few.calls (fun k_ => k_ < w.heap.size) _ _ l3 t115 _ ?gw3_ ?side1 A9.out).mono ?_); (case gw3_ => exact z0_); (case side1 => exact Kd.V_mk HC3.out (Kd.F_below (Kd.C_F k45_heap HR3.out) z5_)); rintro e w24 ⟨v116, rfl, ho0, hb⟩; refine ⟨_, rfl, ?_⟩; have n0_ := Aside0.mk (Kd.V_below z23_ hb); have n1_ := Aside0.mk (Kd.V_below z24_ hb); have n2_ := Aside0.mk (Kd.V_below z21_ hb); have n3_ := Aside0.mk (Kd.V_lower (Kd.V_mono (ok' := fun k_ => k_ ≠ gb101 ∧ k_ ≠ gb113) ho0 (fun k_ hk_ => ⟨Or.elim hk_ (fun hs_ => fun e_ => Nat.not_le.2 hs_ z34_) (fun hn_ => (Kd.freshB (g := gb101) (o := .cells #[.int .i64 a0_0, .slice Ao15 t102.length co15, .string a0_2] 30 (0, 0)) z15_ k_ hn_)), Or.elim hk_ (fun hs_ => fun e_ => Nat.not_le.2 hs_ (by rw [e_]; exact GW113.out)) (fun hn_ => (Kd.freshB (g := gb113) (o := .cells #[.slice Ao19 t105.length co19, .slice Ao22 t108.length co22, .int .i64 t111] 33 (0, 0)) z16_ k_ hn_))⟩)) (below_size z5_)); have n4_ := Aside0.mk (blk_below (g := gb101) (o := .cells #[.int .i64 a0_0, .slice Ao15 t102.length co15, .string a0_2] 30 (0, 0)) z15_ hb); have n5_ := Aside0.mk (blk_below (g := gb113) (o := .cells #[.slice Ao19 t105.length co19, .slice Ao22 t108.length co22, .int .i64 t111] 33 (0, 0)) z16_ hb); have n6_ := Aside0.mk (below_step z5_ hb); clear HO104; clear HO107; clear HO110; clear BK101; clear BK113; clear HB; have HO104 := n0_; have HO107 := n1_; have HO110 := n2_; have HO117 := n3_; have BK101 := n4_; have BK113 := n5_; have HB := n6_; clear n0_ n1_ n2_ n3_ n4_ n5_ n6_; (try clear hb); (try clear hb2); (try clear hk); (try clear hi); (try clear ho0); obtain ⟨Ao25, co25, eo25⟩ := Kd.V_slice HO117.out; subst eo25) | ((with_reducible refine gate_callee (f := 18) rfl ?_); refine goesL_ (some 43) rfl rfl Tryz.func18 (by kernel_rfl) rfl #[.slice Ao25 t115.length co25] rfl z9_ ?_; (with_reducible refine (pursuivantref10_Unsafe.calls k _ _ t115 t118 _ ?gw4_ ?side1 ?side2 A10.out).mono ?_); (case gw4_ => exact z0_); (case side1 => repeat (first | exact (Kd.V_reads' HO117.out).2.2 | (with_reducible refine Kd.C_alloc ?_ _) | (with_reducible refine Kd.C_drewN ?_ _) | (with_reducible refine Kd.C_drew ?_))); (case side2 => exact (Kd.V_reads' HO117.out).2.1); rintro e w26 ⟨v119, rfl, ho0, hb⟩; refine ⟨_, rfl, ?_⟩; have n0_ := Aside0.mk (Kd.V_below z23_ hb); have n1_ := Aside0.mk (Kd.V_below z24_ hb); have n2_ := Aside0.mk (Kd.V_below z21_ hb); have n3_ := Aside0.mk (Kd.V_below z25_ hb); have n4_ := Aside0.mk (Kd.V_lower (Kd.V_mono (ok' := fun k_ => k_ ≠ gb101 ∧ k_ ≠ gb113) ho0 (fun k_ hk_ => ⟨(Kd.freshB (g := gb101) (o := .cells #[.int .i64 a0_0, .slice Ao15 t102.length co15, .string a0_2] 30 (0, 0)) z15_ k_ hk_), (Kd.freshB (g := gb113) (o := .cells #[.slice Ao19 t105.length co19, .slice Ao22 t108.length co22, .int .i64 t111] 33 (0, 0)) z16_ k_ hk_)⟩)) (below_size z5_)); have n5_ := Aside0.mk (blk_below (g := gb101) (o := .cells #[.int .i64 a0_0, .slice Ao15 t102.length co15, .string a0_2] 30 (0, 0)) z15_ hb); have n6_ := Aside0.mk (blk_below (g := gb113) (o := .cells #[.slice Ao19 t105.length co19, .slice Ao22 t108.length co22, .int .i64 t111] 33 (0, 0)) z16_ hb); have n7_ := Aside0.mk (below_step z5_ hb); clear HO104; clear HO107; clear HO110; clear HO117; clear BK101; clear BK113; clear HB; have HO104 := n0_; have HO107 := n1_; have HO110 := n2_; have HO117 := n3_; have HO120 := n4_; have BK101 := n5_; have BK113 := n6_; have HB := n7_; clear n0_ n1_ n2_ n3_ n4_ n5_ n6_ n7_; (try clear hb); (try clear hb2); (try clear hk); (try clear hi); (try clear ho0)))
  (try simp only [Act.put, List.setIfInBounds_toArray, List.set_cons_zero, List.set_cons_succ])
  go_cut [82] (fun v82 wc => ∃ (kq : Nat) (x82_10 : Bool), v82 = .bool x82_10 ∧ Aside0 (pursuivantlaw14_PreMore.j0 kq a2 l3 a4 t118 x82_10 t105 t108 t111 = some r) ∧ Aside0 (kq ≤ k) ∧ Aside0 (Kd.V Kd.string 9 wc w.heap.size (fun k_ => k_ ≠ gb101 ∧ k_ ≠ gb113) v119 t118) ∧ Aside0 (Kd.V k45 45 wc w.heap.size (fun k_ => k_ ≠ gb101 ∧ k_ ≠ gb113) (.slice Ao15 t102.length co15) t102) ∧ Aside0 (Kd.V Kd.string 9 wc w.heap.size (fun k_ => k_ ≠ gb101 ∧ k_ ≠ gb113) (.slice Ao19 t105.length co19) t105) ∧ Aside0 (Kd.V Kd.string 9 wc w.heap.size (fun k_ => k_ ≠ gb101 ∧ k_ ≠ gb113) (.slice Ao22 t108.length co22) t108) ∧ Aside0 (wc.heap[gb101]? = some (.cells #[.int .i64 a0_0, (.slice Ao15 t102.length co15), .string a0_2] 30 (0, 0))) ∧ Aside0 (wc.heap[gb113]? = some (.cells #[(.slice Ao19 t105.length co19), (.slice Ao22 t108.length co22), .int .i64 t111] 33 (0, 0))) ∧ Aside0 (Below w.heap.size w wc))
  case first =>
   have H := HC11.out
   clear HC11
   replace H := Option.bind_eq_some_iff.mp H
   obtain ⟨t121, A270, H⟩ := H
   replace H : (if t121 = true then ((pre_Answer_Lets.f t105 t108 t111 a2 t118 1).bind fun t122 => (if t122 = true then ((pre_Answer_Lets.f t105 t108 t111 a2 t118 a4).bind fun t123 => (if t123 = true then ((pre_Answer_Lets.f t105 t108 t111 a2 ([] : List ByteArray) a4).bind fun t124 => (if t124 = true then (if (t118.length : Int) > 0 then (if 1 ≤ (t118.length : Int) then ((pre_Answer_Lets.f t105 t108 t111 a2 (t118.drop 1) a4).bind fun t130 => (pursuivantlaw14_PreMore.j0 k a2 l3 a4 t118 (!t130) t105 t108 t111)) else (none)) else (pursuivantlaw14_PreMore.j0 k a2 l3 a4 t118 false t105 t108 t111)) else (pursuivantlaw14_PreMore.j0 k a2 l3 a4 t118 true t105 t108 t111))) else (pursuivantlaw14_PreMore.j0 k a2 l3 a4 t118 false t105 t108 t111))) else (pursuivantlaw14_PreMore.j0 k a2 l3 a4 t118 true t105 t108 t111))) else ((pre_Answer_Lets.f t105 t108 t111 a2 t118 a4).bind fun t131 => (if t131 = true then ((pre_Answer_Lets.f t105 t108 t111 a2 ([] : List ByteArray) a4).bind fun t132 => (if t132 = true then (if (t118.length : Int) > 0 then (if 1 ≤ (t118.length : Int) then ((pre_Answer_Lets.f t105 t108 t111 a2 (t118.drop 1) a4).bind fun t138 => (pursuivantlaw14_PreMore.j0 k a2 l3 a4 t118 (!t138) t105 t108 t111)) else (none)) else (pursuivantlaw14_PreMore.j0 k a2 l3 a4 t118 false t105 t108 t111)) else (pursuivantlaw14_PreMore.j0 k a2 l3 a4 t118 true t105 t108 t111))) else (pursuivantlaw14_PreMore.j0 k a2 l3 a4 t118 false t105 t108 t111)))) = some r := H
   have A27 := Aside0.mk A270; clear A270
   by_cases c28 : t121 = true
   ·subst c28
    have H1 : ((pre_Answer_Lets.f t105 t108 t111 a2 t118 1).bind fun t122 => (if t122 = true then ((pre_Answer_Lets.f t105 t108 t111 a2 t118 a4).bind fun t123 => (if t123 = true then ((pre_Answer_Lets.f t105 t108 t111 a2 ([] : List ByteArray) a4).bind fun t124 => (if t124 = true then (if (t118.length : Int) > 0 then (if 1 ≤ (t118.length : Int) then ((pre_Answer_Lets.f t105 t108 t111 a2 (t118.drop 1) a4).bind fun t130 => (pursuivantlaw14_PreMore.j0 k a2 l3 a4 t118 (!t130) t105 t108 t111)) else (none)) else (pursuivantlaw14_PreMore.j0 k a2 l3 a4 t118 false t105 t108 t111)) else (pursuivantlaw14_PreMore.j0 k a2 l3 a4 t118 true t105 t108 t111))) else (pursuivantlaw14_PreMore.j0 k a2 l3 a4 t118 false t105 t108 t111))) else (pursuivantlaw14_PreMore.j0 k a2 l3 a4 t118 true t105 t108 t111))) = some r := by rw [if_pos rfl] at H; exact H
    clear H
    have H := H1
    clear H1
    replace H := Option.bind_eq_some_iff.mp H
    obtain ⟨t122, A290, H⟩ := H
    replace H : (if t122 = true then ((pre_Answer_Lets.f t105 t108 t111 a2 t118 a4).bind fun t123 => (if t123 = true then ((pre_Answer_Lets.f t105 t108 t111 a2 ([] : List ByteArray) a4).bind fun t124 => (if t124 = true then (if (t118.length : Int) > 0 then (if 1 ≤ (t118.length : Int) then ((pre_Answer_Lets.f t105 t108 t111 a2 (t118.drop 1) a4).bind fun t130 => (pursuivantlaw14_PreMore.j0 k a2 l3 a4 t118 (!t130) t105 t108 t111)) else (none)) else (pursuivantlaw14_PreMore.j0 k a2 l3 a4 t118 false t105 t108 t111)) else (pursuivantlaw14_PreMore.j0 k a2 l3 a4 t118 true t105 t108 t111))) else (pursuivantlaw14_PreMore.j0 k a2 l3 a4 t118 false t105 t108 t111))) else (pursuivantlaw14_PreMore.j0 k a2 l3 a4 t118 true t105 t108 t111)) = some r := H
    have A29 := Aside0.mk A290; clear A290
    by_cases c30 : t122 = true
    ·subst c30
     have H1 : ((pre_Answer_Lets.f t105 t108 t111 a2 t118 a4).bind fun t123 => (if t123 = true then ((pre_Answer_Lets.f t105 t108 t111 a2 ([] : List ByteArray) a4).bind fun t124 => (if t124 = true then (if (t118.length : Int) > 0 then (if 1 ≤ (t118.length : Int) then ((pre_Answer_Lets.f t105 t108 t111 a2 (t118.drop 1) a4).bind fun t130 => (pursuivantlaw14_PreMore.j0 k a2 l3 a4 t118 (!t130) t105 t108 t111)) else (none)) else (pursuivantlaw14_PreMore.j0 k a2 l3 a4 t118 false t105 t108 t111)) else (pursuivantlaw14_PreMore.j0 k a2 l3 a4 t118 true t105 t108 t111))) else (pursuivantlaw14_PreMore.j0 k a2 l3 a4 t118 false t105 t108 t111))) = some r := by rw [if_pos rfl] at H; exact H
     clear H
     have H := H1
     clear H1
     replace H := Option.bind_eq_some_iff.mp H
     obtain ⟨t123, A310, H⟩ := H
     replace H : (if t123 = true then ((pre_Answer_Lets.f t105 t108 t111 a2 ([] : List ByteArray) a4).bind fun t124 => (if t124 = true then (if (t118.length : Int) > 0 then (if 1 ≤ (t118.length : Int) then ((pre_Answer_Lets.f t105 t108 t111 a2 (t118.drop 1) a4).bind fun t130 => (pursuivantlaw14_PreMore.j0 k a2 l3 a4 t118 (!t130) t105 t108 t111)) else (none)) else (pursuivantlaw14_PreMore.j0 k a2 l3 a4 t118 false t105 t108 t111)) else (pursuivantlaw14_PreMore.j0 k a2 l3 a4 t118 true t105 t108 t111))) else (pursuivantlaw14_PreMore.j0 k a2 l3 a4 t118 false t105 t108 t111)) = some r := H
     have A31 := Aside0.mk A310; clear A310
     by_cases c32 : t123 = true
     ·subst c32
      have H1 : ((pre_Answer_Lets.f t105 t108 t111 a2 ([] : List ByteArray) a4).bind fun t124 => (if t124 = true then (if (t118.length : Int) > 0 then (if 1 ≤ (t118.length : Int) then ((pre_Answer_Lets.f t105 t108 t111 a2 (t118.drop 1) a4).bind fun t130 => (pursuivantlaw14_PreMore.j0 k a2 l3 a4 t118 (!t130) t105 t108 t111)) else (none)) else (pursuivantlaw14_PreMore.j0 k a2 l3 a4 t118 false t105 t108 t111)) else (pursuivantlaw14_PreMore.j0 k a2 l3 a4 t118 true t105 t108 t111))) = some r := by rw [if_pos rfl] at H; exact H
      clear H
      have H := H1
      clear H1
      replace H := Option.bind_eq_some_iff.mp H
      obtain ⟨t124, A330, H⟩ := H
      replace H : (if t124 = true then (if (t118.length : Int) > 0 then (if 1 ≤ (t118.length : Int) then ((pre_Answer_Lets.f t105 t108 t111 a2 (t118.drop 1) a4).bind fun t130 => (pursuivantlaw14_PreMore.j0 k a2 l3 a4 t118 (!t130) t105 t108 t111)) else (none)) else (pursuivantlaw14_PreMore.j0 k a2 l3 a4 t118 false t105 t108 t111)) else (pursuivantlaw14_PreMore.j0 k a2 l3 a4 t118 true t105 t108 t111)) = some r := H
      have A33 := Aside0.mk A330; clear A330
      by_cases c34 : t124 = true
      ·subst c34
       have H1 : (if (t118.length : Int) > 0 then (if 1 ≤ (t118.length : Int) then ((pre_Answer_Lets.f t105 t108 t111 a2 (t118.drop 1) a4).bind fun t130 => (pursuivantlaw14_PreMore.j0 k a2 l3 a4 t118 (!t130) t105 t108 t111)) else (none)) else (pursuivantlaw14_PreMore.j0 k a2 l3 a4 t118 false t105 t108 t111)) = some r := by rw [if_pos rfl] at H; exact H
       clear H
       have H := H1
       clear H1
       by_cases c35 : (t118.length : Int) > 0
       ·rw [if_pos c35] at H
        have c35b0 : decide (0 < (t118.length : Int)) = true := decide_eq_true c35
        have c35b1 : decide (0 < t118.length) = true := decide_eq_true (by omega)
        clear c35
        (first | rw [c35b0] | (simp only [i64_w, i32_w]; rw [c35b0]) | skip)
        by_cases c36 : 1 ≤ (t118.length : Int)
        ·rw [if_pos c36] at H
         have c36b0 := eq_true c36; have c36b1 : decide (1 ≤ (t118.length : Int)) = true := decide_eq_true c36; clear c36
         obtain ⟨y125, hy125⟩ : ∃ y_ : List ByteArray, y_ = (t118.drop 1) := ⟨_, rfl⟩
         replace H : ((pre_Answer_Lets.f t105 t108 t111 a2 y125 a4).bind fun t130 => (pursuivantlaw14_PreMore.j0 k a2 l3 a4 t118 (!t130) t105 t108 t111)) = some r := by first | (rw [hy125]; with_reducible exact H) | (have H2_ := (Option.bind_some _ _).symm.trans H; rw [hy125]; with_reducible exact H2_) | (have H2_ := (Option.bind_some _ _).symm.trans H; with_reducible exact H2_) | with_reducible exact H | (rw [hy125]; exact H) | exact H
         have Ny125 := Aside0.mk hy125; clear hy125
         replace H := Option.bind_eq_some_iff.mp H
         obtain ⟨t130, A370, H⟩ := H
         replace H : (pursuivantlaw14_PreMore.j0 k a2 l3 a4 t118 (!t130) t105 t108 t111) = some r := H
         have A37 := Aside0.mk A370; clear A370
         have H' := Aside0.mk H
         clear H
         try go_wp2
         have n0_ := Aside0.mk (Kd.V_drew HO104.out)
         have n1_ := Aside0.mk (Kd.V_drew HO107.out)
         have n2_ := Aside0.mk (Kd.V_drew HO110.out)
         have n3_ := Aside0.mk (Kd.V_drew HO117.out)
         have n4_ := Aside0.mk (Kd.V_drew HO120.out)
         have n5_ := Aside0.mk (blk_drew BK101.out)
         have n6_ := Aside0.mk (blk_drew BK113.out)
         have n7_ := Aside0.mk (below_drew1 HB.out)
         clear HO104; clear HO107; clear HO110; clear HO117; clear HO120; clear BK101; clear BK113; clear HB
         have HO104 := n0_
         have HO107 := n1_
         have HO110 := n2_
         have HO117 := n3_
         have HO120 := n4_
         have BK101 := n5_
         have BK113 := n6_
         have HB := n7_
         clear n0_ n1_ n2_ n3_ n4_ n5_ n6_ n7_
         obtain ⟨Ao39, co39, eo39⟩ := Kd.V_slice HO120.out
         (first | subst eo39 | (injection eo39 with f1_ f2_ f3_; have f4_ := f1_.symm; have f5_ := f3_.symm; clear f1_ f2_ f3_; subst f4_; subst f5_))
         refine start_ (n := 39) (S := fun w' => w'.cell? ⟨gb113, 0, none⟩ = some (.slice Ao19 t105.length co19) ∧ w'.cell? ⟨gb113, 1, none⟩ = some (.slice Ao22 t108.length co22) ∧ w'.cell? ⟨gb113, 2, none⟩ = some (.int .i64 t111)) (ds := []) (tb_ 39 0) (by kernel_rfl) rfl rfl ⟨(blk_cell BK113.out 0).trans rfl, (blk_cell BK113.out 1).trans rfl, (blk_cell BK113.out 2).trans rfl⟩ (fun hHeld => ?_); refine with_tabW pursuivantlaw14_PreMore.tab6 pursuivantlaw14_PreMore.bits6 (fun HT_ HW_ => ?_)
         generalize w26.drew = w38 at HO104 HO107 HO110 HO117 HO120 BK101 BK113 HB hHeld ⊢
         refine pz_ 1 45 (tb_ 39 2) HT_.out ?_
         refine pz_ 2 46 (tb_ 39 6) HT_.out ?_
         refine tz3_ 0 44 (tb_ 39 7) HT_.out HW_.out hHeld ?_
         refine one_ (i := 3) (N := some 47) (tb_ 39 15) rfl rfl (one_of HT_.out (by kernel_rfl)) (by decide) (fun K hK => ?_)
         refine goes_ Tryz.func16 (by kernel_rfl) rfl #[.agg #[.slice Ao19 t105.length co19, .slice Ao22 t108.length co22, .int .i64 t111], .string a2, .slice Ao39 t118.length co39, .int .i64 3] (by rfl) rfl rfl z9_ ?_
         with_reducible refine (pre_Answer_Lets.calls _ _ t105 _ _ t108 t111 a2 _ _ t118 3 true _ ?gw15_ ?side1c1 ?side2c1 ?side3c1 ?side4c1 ?side5c1 ?side6c1 A27.out).mono ?_
         case gw15_ => exact z0_
         (case side1c1 => repeat (first | exact (Kd.V_reads' HO107.out).2.2 | (with_reducible refine Kd.C_alloc ?_ _) | (with_reducible refine Kd.C_drewN ?_ _) | (with_reducible refine Kd.C_drew ?_)))
         (case side2c1 => exact (Kd.V_reads' HO107.out).2.1)
         (case side3c1 => repeat (first | exact (Kd.V_reads' HO110.out).2.2 | (with_reducible refine Kd.C_alloc ?_ _) | (with_reducible refine Kd.C_drewN ?_ _) | (with_reducible refine Kd.C_drew ?_)))
         (case side4c1 => exact (Kd.V_reads' HO110.out).2.1)
         (case side5c1 => repeat (first | exact (Kd.V_reads' HO120.out).2.2 | (with_reducible refine Kd.C_alloc ?_ _) | (with_reducible refine Kd.C_drewN ?_ _) | (with_reducible refine Kd.C_drew ?_)))
         (case side6c1 => exact (Kd.V_reads' HO120.out).2.1)
         rintro e w40 ⟨rfl, hb⟩
         refine ⟨_, rfl, ?_⟩
         have n0_ := Aside0.mk (Kd.V_below z23_ hb)
         have n1_ := Aside0.mk (Kd.V_below z24_ hb)
         have n2_ := Aside0.mk (Kd.V_below z21_ hb)
         have n3_ := Aside0.mk (Kd.V_below z25_ hb)
         have n4_ := Aside0.mk (Kd.V_below z22_ hb)
         have n5_ := Aside0.mk (blk_below (g := gb101) (o := .cells #[.int .i64 a0_0, .slice Ao15 t102.length co15, .string a0_2] 30 (0, 0)) z15_ hb)
         have n6_ := Aside0.mk (blk_below (g := gb113) (o := .cells #[.slice Ao19 t105.length co19, .slice Ao22 t108.length co22, .int .i64 t111] 33 (0, 0)) z16_ hb)
         have n7_ := Aside0.mk (below_step z5_ hb)
         clear HO104; clear HO107; clear HO110; clear HO117; clear HO120; clear BK101; clear BK113; clear HB
         have HO104 := n0_
         have HO107 := n1_
         have HO110 := n2_
         have HO117 := n3_
         have HO120 := n4_
         have BK101 := n5_
         have BK113 := n6_
         have HB := n7_
         clear n0_ n1_ n2_ n3_ n4_ n5_ n6_ n7_
         (try clear hb)
         (try clear hb2)
         (try clear hk)
         (try clear hi)
         refine hK.out _ _ ⟨(blk_cell BK113.out 0).trans rfl, (blk_cell BK113.out 1).trans rfl, (blk_cell BK113.out 2).trans rfl⟩ (fun hHeld => ?_)
         clear hK K
         refine norm_ (a' := ?_) ?_ ?_
         rotate_left
         ·show Act.put _ (some 47) _ = _
          simp only [Act.put, List.setIfInBounds_toArray, List.set_cons_zero, List.set_cons_succ, i64_w, i32_w]
          rfl
         refine pz_ 4 48 (tb_ 39 31) HT_.out ?_
         refine pz_ 6 50 (tb_ 39 95) HT_.out ?_
         refine pz_ 7 51 (tb_ 39 223) HT_.out ?_
         refine tz3_ 5 49 (tb_ 39 255) HT_.out HW_.out hHeld ?_
         refine one_ (i := 8) (N := some 52) (tb_ 39 511) rfl rfl (one_of HT_.out (by kernel_rfl)) (by decide) (fun K hK => ?_)
         refine goes_ Tryz.func16 (by kernel_rfl) rfl #[.agg #[.slice Ao19 t105.length co19, .slice Ao22 t108.length co22, .int .i64 t111], .string a2, .slice Ao39 t118.length co39, .int .i64 1] (by rfl) rfl rfl z9_ ?_
         with_reducible refine (pre_Answer_Lets.calls _ _ t105 _ _ t108 t111 a2 _ _ t118 1 true _ ?gw16_ ?side1c2 ?side2c2 ?side3c2 ?side4c2 ?side5c2 ?side6c2 A29.out).mono ?_
         case gw16_ => exact z0_
         (case side1c2 => repeat (first | exact (Kd.V_reads' HO107.out).2.2 | (with_reducible refine Kd.C_alloc ?_ _) | (with_reducible refine Kd.C_drewN ?_ _) | (with_reducible refine Kd.C_drew ?_)))
         (case side2c2 => exact (Kd.V_reads' HO107.out).2.1)
         (case side3c2 => repeat (first | exact (Kd.V_reads' HO110.out).2.2 | (with_reducible refine Kd.C_alloc ?_ _) | (with_reducible refine Kd.C_drewN ?_ _) | (with_reducible refine Kd.C_drew ?_)))
         (case side4c2 => exact (Kd.V_reads' HO110.out).2.1)
         (case side5c2 => repeat (first | exact (Kd.V_reads' HO120.out).2.2 | (with_reducible refine Kd.C_alloc ?_ _) | (with_reducible refine Kd.C_drewN ?_ _) | (with_reducible refine Kd.C_drew ?_)))
         (case side6c2 => exact (Kd.V_reads' HO120.out).2.1)
         rintro e w41 ⟨rfl, hb⟩
         refine ⟨_, rfl, ?_⟩
         have n0_ := Aside0.mk (Kd.V_below z23_ hb)
         have n1_ := Aside0.mk (Kd.V_below z24_ hb)
         have n2_ := Aside0.mk (Kd.V_below z21_ hb)
         have n3_ := Aside0.mk (Kd.V_below z25_ hb)
         have n4_ := Aside0.mk (Kd.V_below z22_ hb)
         have n5_ := Aside0.mk (blk_below (g := gb101) (o := .cells #[.int .i64 a0_0, .slice Ao15 t102.length co15, .string a0_2] 30 (0, 0)) z15_ hb)
         have n6_ := Aside0.mk (blk_below (g := gb113) (o := .cells #[.slice Ao19 t105.length co19, .slice Ao22 t108.length co22, .int .i64 t111] 33 (0, 0)) z16_ hb)
         have n7_ := Aside0.mk (below_step z5_ hb)
         clear HO104; clear HO107; clear HO110; clear HO117; clear HO120; clear BK101; clear BK113; clear HB
         have HO104 := n0_
         have HO107 := n1_
         have HO110 := n2_
         have HO117 := n3_
         have HO120 := n4_
         have BK101 := n5_
         have BK113 := n6_
         have HB := n7_
         clear n0_ n1_ n2_ n3_ n4_ n5_ n6_ n7_
         (try clear hb)
         (try clear hb2)
         (try clear hk)
         (try clear hi)
         refine hK.out _ _ ⟨(blk_cell BK113.out 0).trans rfl, (blk_cell BK113.out 1).trans rfl, (blk_cell BK113.out 2).trans rfl⟩ (fun hHeld => ?_)
         clear hK K
         refine norm_ (a' := ?_) ?_ ?_
         rotate_left
         ·show Act.put _ (some 52) _ = _
          simp only [Act.put, List.setIfInBounds_toArray, List.set_cons_zero, List.set_cons_succ, i64_w, i32_w]
          rfl
         refine pz_ 9 53 (tb_ 39 1023) HT_.out ?_
         refine pz_ 10 54 (tb_ 39 2047) HT_.out ?_
         refine pz_ 11 55 (tb_ 39 4095) HT_.out ?_
         refine pz_ 13 57 (tb_ 39 12287) HT_.out ?_
         refine pz_ 14 58 (tb_ 39 28671) HT_.out ?_
         refine pz_ 15 59 (tb_ 39 61439) HT_.out ?_
         refine tz3_ 12 56 (tb_ 39 65535) HT_.out HW_.out hHeld ?_
         refine one_ (i := 16) (N := some 60) (tb_ 39 131071) rfl rfl (one_of HT_.out (by kernel_rfl)) (by decide) (fun K hK => ?_)
         refine goes_ Tryz.func16 (by kernel_rfl) rfl #[.agg #[.slice Ao19 t105.length co19, .slice Ao22 t108.length co22, .int .i64 t111], .string a2, .slice Ao39 t118.length co39, .int .i64 a4] (by rfl) rfl rfl z9_ ?_
         with_reducible refine (pre_Answer_Lets.calls _ _ t105 _ _ t108 t111 a2 _ _ t118 a4 true _ ?gw17_ ?side1c3 ?side2c3 ?side3c3 ?side4c3 ?side5c3 ?side6c3 A31.out).mono ?_
         case gw17_ => exact z0_
         (case side1c3 => repeat (first | exact (Kd.V_reads' HO107.out).2.2 | (with_reducible refine Kd.C_alloc ?_ _) | (with_reducible refine Kd.C_drewN ?_ _) | (with_reducible refine Kd.C_drew ?_)))
         (case side2c3 => exact (Kd.V_reads' HO107.out).2.1)
         (case side3c3 => repeat (first | exact (Kd.V_reads' HO110.out).2.2 | (with_reducible refine Kd.C_alloc ?_ _) | (with_reducible refine Kd.C_drewN ?_ _) | (with_reducible refine Kd.C_drew ?_)))
         (case side4c3 => exact (Kd.V_reads' HO110.out).2.1)
         (case side5c3 => repeat (first | exact (Kd.V_reads' HO120.out).2.2 | (with_reducible refine Kd.C_alloc ?_ _) | (with_reducible refine Kd.C_drewN ?_ _) | (with_reducible refine Kd.C_drew ?_)))
         (case side6c3 => exact (Kd.V_reads' HO120.out).2.1)
         rintro e w42 ⟨rfl, hb⟩
         refine ⟨_, rfl, ?_⟩
         have n0_ := Aside0.mk (Kd.V_below z23_ hb)
         have n1_ := Aside0.mk (Kd.V_below z24_ hb)
         have n2_ := Aside0.mk (Kd.V_below z21_ hb)
         have n3_ := Aside0.mk (Kd.V_below z25_ hb)
         have n4_ := Aside0.mk (Kd.V_below z22_ hb)
         have n5_ := Aside0.mk (blk_below (g := gb101) (o := .cells #[.int .i64 a0_0, .slice Ao15 t102.length co15, .string a0_2] 30 (0, 0)) z15_ hb)
         have n6_ := Aside0.mk (blk_below (g := gb113) (o := .cells #[.slice Ao19 t105.length co19, .slice Ao22 t108.length co22, .int .i64 t111] 33 (0, 0)) z16_ hb)
         have n7_ := Aside0.mk (below_step z5_ hb)
         clear HO104; clear HO107; clear HO110; clear HO117; clear HO120; clear BK101; clear BK113; clear HB
         have HO104 := n0_
         have HO107 := n1_
         have HO110 := n2_
         have HO117 := n3_
         have HO120 := n4_
         have BK101 := n5_
         have BK113 := n6_
         have HB := n7_
         clear n0_ n1_ n2_ n3_ n4_ n5_ n6_ n7_
         (try clear hb)
         (try clear hb2)
         (try clear hk)
         (try clear hi)
         refine hK.out _ _ ⟨(blk_cell BK113.out 0).trans rfl, (blk_cell BK113.out 1).trans rfl, (blk_cell BK113.out 2).trans rfl⟩ (fun hHeld => ?_)
         clear hK K
         refine norm_ (a' := ?_) ?_ ?_
         rotate_left
         ·show Act.put _ (some 60) _ = _
          simp only [Act.put, List.setIfInBounds_toArray, List.set_cons_zero, List.set_cons_succ, i64_w, i32_w]
          rfl
         refine pz_ 17 61 (tb_ 39 262143) HT_.out ?_
         refine pz_ 19 63 (tb_ 39 786431) HT_.out ?_
         refine pz_ 20 64 (tb_ 39 1835007) HT_.out ?_
         refine tz3_ 18 62 (tb_ 39 2097151) HT_.out HW_.out hHeld ?_
         refine one_ (i := 21) (N := some 65) (tb_ 39 4194303) rfl rfl (one_of HT_.out (by kernel_rfl)) (by decide) (fun K hK => ?_)
         refine goes_ Tryz.func16 (by kernel_rfl) rfl #[.agg #[.slice Ao19 t105.length co19, .slice Ao22 t108.length co22, .int .i64 t111], .string a2, .slice none 0 0, .int .i64 a4] (by rfl) rfl rfl z9_ ?_
         refine (pre_Answer_Lets.calls _ _ t105 _ _ t108 t111 a2 _ _ ([] : List ByteArray) a4 true _ ?gw18_ ?side1c4 ?side2c4 ?side3c4 ?side4c4 ?side5c4 ?side6c4 A33.out).mono ?_
         case gw18_ => exact z0_
         (case side1c4 => repeat (first | exact (Kd.V_reads' HO107.out).2.2 | (with_reducible refine Kd.C_alloc ?_ _) | (with_reducible refine Kd.C_drewN ?_ _) | (with_reducible refine Kd.C_drew ?_)))
         (case side2c4 => exact (Kd.V_reads' HO107.out).2.1)
         (case side3c4 => repeat (first | exact (Kd.V_reads' HO110.out).2.2 | (with_reducible refine Kd.C_alloc ?_ _) | (with_reducible refine Kd.C_drewN ?_ _) | (with_reducible refine Kd.C_drew ?_)))
         (case side4c4 => exact (Kd.V_reads' HO110.out).2.1)
         (case side5c4 => exact Kd.C_nil _ _)
         (case side6c4 => exact Nat.le_refl _)
         rintro e w43 ⟨rfl, hb⟩
         refine ⟨_, rfl, ?_⟩
         have n0_ := Aside0.mk (Kd.V_below z23_ hb)
         have n1_ := Aside0.mk (Kd.V_below z24_ hb)
         have n2_ := Aside0.mk (Kd.V_below z21_ hb)
         have n3_ := Aside0.mk (Kd.V_below z25_ hb)
         have n4_ := Aside0.mk (Kd.V_below z22_ hb)
         have n5_ := Aside0.mk (blk_below (g := gb101) (o := .cells #[.int .i64 a0_0, .slice Ao15 t102.length co15, .string a0_2] 30 (0, 0)) z15_ hb)
         have n6_ := Aside0.mk (blk_below (g := gb113) (o := .cells #[.slice Ao19 t105.length co19, .slice Ao22 t108.length co22, .int .i64 t111] 33 (0, 0)) z16_ hb)
         have n7_ := Aside0.mk (below_step z5_ hb)
         clear HO104; clear HO107; clear HO110; clear HO117; clear HO120; clear BK101; clear BK113; clear HB
         have HO104 := n0_
         have HO107 := n1_
         have HO110 := n2_
         have HO117 := n3_
         have HO120 := n4_
         have BK101 := n5_
         have BK113 := n6_
         have HB := n7_
         clear n0_ n1_ n2_ n3_ n4_ n5_ n6_ n7_
         (try clear hb)
         (try clear hb2)
         (try clear hk)
         (try clear hi)
         have q44 : (1 : Int) ≤ ((t118.length : Int) : Int) := of_decide_eq_true z32_
         obtain ⟨i044, hi044, _, hsz44, _⟩ := info_parts info9
         have hroom44 : t118.length ≤ co39 := (Kd.V_reads' HO120.out).2.1
         have hC44 : Kd.F Kd.string _ _ Ao39 t118.length t118 := (Kd.V_at (base := w.heap.size) HO120.out).2.2
         have hcut44 := cut_from (P := Tryz.prog) 31 9 .i64 Tryz.underlying31 hi044 1 hsz44 Ao39 t118.length co39 1 (by omega) q44
         have hr44 := Kd.F_cut (m := (1 : Int).toNat) (c := co39) hC44 (by omega) hroom44
         obtain ⟨A44, hA44⟩ : ∃ A1, A1 = (if co39 = (1 : Int).toNat then Ao39 else (Ao39 : Option Addr).map (·.add ((1 : Int).toNat * 1))) := ⟨_, rfl⟩
         obtain ⟨c44, hc44⟩ : ∃ c1, c1 = co39 - (1 : Int).toNat := ⟨_, rfl⟩
         have hy44 : y125.length = t118.length - (1 : Int).toNat := (by rw [Ny125.out, List.length_drop] <;> omega)
         rw [show (t118).drop (1 : Int).toNat = y125 from Ny125.out.symm] at hr44
         replace hr44 : Kd.F Kd.string _ _ A44 y125.length y125 := (by rw [hA44]; exact hr44)
         rw [← hy44, ← hA44, ← hc44] at hcut44
         have HO129 := Aside0.mk (show Kd.V Kd.string 9 _ w.heap.size _ (.slice A44 y125.length c44) y125 from Kd.V_mk (by rw [hy44, hc44]; exact Nat.sub_le_sub_right hroom44 _) hr44)
         have HC129 := Aside0.mk (show y125.length ≤ c44 from by rw [hy44, hc44]; exact Nat.sub_le_sub_right hroom44 _)
         clear hr44 hC44 hroom44 hi044 hsz44 hc44; have KY44 := Aside0.mk hy44; have KA44 := Aside0.mk hA44; clear hy44 hA44
         replace q44 := eq_true q44
         refine hK.out _ _ ⟨(blk_cell BK113.out 0).trans rfl, (blk_cell BK113.out 1).trans rfl, (blk_cell BK113.out 2).trans rfl⟩ (fun hHeld => ?_)
         clear hK K
         refine norm_ (a' := ?_) ?_ ?_
         rotate_left
         ·show Act.put _ (some 65) _ = _
          simp only [Act.put, List.setIfInBounds_toArray, List.set_cons_zero, List.set_cons_succ, i64_w, i32_w]
          rfl
         refine pz_ 22 66 (tb_ 39 8388607) HT_.out ?_
         refine pz_ 23 67 (tb_ 39 16777215) HT_.out ?_
         refine pz_ 24 68 (tb_ 39 33554431) HT_.out ?_
         refine pz_ 25 69 (tb_ 39 67108863) HT_.out ?_
         refine pz_ 26 70 (tb_ 39 134217727) HT_.out ?_
         refine pz_ 27 71 (tb_ 39 268435455) HT_.out ?_
         refine pz_ 29 73 (tb_ 39 805306367) HT_.out ?_
         refine pz_ 30 74 (tb_ 39 1879048191) HT_.out ?_
         refine pz_ 31 75 (tb_ 39 4026531839) HT_.out ?_
         refine pz_ 32 76 (tb_ 39 8321499135) HT_.out ?_
         refine tz3_ 28 72 (tb_ 39 8589934591) HT_.out HW_.out hHeld ?_
         refine one_ (i := 33) (N := some 77) (tb_ 39 17179869183) rfl rfl (one_of HT_.out (by kernel_rfl)) (by decide) (fun K hK => ?_)
         refine goes_ Tryz.func16 (by kernel_rfl) rfl #[.agg #[.slice Ao19 t105.length co19, .slice Ao22 t108.length co22, .int .i64 t111], .string a2, .slice A44 y125.length c44, .int .i64 a4] (by rfl) rfl rfl z9_ ?_
         with_reducible refine (pre_Answer_Lets.calls _ _ t105 _ _ t108 t111 a2 _ _ y125 a4 t130 _ ?gw19_ ?side1c5 ?side2c5 ?side3c5 ?side4c5 ?side5c5 ?side6c5 A37.out).mono ?_
         case gw19_ => exact z0_
         (case side1c5 => repeat (first | exact (Kd.V_reads' HO107.out).2.2 | (with_reducible refine Kd.C_alloc ?_ _) | (with_reducible refine Kd.C_drewN ?_ _) | (with_reducible refine Kd.C_drew ?_)))
         (case side2c5 => exact (Kd.V_reads' HO107.out).2.1)
         (case side3c5 => repeat (first | exact (Kd.V_reads' HO110.out).2.2 | (with_reducible refine Kd.C_alloc ?_ _) | (with_reducible refine Kd.C_drewN ?_ _) | (with_reducible refine Kd.C_drew ?_)))
         (case side4c5 => exact (Kd.V_reads' HO110.out).2.1)
         (case side5c5 => repeat (first | exact (Kd.V_reads' HO129.out).2.2 | (with_reducible refine Kd.C_alloc ?_ _) | (with_reducible refine Kd.C_drewN ?_ _) | (with_reducible refine Kd.C_drew ?_)))
         (case side6c5 => exact (Kd.V_reads' HO129.out).2.1)
         rintro e w45 ⟨rfl, hb⟩
         refine ⟨_, rfl, ?_⟩
         have n0_ := Aside0.mk (Kd.V_below z23_ hb)
         have n1_ := Aside0.mk (Kd.V_below z24_ hb)
         have n2_ := Aside0.mk (Kd.V_below z21_ hb)
         have n3_ := Aside0.mk (Kd.V_below z25_ hb)
         have n4_ := Aside0.mk (Kd.V_below z22_ hb)
         have n5_ := Aside0.mk (Kd.V_below (by (with_reducible repeat (first | apply Kd.V_alloc | apply Kd.V_drewN | apply Kd.V_drew)); exact HO129.out) hb)
         have n6_ := Aside0.mk (blk_below (g := gb101) (o := .cells #[.int .i64 a0_0, .slice Ao15 t102.length co15, .string a0_2] 30 (0, 0)) z15_ hb)
         have n7_ := Aside0.mk (blk_below (g := gb113) (o := .cells #[.slice Ao19 t105.length co19, .slice Ao22 t108.length co22, .int .i64 t111] 33 (0, 0)) z16_ hb)
         have n8_ := Aside0.mk (below_step z5_ hb)
         clear HO104; clear HO107; clear HO110; clear HO117; clear HO120; clear HO129; clear BK101; clear BK113; clear HB
         have HO104 := n0_
         have HO107 := n1_
         have HO110 := n2_
         have HO117 := n3_
         have HO120 := n4_
         have HO129 := n5_
         have BK101 := n6_
         have BK113 := n7_
         have HB := n8_
         clear n0_ n1_ n2_ n3_ n4_ n5_ n6_ n7_ n8_
         (try clear hb)
         (try clear hb2)
         (try clear hk)
         (try clear hi)
         refine hK.out _ _ ⟨(blk_cell BK113.out 0).trans rfl, (blk_cell BK113.out 1).trans rfl, (blk_cell BK113.out 2).trans rfl⟩ (fun hHeld => ?_)
         clear hK K
         refine norm_ (a' := ?_) ?_ ?_
         rotate_left
         ·show Act.put _ (some 77) _ = _
          simp only [Act.put, List.setIfInBounds_toArray, List.set_cons_zero, List.set_cons_succ, i64_w, i32_w]
          rfl
         refine pz_ 34 78 (tb_ 39 34359738367) HT_.out ?_
         refine pz_ 35 79 (tb_ 39 68719476735) HT_.out ?_
         refine pz_ 36 80 (tb_ 39 137438953471) HT_.out ?_
         refine pz_ 37 81 (tb_ 39 274877906943) HT_.out ?_
         refine pz_ 38 82 (tb_ 39 549755813887) HT_.out ?_
         refine done_ (done_of HT_.out (by kernel_rfl)) ?_
         try go_wp2
         go_meet
         case rel => exact ⟨_, (!t130), z29_, H', ⟨z33_⟩, ⟨z22_⟩, ⟨z23_⟩, ⟨z24_⟩, ⟨z21_⟩, ⟨z15_⟩, ⟨z16_⟩, ⟨z5_⟩⟩
        ·rw [if_neg c36] at H
         exact absurd H (by simp)
       ·rw [if_neg c35] at H
        have c35b0 : decide (0 < (t118.length : Int)) = false := decide_eq_false c35
        have c35b1 : decide (0 < t118.length) = false := decide_eq_false (by omega)
        clear c35
        (first | rw [c35b0] | (simp only [i64_w, i32_w]; rw [c35b0]) | skip)
        have H' := Aside0.mk H
        clear H
        try go_wp2
        have n0_ := Aside0.mk (Kd.V_drew HO104.out)
        have n1_ := Aside0.mk (Kd.V_drew HO107.out)
        have n2_ := Aside0.mk (Kd.V_drew HO110.out)
        have n3_ := Aside0.mk (Kd.V_drew HO117.out)
        have n4_ := Aside0.mk (Kd.V_drew HO120.out)
        have n5_ := Aside0.mk (blk_drew BK101.out)
        have n6_ := Aside0.mk (blk_drew BK113.out)
        have n7_ := Aside0.mk (below_drew1 HB.out)
        clear HO104; clear HO107; clear HO110; clear HO117; clear HO120; clear BK101; clear BK113; clear HB
        have HO104 := n0_
        have HO107 := n1_
        have HO110 := n2_
        have HO117 := n3_
        have HO120 := n4_
        have BK101 := n5_
        have BK113 := n6_
        have HB := n7_
        clear n0_ n1_ n2_ n3_ n4_ n5_ n6_ n7_
        obtain ⟨Ao47, co47, eo47⟩ := Kd.V_slice HO120.out
        (first | subst eo47 | (injection eo47 with f1_ f2_ f3_; have f4_ := f1_.symm; have f5_ := f3_.symm; clear f1_ f2_ f3_; subst f4_; subst f5_))
        refine start_ (n := 39) (S := fun w' => w'.cell? ⟨gb113, 0, none⟩ = some (.slice Ao19 t105.length co19) ∧ w'.cell? ⟨gb113, 1, none⟩ = some (.slice Ao22 t108.length co22) ∧ w'.cell? ⟨gb113, 2, none⟩ = some (.int .i64 t111)) (ds := []) (tb_ 39 0) (by kernel_rfl) rfl rfl ⟨(blk_cell BK113.out 0).trans rfl, (blk_cell BK113.out 1).trans rfl, (blk_cell BK113.out 2).trans rfl⟩ (fun hHeld => ?_); refine with_tabW pursuivantlaw14_PreMore.tab6 pursuivantlaw14_PreMore.bits6 (fun HT_ HW_ => ?_)
        generalize w26.drew = w46 at HO104 HO107 HO110 HO117 HO120 BK101 BK113 HB hHeld ⊢
        refine pz_ 1 45 (tb_ 39 2) HT_.out ?_
        refine pz_ 2 46 (tb_ 39 6) HT_.out ?_
        refine tz3_ 0 44 (tb_ 39 7) HT_.out HW_.out hHeld ?_
        refine one_ (i := 3) (N := some 47) (tb_ 39 15) rfl rfl (one_of HT_.out (by kernel_rfl)) (by decide) (fun K hK => ?_)
        refine goes_ Tryz.func16 (by kernel_rfl) rfl #[.agg #[.slice Ao19 t105.length co19, .slice Ao22 t108.length co22, .int .i64 t111], .string a2, .slice Ao47 t118.length co47, .int .i64 3] (by rfl) rfl rfl z9_ ?_
        with_reducible refine (pre_Answer_Lets.calls _ _ t105 _ _ t108 t111 a2 _ _ t118 3 true _ ?gw20_ ?side1c6 ?side2c6 ?side3c6 ?side4c6 ?side5c6 ?side6c6 A27.out).mono ?_
        case gw20_ => exact z0_
        (case side1c6 => repeat (first | exact (Kd.V_reads' HO107.out).2.2 | (with_reducible refine Kd.C_alloc ?_ _) | (with_reducible refine Kd.C_drewN ?_ _) | (with_reducible refine Kd.C_drew ?_)))
        (case side2c6 => exact (Kd.V_reads' HO107.out).2.1)
        (case side3c6 => repeat (first | exact (Kd.V_reads' HO110.out).2.2 | (with_reducible refine Kd.C_alloc ?_ _) | (with_reducible refine Kd.C_drewN ?_ _) | (with_reducible refine Kd.C_drew ?_)))
        (case side4c6 => exact (Kd.V_reads' HO110.out).2.1)
        (case side5c6 => repeat (first | exact (Kd.V_reads' HO120.out).2.2 | (with_reducible refine Kd.C_alloc ?_ _) | (with_reducible refine Kd.C_drewN ?_ _) | (with_reducible refine Kd.C_drew ?_)))
        (case side6c6 => exact (Kd.V_reads' HO120.out).2.1)
        rintro e w48 ⟨rfl, hb⟩
        refine ⟨_, rfl, ?_⟩
        have n0_ := Aside0.mk (Kd.V_below z23_ hb)
        have n1_ := Aside0.mk (Kd.V_below z24_ hb)
        have n2_ := Aside0.mk (Kd.V_below z21_ hb)
        have n3_ := Aside0.mk (Kd.V_below z25_ hb)
        have n4_ := Aside0.mk (Kd.V_below z22_ hb)
        have n5_ := Aside0.mk (blk_below (g := gb101) (o := .cells #[.int .i64 a0_0, .slice Ao15 t102.length co15, .string a0_2] 30 (0, 0)) z15_ hb)
        have n6_ := Aside0.mk (blk_below (g := gb113) (o := .cells #[.slice Ao19 t105.length co19, .slice Ao22 t108.length co22, .int .i64 t111] 33 (0, 0)) z16_ hb)
        have n7_ := Aside0.mk (below_step z5_ hb)
        clear HO104; clear HO107; clear HO110; clear HO117; clear HO120; clear BK101; clear BK113; clear HB
        have HO104 := n0_
        have HO107 := n1_
        have HO110 := n2_
        have HO117 := n3_
        have HO120 := n4_
        have BK101 := n5_
        have BK113 := n6_
        have HB := n7_
        clear n0_ n1_ n2_ n3_ n4_ n5_ n6_ n7_
        (try clear hb)
        (try clear hb2)
        (try clear hk)
        (try clear hi)
        refine hK.out _ _ ⟨(blk_cell BK113.out 0).trans rfl, (blk_cell BK113.out 1).trans rfl, (blk_cell BK113.out 2).trans rfl⟩ (fun hHeld => ?_)
        clear hK K
        refine norm_ (a' := ?_) ?_ ?_
        rotate_left
        ·show Act.put _ (some 47) _ = _
         simp only [Act.put, List.setIfInBounds_toArray, List.set_cons_zero, List.set_cons_succ, i64_w, i32_w]
         rfl
        refine pz_ 4 48 (tb_ 39 31) HT_.out ?_
        refine pz_ 6 50 (tb_ 39 95) HT_.out ?_
        refine pz_ 7 51 (tb_ 39 223) HT_.out ?_
        refine tz3_ 5 49 (tb_ 39 255) HT_.out HW_.out hHeld ?_
        refine one_ (i := 8) (N := some 52) (tb_ 39 511) rfl rfl (one_of HT_.out (by kernel_rfl)) (by decide) (fun K hK => ?_)
        refine goes_ Tryz.func16 (by kernel_rfl) rfl #[.agg #[.slice Ao19 t105.length co19, .slice Ao22 t108.length co22, .int .i64 t111], .string a2, .slice Ao47 t118.length co47, .int .i64 1] (by rfl) rfl rfl z9_ ?_
        with_reducible refine (pre_Answer_Lets.calls _ _ t105 _ _ t108 t111 a2 _ _ t118 1 true _ ?gw21_ ?side1c7 ?side2c7 ?side3c7 ?side4c7 ?side5c7 ?side6c7 A29.out).mono ?_
        case gw21_ => exact z0_
        (case side1c7 => repeat (first | exact (Kd.V_reads' HO107.out).2.2 | (with_reducible refine Kd.C_alloc ?_ _) | (with_reducible refine Kd.C_drewN ?_ _) | (with_reducible refine Kd.C_drew ?_)))
        (case side2c7 => exact (Kd.V_reads' HO107.out).2.1)
        (case side3c7 => repeat (first | exact (Kd.V_reads' HO110.out).2.2 | (with_reducible refine Kd.C_alloc ?_ _) | (with_reducible refine Kd.C_drewN ?_ _) | (with_reducible refine Kd.C_drew ?_)))
        (case side4c7 => exact (Kd.V_reads' HO110.out).2.1)
        (case side5c7 => repeat (first | exact (Kd.V_reads' HO120.out).2.2 | (with_reducible refine Kd.C_alloc ?_ _) | (with_reducible refine Kd.C_drewN ?_ _) | (with_reducible refine Kd.C_drew ?_)))
        (case side6c7 => exact (Kd.V_reads' HO120.out).2.1)
        rintro e w49 ⟨rfl, hb⟩
        refine ⟨_, rfl, ?_⟩
        have n0_ := Aside0.mk (Kd.V_below z23_ hb)
        have n1_ := Aside0.mk (Kd.V_below z24_ hb)
        have n2_ := Aside0.mk (Kd.V_below z21_ hb)
        have n3_ := Aside0.mk (Kd.V_below z25_ hb)
        have n4_ := Aside0.mk (Kd.V_below z22_ hb)
        have n5_ := Aside0.mk (blk_below (g := gb101) (o := .cells #[.int .i64 a0_0, .slice Ao15 t102.length co15, .string a0_2] 30 (0, 0)) z15_ hb)
        have n6_ := Aside0.mk (blk_below (g := gb113) (o := .cells #[.slice Ao19 t105.length co19, .slice Ao22 t108.length co22, .int .i64 t111] 33 (0, 0)) z16_ hb)
        have n7_ := Aside0.mk (below_step z5_ hb)
        clear HO104; clear HO107; clear HO110; clear HO117; clear HO120; clear BK101; clear BK113; clear HB
        have HO104 := n0_
        have HO107 := n1_
        have HO110 := n2_
        have HO117 := n3_
        have HO120 := n4_
        have BK101 := n5_
        have BK113 := n6_
        have HB := n7_
        clear n0_ n1_ n2_ n3_ n4_ n5_ n6_ n7_
        (try clear hb)
        (try clear hb2)
        (try clear hk)
        (try clear hi)
        refine hK.out _ _ ⟨(blk_cell BK113.out 0).trans rfl, (blk_cell BK113.out 1).trans rfl, (blk_cell BK113.out 2).trans rfl⟩ (fun hHeld => ?_)
        clear hK K
        refine norm_ (a' := ?_) ?_ ?_
        rotate_left
        ·show Act.put _ (some 52) _ = _
         simp only [Act.put, List.setIfInBounds_toArray, List.set_cons_zero, List.set_cons_succ, i64_w, i32_w]
         rfl
        refine pz_ 9 53 (tb_ 39 1023) HT_.out ?_
        refine pz_ 10 54 (tb_ 39 2047) HT_.out ?_
        refine pz_ 11 55 (tb_ 39 4095) HT_.out ?_
        refine pz_ 13 57 (tb_ 39 12287) HT_.out ?_
        refine pz_ 14 58 (tb_ 39 28671) HT_.out ?_
        refine pz_ 15 59 (tb_ 39 61439) HT_.out ?_
        refine tz3_ 12 56 (tb_ 39 65535) HT_.out HW_.out hHeld ?_
        refine one_ (i := 16) (N := some 60) (tb_ 39 131071) rfl rfl (one_of HT_.out (by kernel_rfl)) (by decide) (fun K hK => ?_)
        refine goes_ Tryz.func16 (by kernel_rfl) rfl #[.agg #[.slice Ao19 t105.length co19, .slice Ao22 t108.length co22, .int .i64 t111], .string a2, .slice Ao47 t118.length co47, .int .i64 a4] (by rfl) rfl rfl z9_ ?_
        with_reducible refine (pre_Answer_Lets.calls _ _ t105 _ _ t108 t111 a2 _ _ t118 a4 true _ ?gw22_ ?side1c8 ?side2c8 ?side3c8 ?side4c8 ?side5c8 ?side6c8 A31.out).mono ?_
        case gw22_ => exact z0_
        (case side1c8 => repeat (first | exact (Kd.V_reads' HO107.out).2.2 | (with_reducible refine Kd.C_alloc ?_ _) | (with_reducible refine Kd.C_drewN ?_ _) | (with_reducible refine Kd.C_drew ?_)))
        (case side2c8 => exact (Kd.V_reads' HO107.out).2.1)
        (case side3c8 => repeat (first | exact (Kd.V_reads' HO110.out).2.2 | (with_reducible refine Kd.C_alloc ?_ _) | (with_reducible refine Kd.C_drewN ?_ _) | (with_reducible refine Kd.C_drew ?_)))
        (case side4c8 => exact (Kd.V_reads' HO110.out).2.1)
        (case side5c8 => repeat (first | exact (Kd.V_reads' HO120.out).2.2 | (with_reducible refine Kd.C_alloc ?_ _) | (with_reducible refine Kd.C_drewN ?_ _) | (with_reducible refine Kd.C_drew ?_)))
        (case side6c8 => exact (Kd.V_reads' HO120.out).2.1)
        rintro e w50 ⟨rfl, hb⟩
        refine ⟨_, rfl, ?_⟩
        have n0_ := Aside0.mk (Kd.V_below z23_ hb)
        have n1_ := Aside0.mk (Kd.V_below z24_ hb)
        have n2_ := Aside0.mk (Kd.V_below z21_ hb)
        have n3_ := Aside0.mk (Kd.V_below z25_ hb)
        have n4_ := Aside0.mk (Kd.V_below z22_ hb)
        have n5_ := Aside0.mk (blk_below (g := gb101) (o := .cells #[.int .i64 a0_0, .slice Ao15 t102.length co15, .string a0_2] 30 (0, 0)) z15_ hb)
        have n6_ := Aside0.mk (blk_below (g := gb113) (o := .cells #[.slice Ao19 t105.length co19, .slice Ao22 t108.length co22, .int .i64 t111] 33 (0, 0)) z16_ hb)
        have n7_ := Aside0.mk (below_step z5_ hb)
        clear HO104; clear HO107; clear HO110; clear HO117; clear HO120; clear BK101; clear BK113; clear HB
        have HO104 := n0_
        have HO107 := n1_
        have HO110 := n2_
        have HO117 := n3_
        have HO120 := n4_
        have BK101 := n5_
        have BK113 := n6_
        have HB := n7_
        clear n0_ n1_ n2_ n3_ n4_ n5_ n6_ n7_
        (try clear hb)
        (try clear hb2)
        (try clear hk)
        (try clear hi)
        refine hK.out _ _ ⟨(blk_cell BK113.out 0).trans rfl, (blk_cell BK113.out 1).trans rfl, (blk_cell BK113.out 2).trans rfl⟩ (fun hHeld => ?_)
        clear hK K
        refine norm_ (a' := ?_) ?_ ?_
        rotate_left
        ·show Act.put _ (some 60) _ = _
         simp only [Act.put, List.setIfInBounds_toArray, List.set_cons_zero, List.set_cons_succ, i64_w, i32_w]
         rfl
        refine pz_ 17 61 (tb_ 39 262143) HT_.out ?_
        refine pz_ 19 63 (tb_ 39 786431) HT_.out ?_
        refine pz_ 20 64 (tb_ 39 1835007) HT_.out ?_
        refine tz3_ 18 62 (tb_ 39 2097151) HT_.out HW_.out hHeld ?_
        refine one_ (i := 21) (N := some 65) (tb_ 39 4194303) rfl rfl (one_of HT_.out (by kernel_rfl)) (by decide) (fun K hK => ?_)
        refine goes_ Tryz.func16 (by kernel_rfl) rfl #[.agg #[.slice Ao19 t105.length co19, .slice Ao22 t108.length co22, .int .i64 t111], .string a2, .slice none 0 0, .int .i64 a4] (by rfl) rfl rfl z9_ ?_
        refine (pre_Answer_Lets.calls _ _ t105 _ _ t108 t111 a2 _ _ ([] : List ByteArray) a4 true _ ?gw23_ ?side1c9 ?side2c9 ?side3c9 ?side4c9 ?side5c9 ?side6c9 A33.out).mono ?_
        case gw23_ => exact z0_
        (case side1c9 => repeat (first | exact (Kd.V_reads' HO107.out).2.2 | (with_reducible refine Kd.C_alloc ?_ _) | (with_reducible refine Kd.C_drewN ?_ _) | (with_reducible refine Kd.C_drew ?_)))
        (case side2c9 => exact (Kd.V_reads' HO107.out).2.1)
        (case side3c9 => repeat (first | exact (Kd.V_reads' HO110.out).2.2 | (with_reducible refine Kd.C_alloc ?_ _) | (with_reducible refine Kd.C_drewN ?_ _) | (with_reducible refine Kd.C_drew ?_)))
        (case side4c9 => exact (Kd.V_reads' HO110.out).2.1)
        (case side5c9 => exact Kd.C_nil _ _)
        (case side6c9 => exact Nat.le_refl _)
        rintro e w51 ⟨rfl, hb⟩
        refine ⟨_, rfl, ?_⟩
        have n0_ := Aside0.mk (Kd.V_below z23_ hb)
        have n1_ := Aside0.mk (Kd.V_below z24_ hb)
        have n2_ := Aside0.mk (Kd.V_below z21_ hb)
        have n3_ := Aside0.mk (Kd.V_below z25_ hb)
        have n4_ := Aside0.mk (Kd.V_below z22_ hb)
        have n5_ := Aside0.mk (blk_below (g := gb101) (o := .cells #[.int .i64 a0_0, .slice Ao15 t102.length co15, .string a0_2] 30 (0, 0)) z15_ hb)
        have n6_ := Aside0.mk (blk_below (g := gb113) (o := .cells #[.slice Ao19 t105.length co19, .slice Ao22 t108.length co22, .int .i64 t111] 33 (0, 0)) z16_ hb)
        have n7_ := Aside0.mk (below_step z5_ hb)
        clear HO104; clear HO107; clear HO110; clear HO117; clear HO120; clear BK101; clear BK113; clear HB
        have HO104 := n0_
        have HO107 := n1_
        have HO110 := n2_
        have HO117 := n3_
        have HO120 := n4_
        have BK101 := n5_
        have BK113 := n6_
        have HB := n7_
        clear n0_ n1_ n2_ n3_ n4_ n5_ n6_ n7_
        (try clear hb)
        (try clear hb2)
        (try clear hk)
        (try clear hi)
        refine hK.out _ _ ⟨(blk_cell BK113.out 0).trans rfl, (blk_cell BK113.out 1).trans rfl, (blk_cell BK113.out 2).trans rfl⟩ (fun hHeld => ?_)
        clear hK K
        refine norm_ (a' := ?_) ?_ ?_
        rotate_left
        ·show Act.put _ (some 65) _ = _
         simp only [Act.put, List.setIfInBounds_toArray, List.set_cons_zero, List.set_cons_succ, i64_w, i32_w]
         rfl
        refine pz_ 22 66 (tb_ 39 8388607) HT_.out ?_
        refine pz_ 23 67 (tb_ 39 16777215) HT_.out ?_
        refine pz_ 24 68 (tb_ 39 33554431) HT_.out ?_
        refine pz_ 25 69 (tb_ 39 67108863) HT_.out ?_
        refine pz_ 26 70 (tb_ 39 134217727) HT_.out ?_
        refine pz_ 27 71 (tb_ 39 268435455) HT_.out ?_
        refine pu_ 28 72 (tb_ 39 536870911) HT_.out ?_
        refine pu_ 29 73 (tb_ 39 1073741823) HT_.out ?_
        refine pu_ 30 74 (tb_ 39 2147483647) HT_.out ?_
        refine pu_ 31 75 (tb_ 39 4294967295) HT_.out ?_
        refine pu_ 32 76 (tb_ 39 8589934591) HT_.out ?_
        refine pu_ 33 77 (tb_ 39 17179869183) HT_.out ?_
        refine pu_ 34 78 (tb_ 39 34359738367) HT_.out ?_
        refine pz_ 35 79 (tb_ 39 68719476735) HT_.out ?_
        refine pz_ 36 80 (tb_ 39 137438953471) HT_.out ?_
        refine pz_ 37 81 (tb_ 39 274877906943) HT_.out ?_
        refine pz_ 38 82 (tb_ 39 549755813887) HT_.out ?_
        refine done_ (done_of HT_.out (by kernel_rfl)) ?_
        try go_wp2
        go_meet
        case rel => exact ⟨_, (false), z29_, H', ⟨z33_⟩, ⟨z22_⟩, ⟨z23_⟩, ⟨z24_⟩, ⟨z21_⟩, ⟨z15_⟩, ⟨z16_⟩, ⟨z5_⟩⟩
      ·replace c34 := Bool.eq_false_iff.mpr c34
       subst c34
       have H1 : (pursuivantlaw14_PreMore.j0 k a2 l3 a4 t118 true t105 t108 t111) = some r := by rw [if_neg (show ¬ (false = true) by decide)] at H; exact H
       clear H
       have H := H1
       clear H1
       have H' := Aside0.mk H
       clear H
       try go_wp2
       have n0_ := Aside0.mk (Kd.V_drew HO104.out)
       have n1_ := Aside0.mk (Kd.V_drew HO107.out)
       have n2_ := Aside0.mk (Kd.V_drew HO110.out)
       have n3_ := Aside0.mk (Kd.V_drew HO117.out)
       have n4_ := Aside0.mk (Kd.V_drew HO120.out)
       have n5_ := Aside0.mk (blk_drew BK101.out)
       have n6_ := Aside0.mk (blk_drew BK113.out)
       have n7_ := Aside0.mk (below_drew1 HB.out)
       clear HO104; clear HO107; clear HO110; clear HO117; clear HO120; clear BK101; clear BK113; clear HB
       have HO104 := n0_
       have HO107 := n1_
       have HO110 := n2_
       have HO117 := n3_
       have HO120 := n4_
       have BK101 := n5_
       have BK113 := n6_
       have HB := n7_
       clear n0_ n1_ n2_ n3_ n4_ n5_ n6_ n7_
       obtain ⟨Ao53, co53, eo53⟩ := Kd.V_slice HO120.out
       (first | subst eo53 | (injection eo53 with f1_ f2_ f3_; have f4_ := f1_.symm; have f5_ := f3_.symm; clear f1_ f2_ f3_; subst f4_; subst f5_))
       refine start_ (n := 39) (S := fun w' => w'.cell? ⟨gb113, 0, none⟩ = some (.slice Ao19 t105.length co19) ∧ w'.cell? ⟨gb113, 1, none⟩ = some (.slice Ao22 t108.length co22) ∧ w'.cell? ⟨gb113, 2, none⟩ = some (.int .i64 t111)) (ds := []) (tb_ 39 0) (by kernel_rfl) rfl rfl ⟨(blk_cell BK113.out 0).trans rfl, (blk_cell BK113.out 1).trans rfl, (blk_cell BK113.out 2).trans rfl⟩ (fun hHeld => ?_); refine with_tabW pursuivantlaw14_PreMore.tab6 pursuivantlaw14_PreMore.bits6 (fun HT_ HW_ => ?_)
       generalize w26.drew = w52 at HO104 HO107 HO110 HO117 HO120 BK101 BK113 HB hHeld ⊢
       refine pz_ 1 45 (tb_ 39 2) HT_.out ?_
       refine pz_ 2 46 (tb_ 39 6) HT_.out ?_
       refine tz3_ 0 44 (tb_ 39 7) HT_.out HW_.out hHeld ?_
       refine one_ (i := 3) (N := some 47) (tb_ 39 15) rfl rfl (one_of HT_.out (by kernel_rfl)) (by decide) (fun K hK => ?_)
       refine goes_ Tryz.func16 (by kernel_rfl) rfl #[.agg #[.slice Ao19 t105.length co19, .slice Ao22 t108.length co22, .int .i64 t111], .string a2, .slice Ao53 t118.length co53, .int .i64 3] (by rfl) rfl rfl z9_ ?_
       with_reducible refine (pre_Answer_Lets.calls _ _ t105 _ _ t108 t111 a2 _ _ t118 3 true _ ?gw24_ ?side1c10 ?side2c10 ?side3c10 ?side4c10 ?side5c10 ?side6c10 A27.out).mono ?_
       case gw24_ => exact z0_
       (case side1c10 => repeat (first | exact (Kd.V_reads' HO107.out).2.2 | (with_reducible refine Kd.C_alloc ?_ _) | (with_reducible refine Kd.C_drewN ?_ _) | (with_reducible refine Kd.C_drew ?_)))
       (case side2c10 => exact (Kd.V_reads' HO107.out).2.1)
       (case side3c10 => repeat (first | exact (Kd.V_reads' HO110.out).2.2 | (with_reducible refine Kd.C_alloc ?_ _) | (with_reducible refine Kd.C_drewN ?_ _) | (with_reducible refine Kd.C_drew ?_)))
       (case side4c10 => exact (Kd.V_reads' HO110.out).2.1)
       (case side5c10 => repeat (first | exact (Kd.V_reads' HO120.out).2.2 | (with_reducible refine Kd.C_alloc ?_ _) | (with_reducible refine Kd.C_drewN ?_ _) | (with_reducible refine Kd.C_drew ?_)))
       (case side6c10 => exact (Kd.V_reads' HO120.out).2.1)
       rintro e w54 ⟨rfl, hb⟩
       refine ⟨_, rfl, ?_⟩
       have n0_ := Aside0.mk (Kd.V_below z23_ hb)
       have n1_ := Aside0.mk (Kd.V_below z24_ hb)
       have n2_ := Aside0.mk (Kd.V_below z21_ hb)
       have n3_ := Aside0.mk (Kd.V_below z25_ hb)
       have n4_ := Aside0.mk (Kd.V_below z22_ hb)
       have n5_ := Aside0.mk (blk_below (g := gb101) (o := .cells #[.int .i64 a0_0, .slice Ao15 t102.length co15, .string a0_2] 30 (0, 0)) z15_ hb)
       have n6_ := Aside0.mk (blk_below (g := gb113) (o := .cells #[.slice Ao19 t105.length co19, .slice Ao22 t108.length co22, .int .i64 t111] 33 (0, 0)) z16_ hb)
       have n7_ := Aside0.mk (below_step z5_ hb)
       clear HO104; clear HO107; clear HO110; clear HO117; clear HO120; clear BK101; clear BK113; clear HB
       have HO104 := n0_
       have HO107 := n1_
       have HO110 := n2_
       have HO117 := n3_
       have HO120 := n4_
       have BK101 := n5_
       have BK113 := n6_
       have HB := n7_
       clear n0_ n1_ n2_ n3_ n4_ n5_ n6_ n7_
       (try clear hb)
       (try clear hb2)
       (try clear hk)
       (try clear hi)
       refine hK.out _ _ ⟨(blk_cell BK113.out 0).trans rfl, (blk_cell BK113.out 1).trans rfl, (blk_cell BK113.out 2).trans rfl⟩ (fun hHeld => ?_)
       clear hK K
       refine norm_ (a' := ?_) ?_ ?_
       rotate_left
       ·show Act.put _ (some 47) _ = _
        simp only [Act.put, List.setIfInBounds_toArray, List.set_cons_zero, List.set_cons_succ, i64_w, i32_w]
        rfl
       refine pz_ 4 48 (tb_ 39 31) HT_.out ?_
       refine pz_ 6 50 (tb_ 39 95) HT_.out ?_
       refine pz_ 7 51 (tb_ 39 223) HT_.out ?_
       refine tz3_ 5 49 (tb_ 39 255) HT_.out HW_.out hHeld ?_
       refine one_ (i := 8) (N := some 52) (tb_ 39 511) rfl rfl (one_of HT_.out (by kernel_rfl)) (by decide) (fun K hK => ?_)
       refine goes_ Tryz.func16 (by kernel_rfl) rfl #[.agg #[.slice Ao19 t105.length co19, .slice Ao22 t108.length co22, .int .i64 t111], .string a2, .slice Ao53 t118.length co53, .int .i64 1] (by rfl) rfl rfl z9_ ?_
       with_reducible refine (pre_Answer_Lets.calls _ _ t105 _ _ t108 t111 a2 _ _ t118 1 true _ ?gw25_ ?side1c11 ?side2c11 ?side3c11 ?side4c11 ?side5c11 ?side6c11 A29.out).mono ?_
       case gw25_ => exact z0_
       (case side1c11 => repeat (first | exact (Kd.V_reads' HO107.out).2.2 | (with_reducible refine Kd.C_alloc ?_ _) | (with_reducible refine Kd.C_drewN ?_ _) | (with_reducible refine Kd.C_drew ?_)))
       (case side2c11 => exact (Kd.V_reads' HO107.out).2.1)
       (case side3c11 => repeat (first | exact (Kd.V_reads' HO110.out).2.2 | (with_reducible refine Kd.C_alloc ?_ _) | (with_reducible refine Kd.C_drewN ?_ _) | (with_reducible refine Kd.C_drew ?_)))
       (case side4c11 => exact (Kd.V_reads' HO110.out).2.1)
       (case side5c11 => repeat (first | exact (Kd.V_reads' HO120.out).2.2 | (with_reducible refine Kd.C_alloc ?_ _) | (with_reducible refine Kd.C_drewN ?_ _) | (with_reducible refine Kd.C_drew ?_)))
       (case side6c11 => exact (Kd.V_reads' HO120.out).2.1)
       rintro e w55 ⟨rfl, hb⟩
       refine ⟨_, rfl, ?_⟩
       have n0_ := Aside0.mk (Kd.V_below z23_ hb)
       have n1_ := Aside0.mk (Kd.V_below z24_ hb)
       have n2_ := Aside0.mk (Kd.V_below z21_ hb)
       have n3_ := Aside0.mk (Kd.V_below z25_ hb)
       have n4_ := Aside0.mk (Kd.V_below z22_ hb)
       have n5_ := Aside0.mk (blk_below (g := gb101) (o := .cells #[.int .i64 a0_0, .slice Ao15 t102.length co15, .string a0_2] 30 (0, 0)) z15_ hb)
       have n6_ := Aside0.mk (blk_below (g := gb113) (o := .cells #[.slice Ao19 t105.length co19, .slice Ao22 t108.length co22, .int .i64 t111] 33 (0, 0)) z16_ hb)
       have n7_ := Aside0.mk (below_step z5_ hb)
       clear HO104; clear HO107; clear HO110; clear HO117; clear HO120; clear BK101; clear BK113; clear HB
       have HO104 := n0_
       have HO107 := n1_
       have HO110 := n2_
       have HO117 := n3_
       have HO120 := n4_
       have BK101 := n5_
       have BK113 := n6_
       have HB := n7_
       clear n0_ n1_ n2_ n3_ n4_ n5_ n6_ n7_
       (try clear hb)
       (try clear hb2)
       (try clear hk)
       (try clear hi)
       refine hK.out _ _ ⟨(blk_cell BK113.out 0).trans rfl, (blk_cell BK113.out 1).trans rfl, (blk_cell BK113.out 2).trans rfl⟩ (fun hHeld => ?_)
       clear hK K
       refine norm_ (a' := ?_) ?_ ?_
       rotate_left
       ·show Act.put _ (some 52) _ = _
        simp only [Act.put, List.setIfInBounds_toArray, List.set_cons_zero, List.set_cons_succ, i64_w, i32_w]
        rfl
       refine pz_ 9 53 (tb_ 39 1023) HT_.out ?_
       refine pz_ 10 54 (tb_ 39 2047) HT_.out ?_
       refine pz_ 11 55 (tb_ 39 4095) HT_.out ?_
       refine pz_ 13 57 (tb_ 39 12287) HT_.out ?_
       refine pz_ 14 58 (tb_ 39 28671) HT_.out ?_
       refine pz_ 15 59 (tb_ 39 61439) HT_.out ?_
       refine tz3_ 12 56 (tb_ 39 65535) HT_.out HW_.out hHeld ?_
       refine one_ (i := 16) (N := some 60) (tb_ 39 131071) rfl rfl (one_of HT_.out (by kernel_rfl)) (by decide) (fun K hK => ?_)
       refine goes_ Tryz.func16 (by kernel_rfl) rfl #[.agg #[.slice Ao19 t105.length co19, .slice Ao22 t108.length co22, .int .i64 t111], .string a2, .slice Ao53 t118.length co53, .int .i64 a4] (by rfl) rfl rfl z9_ ?_
       with_reducible refine (pre_Answer_Lets.calls _ _ t105 _ _ t108 t111 a2 _ _ t118 a4 true _ ?gw26_ ?side1c12 ?side2c12 ?side3c12 ?side4c12 ?side5c12 ?side6c12 A31.out).mono ?_
       case gw26_ => exact z0_
       (case side1c12 => repeat (first | exact (Kd.V_reads' HO107.out).2.2 | (with_reducible refine Kd.C_alloc ?_ _) | (with_reducible refine Kd.C_drewN ?_ _) | (with_reducible refine Kd.C_drew ?_)))
       (case side2c12 => exact (Kd.V_reads' HO107.out).2.1)
       (case side3c12 => repeat (first | exact (Kd.V_reads' HO110.out).2.2 | (with_reducible refine Kd.C_alloc ?_ _) | (with_reducible refine Kd.C_drewN ?_ _) | (with_reducible refine Kd.C_drew ?_)))
       (case side4c12 => exact (Kd.V_reads' HO110.out).2.1)
       (case side5c12 => repeat (first | exact (Kd.V_reads' HO120.out).2.2 | (with_reducible refine Kd.C_alloc ?_ _) | (with_reducible refine Kd.C_drewN ?_ _) | (with_reducible refine Kd.C_drew ?_)))
       (case side6c12 => exact (Kd.V_reads' HO120.out).2.1)
       rintro e w56 ⟨rfl, hb⟩
       refine ⟨_, rfl, ?_⟩
       have n0_ := Aside0.mk (Kd.V_below z23_ hb)
       have n1_ := Aside0.mk (Kd.V_below z24_ hb)
       have n2_ := Aside0.mk (Kd.V_below z21_ hb)
       have n3_ := Aside0.mk (Kd.V_below z25_ hb)
       have n4_ := Aside0.mk (Kd.V_below z22_ hb)
       have n5_ := Aside0.mk (blk_below (g := gb101) (o := .cells #[.int .i64 a0_0, .slice Ao15 t102.length co15, .string a0_2] 30 (0, 0)) z15_ hb)
       have n6_ := Aside0.mk (blk_below (g := gb113) (o := .cells #[.slice Ao19 t105.length co19, .slice Ao22 t108.length co22, .int .i64 t111] 33 (0, 0)) z16_ hb)
       have n7_ := Aside0.mk (below_step z5_ hb)
       clear HO104; clear HO107; clear HO110; clear HO117; clear HO120; clear BK101; clear BK113; clear HB
       have HO104 := n0_
       have HO107 := n1_
       have HO110 := n2_
       have HO117 := n3_
       have HO120 := n4_
       have BK101 := n5_
       have BK113 := n6_
       have HB := n7_
       clear n0_ n1_ n2_ n3_ n4_ n5_ n6_ n7_
       (try clear hb)
       (try clear hb2)
       (try clear hk)
       (try clear hi)
       refine hK.out _ _ ⟨(blk_cell BK113.out 0).trans rfl, (blk_cell BK113.out 1).trans rfl, (blk_cell BK113.out 2).trans rfl⟩ (fun hHeld => ?_)
       clear hK K
       refine norm_ (a' := ?_) ?_ ?_
       rotate_left
       ·show Act.put _ (some 60) _ = _
        simp only [Act.put, List.setIfInBounds_toArray, List.set_cons_zero, List.set_cons_succ, i64_w, i32_w]
        rfl
       refine pz_ 17 61 (tb_ 39 262143) HT_.out ?_
       refine pz_ 19 63 (tb_ 39 786431) HT_.out ?_
       refine pz_ 20 64 (tb_ 39 1835007) HT_.out ?_
       refine tz3_ 18 62 (tb_ 39 2097151) HT_.out HW_.out hHeld ?_
       refine one_ (i := 21) (N := some 65) (tb_ 39 4194303) rfl rfl (one_of HT_.out (by kernel_rfl)) (by decide) (fun K hK => ?_)
       refine goes_ Tryz.func16 (by kernel_rfl) rfl #[.agg #[.slice Ao19 t105.length co19, .slice Ao22 t108.length co22, .int .i64 t111], .string a2, .slice none 0 0, .int .i64 a4] (by rfl) rfl rfl z9_ ?_
       refine (pre_Answer_Lets.calls _ _ t105 _ _ t108 t111 a2 _ _ ([] : List ByteArray) a4 false _ ?gw27_ ?side1c13 ?side2c13 ?side3c13 ?side4c13 ?side5c13 ?side6c13 A33.out).mono ?_
       case gw27_ => exact z0_
       (case side1c13 => repeat (first | exact (Kd.V_reads' HO107.out).2.2 | (with_reducible refine Kd.C_alloc ?_ _) | (with_reducible refine Kd.C_drewN ?_ _) | (with_reducible refine Kd.C_drew ?_)))
       (case side2c13 => exact (Kd.V_reads' HO107.out).2.1)
       (case side3c13 => repeat (first | exact (Kd.V_reads' HO110.out).2.2 | (with_reducible refine Kd.C_alloc ?_ _) | (with_reducible refine Kd.C_drewN ?_ _) | (with_reducible refine Kd.C_drew ?_)))
       (case side4c13 => exact (Kd.V_reads' HO110.out).2.1)
       (case side5c13 => exact Kd.C_nil _ _)
       (case side6c13 => exact Nat.le_refl _)
       rintro e w57 ⟨rfl, hb⟩
       refine ⟨_, rfl, ?_⟩
       have n0_ := Aside0.mk (Kd.V_below z23_ hb)
       have n1_ := Aside0.mk (Kd.V_below z24_ hb)
       have n2_ := Aside0.mk (Kd.V_below z21_ hb)
       have n3_ := Aside0.mk (Kd.V_below z25_ hb)
       have n4_ := Aside0.mk (Kd.V_below z22_ hb)
       have n5_ := Aside0.mk (blk_below (g := gb101) (o := .cells #[.int .i64 a0_0, .slice Ao15 t102.length co15, .string a0_2] 30 (0, 0)) z15_ hb)
       have n6_ := Aside0.mk (blk_below (g := gb113) (o := .cells #[.slice Ao19 t105.length co19, .slice Ao22 t108.length co22, .int .i64 t111] 33 (0, 0)) z16_ hb)
       have n7_ := Aside0.mk (below_step z5_ hb)
       clear HO104; clear HO107; clear HO110; clear HO117; clear HO120; clear BK101; clear BK113; clear HB
       have HO104 := n0_
       have HO107 := n1_
       have HO110 := n2_
       have HO117 := n3_
       have HO120 := n4_
       have BK101 := n5_
       have BK113 := n6_
       have HB := n7_
       clear n0_ n1_ n2_ n3_ n4_ n5_ n6_ n7_
       (try clear hb)
       (try clear hb2)
       (try clear hk)
       (try clear hi)
       refine hK.out _ _ ⟨(blk_cell BK113.out 0).trans rfl, (blk_cell BK113.out 1).trans rfl, (blk_cell BK113.out 2).trans rfl⟩ (fun hHeld => ?_)
       clear hK K
       refine norm_ (a' := ?_) ?_ ?_
       rotate_left
       ·show Act.put _ (some 65) _ = _
        simp only [Act.put, List.setIfInBounds_toArray, List.set_cons_zero, List.set_cons_succ, i64_w, i32_w]
        rfl
       refine pz_ 22 66 (tb_ 39 8388607) HT_.out ?_
       refine pz_ 23 67 (tb_ 39 16777215) HT_.out ?_
       refine pu_ 24 68 (tb_ 39 33554431) HT_.out ?_
       refine pu_ 25 69 (tb_ 39 67108863) HT_.out ?_
       refine pu_ 26 70 (tb_ 39 134217727) HT_.out ?_
       refine pu_ 27 71 (tb_ 39 268435455) HT_.out ?_
       refine pu_ 28 72 (tb_ 39 536870911) HT_.out ?_
       refine pu_ 29 73 (tb_ 39 1073741823) HT_.out ?_
       refine pu_ 30 74 (tb_ 39 2147483647) HT_.out ?_
       refine pu_ 31 75 (tb_ 39 4294967295) HT_.out ?_
       refine pu_ 32 76 (tb_ 39 8589934591) HT_.out ?_
       refine pu_ 33 77 (tb_ 39 17179869183) HT_.out ?_
       refine pu_ 34 78 (tb_ 39 34359738367) HT_.out ?_
       refine pu_ 35 79 (tb_ 39 68719476735) HT_.out ?_
       refine pz_ 36 80 (tb_ 39 137438953471) HT_.out ?_
       refine pz_ 37 81 (tb_ 39 274877906943) HT_.out ?_
       refine pz_ 38 82 (tb_ 39 549755813887) HT_.out ?_
       refine done_ (done_of HT_.out (by kernel_rfl)) ?_
       try go_wp2
       go_meet
       case rel => exact ⟨_, (true), z29_, H', ⟨z33_⟩, ⟨z22_⟩, ⟨z23_⟩, ⟨z24_⟩, ⟨z21_⟩, ⟨z15_⟩, ⟨z16_⟩, ⟨z5_⟩⟩
     ·replace c32 := Bool.eq_false_iff.mpr c32
      subst c32
      have H1 : (pursuivantlaw14_PreMore.j0 k a2 l3 a4 t118 false t105 t108 t111) = some r := by rw [if_neg (show ¬ (false = true) by decide)] at H; exact H
      clear H
      have H := H1
      clear H1
      have H' := Aside0.mk H
      clear H
      try go_wp2
      have n0_ := Aside0.mk (Kd.V_drew HO104.out)
      have n1_ := Aside0.mk (Kd.V_drew HO107.out)
      have n2_ := Aside0.mk (Kd.V_drew HO110.out)
      have n3_ := Aside0.mk (Kd.V_drew HO117.out)
      have n4_ := Aside0.mk (Kd.V_drew HO120.out)
      have n5_ := Aside0.mk (blk_drew BK101.out)
      have n6_ := Aside0.mk (blk_drew BK113.out)
      have n7_ := Aside0.mk (below_drew1 HB.out)
      clear HO104; clear HO107; clear HO110; clear HO117; clear HO120; clear BK101; clear BK113; clear HB
      have HO104 := n0_
      have HO107 := n1_
      have HO110 := n2_
      have HO117 := n3_
      have HO120 := n4_
      have BK101 := n5_
      have BK113 := n6_
      have HB := n7_
      clear n0_ n1_ n2_ n3_ n4_ n5_ n6_ n7_
      obtain ⟨Ao59, co59, eo59⟩ := Kd.V_slice HO120.out
      (first | subst eo59 | (injection eo59 with f1_ f2_ f3_; have f4_ := f1_.symm; have f5_ := f3_.symm; clear f1_ f2_ f3_; subst f4_; subst f5_))
      refine start_ (n := 39) (S := fun w' => w'.cell? ⟨gb113, 0, none⟩ = some (.slice Ao19 t105.length co19) ∧ w'.cell? ⟨gb113, 1, none⟩ = some (.slice Ao22 t108.length co22) ∧ w'.cell? ⟨gb113, 2, none⟩ = some (.int .i64 t111)) (ds := []) (tb_ 39 0) (by kernel_rfl) rfl rfl ⟨(blk_cell BK113.out 0).trans rfl, (blk_cell BK113.out 1).trans rfl, (blk_cell BK113.out 2).trans rfl⟩ (fun hHeld => ?_); refine with_tabW pursuivantlaw14_PreMore.tab6 pursuivantlaw14_PreMore.bits6 (fun HT_ HW_ => ?_)
      generalize w26.drew = w58 at HO104 HO107 HO110 HO117 HO120 BK101 BK113 HB hHeld ⊢
      refine pz_ 1 45 (tb_ 39 2) HT_.out ?_
      refine pz_ 2 46 (tb_ 39 6) HT_.out ?_
      refine tz3_ 0 44 (tb_ 39 7) HT_.out HW_.out hHeld ?_
      refine one_ (i := 3) (N := some 47) (tb_ 39 15) rfl rfl (one_of HT_.out (by kernel_rfl)) (by decide) (fun K hK => ?_)
      refine goes_ Tryz.func16 (by kernel_rfl) rfl #[.agg #[.slice Ao19 t105.length co19, .slice Ao22 t108.length co22, .int .i64 t111], .string a2, .slice Ao59 t118.length co59, .int .i64 3] (by rfl) rfl rfl z9_ ?_
      with_reducible refine (pre_Answer_Lets.calls _ _ t105 _ _ t108 t111 a2 _ _ t118 3 true _ ?gw28_ ?side1c14 ?side2c14 ?side3c14 ?side4c14 ?side5c14 ?side6c14 A27.out).mono ?_
      case gw28_ => exact z0_
      (case side1c14 => repeat (first | exact (Kd.V_reads' HO107.out).2.2 | (with_reducible refine Kd.C_alloc ?_ _) | (with_reducible refine Kd.C_drewN ?_ _) | (with_reducible refine Kd.C_drew ?_)))
      (case side2c14 => exact (Kd.V_reads' HO107.out).2.1)
      (case side3c14 => repeat (first | exact (Kd.V_reads' HO110.out).2.2 | (with_reducible refine Kd.C_alloc ?_ _) | (with_reducible refine Kd.C_drewN ?_ _) | (with_reducible refine Kd.C_drew ?_)))
      (case side4c14 => exact (Kd.V_reads' HO110.out).2.1)
      (case side5c14 => repeat (first | exact (Kd.V_reads' HO120.out).2.2 | (with_reducible refine Kd.C_alloc ?_ _) | (with_reducible refine Kd.C_drewN ?_ _) | (with_reducible refine Kd.C_drew ?_)))
      (case side6c14 => exact (Kd.V_reads' HO120.out).2.1)
      rintro e w60 ⟨rfl, hb⟩
      refine ⟨_, rfl, ?_⟩
      have n0_ := Aside0.mk (Kd.V_below z23_ hb)
      have n1_ := Aside0.mk (Kd.V_below z24_ hb)
      have n2_ := Aside0.mk (Kd.V_below z21_ hb)
      have n3_ := Aside0.mk (Kd.V_below z25_ hb)
      have n4_ := Aside0.mk (Kd.V_below z22_ hb)
      have n5_ := Aside0.mk (blk_below (g := gb101) (o := .cells #[.int .i64 a0_0, .slice Ao15 t102.length co15, .string a0_2] 30 (0, 0)) z15_ hb)
      have n6_ := Aside0.mk (blk_below (g := gb113) (o := .cells #[.slice Ao19 t105.length co19, .slice Ao22 t108.length co22, .int .i64 t111] 33 (0, 0)) z16_ hb)
      have n7_ := Aside0.mk (below_step z5_ hb)
      clear HO104; clear HO107; clear HO110; clear HO117; clear HO120; clear BK101; clear BK113; clear HB
      have HO104 := n0_
      have HO107 := n1_
      have HO110 := n2_
      have HO117 := n3_
      have HO120 := n4_
      have BK101 := n5_
      have BK113 := n6_
      have HB := n7_
      clear n0_ n1_ n2_ n3_ n4_ n5_ n6_ n7_
      (try clear hb)
      (try clear hb2)
      (try clear hk)
      (try clear hi)
      refine hK.out _ _ ⟨(blk_cell BK113.out 0).trans rfl, (blk_cell BK113.out 1).trans rfl, (blk_cell BK113.out 2).trans rfl⟩ (fun hHeld => ?_)
      clear hK K
      refine norm_ (a' := ?_) ?_ ?_
      rotate_left
      ·show Act.put _ (some 47) _ = _
       simp only [Act.put, List.setIfInBounds_toArray, List.set_cons_zero, List.set_cons_succ, i64_w, i32_w]
       rfl
      refine pz_ 4 48 (tb_ 39 31) HT_.out ?_
      refine pz_ 6 50 (tb_ 39 95) HT_.out ?_
      refine pz_ 7 51 (tb_ 39 223) HT_.out ?_
      refine tz3_ 5 49 (tb_ 39 255) HT_.out HW_.out hHeld ?_
      refine one_ (i := 8) (N := some 52) (tb_ 39 511) rfl rfl (one_of HT_.out (by kernel_rfl)) (by decide) (fun K hK => ?_)
      refine goes_ Tryz.func16 (by kernel_rfl) rfl #[.agg #[.slice Ao19 t105.length co19, .slice Ao22 t108.length co22, .int .i64 t111], .string a2, .slice Ao59 t118.length co59, .int .i64 1] (by rfl) rfl rfl z9_ ?_
      with_reducible refine (pre_Answer_Lets.calls _ _ t105 _ _ t108 t111 a2 _ _ t118 1 true _ ?gw29_ ?side1c15 ?side2c15 ?side3c15 ?side4c15 ?side5c15 ?side6c15 A29.out).mono ?_
      case gw29_ => exact z0_
      (case side1c15 => repeat (first | exact (Kd.V_reads' HO107.out).2.2 | (with_reducible refine Kd.C_alloc ?_ _) | (with_reducible refine Kd.C_drewN ?_ _) | (with_reducible refine Kd.C_drew ?_)))
      (case side2c15 => exact (Kd.V_reads' HO107.out).2.1)
      (case side3c15 => repeat (first | exact (Kd.V_reads' HO110.out).2.2 | (with_reducible refine Kd.C_alloc ?_ _) | (with_reducible refine Kd.C_drewN ?_ _) | (with_reducible refine Kd.C_drew ?_)))
      (case side4c15 => exact (Kd.V_reads' HO110.out).2.1)
      (case side5c15 => repeat (first | exact (Kd.V_reads' HO120.out).2.2 | (with_reducible refine Kd.C_alloc ?_ _) | (with_reducible refine Kd.C_drewN ?_ _) | (with_reducible refine Kd.C_drew ?_)))
      (case side6c15 => exact (Kd.V_reads' HO120.out).2.1)
      rintro e w61 ⟨rfl, hb⟩
      refine ⟨_, rfl, ?_⟩
      have n0_ := Aside0.mk (Kd.V_below z23_ hb)
      have n1_ := Aside0.mk (Kd.V_below z24_ hb)
      have n2_ := Aside0.mk (Kd.V_below z21_ hb)
      have n3_ := Aside0.mk (Kd.V_below z25_ hb)
      have n4_ := Aside0.mk (Kd.V_below z22_ hb)
      have n5_ := Aside0.mk (blk_below (g := gb101) (o := .cells #[.int .i64 a0_0, .slice Ao15 t102.length co15, .string a0_2] 30 (0, 0)) z15_ hb)
      have n6_ := Aside0.mk (blk_below (g := gb113) (o := .cells #[.slice Ao19 t105.length co19, .slice Ao22 t108.length co22, .int .i64 t111] 33 (0, 0)) z16_ hb)
      have n7_ := Aside0.mk (below_step z5_ hb)
      clear HO104; clear HO107; clear HO110; clear HO117; clear HO120; clear BK101; clear BK113; clear HB
      have HO104 := n0_
      have HO107 := n1_
      have HO110 := n2_
      have HO117 := n3_
      have HO120 := n4_
      have BK101 := n5_
      have BK113 := n6_
      have HB := n7_
      clear n0_ n1_ n2_ n3_ n4_ n5_ n6_ n7_
      (try clear hb)
      (try clear hb2)
      (try clear hk)
      (try clear hi)
      refine hK.out _ _ ⟨(blk_cell BK113.out 0).trans rfl, (blk_cell BK113.out 1).trans rfl, (blk_cell BK113.out 2).trans rfl⟩ (fun hHeld => ?_)
      clear hK K
      refine norm_ (a' := ?_) ?_ ?_
      rotate_left
      ·show Act.put _ (some 52) _ = _
       simp only [Act.put, List.setIfInBounds_toArray, List.set_cons_zero, List.set_cons_succ, i64_w, i32_w]
       rfl
      refine pz_ 9 53 (tb_ 39 1023) HT_.out ?_
      refine pz_ 10 54 (tb_ 39 2047) HT_.out ?_
      refine pz_ 11 55 (tb_ 39 4095) HT_.out ?_
      refine pz_ 13 57 (tb_ 39 12287) HT_.out ?_
      refine pz_ 14 58 (tb_ 39 28671) HT_.out ?_
      refine pz_ 15 59 (tb_ 39 61439) HT_.out ?_
      refine tz3_ 12 56 (tb_ 39 65535) HT_.out HW_.out hHeld ?_
      refine one_ (i := 16) (N := some 60) (tb_ 39 131071) rfl rfl (one_of HT_.out (by kernel_rfl)) (by decide) (fun K hK => ?_)
      refine goes_ Tryz.func16 (by kernel_rfl) rfl #[.agg #[.slice Ao19 t105.length co19, .slice Ao22 t108.length co22, .int .i64 t111], .string a2, .slice Ao59 t118.length co59, .int .i64 a4] (by rfl) rfl rfl z9_ ?_
      with_reducible refine (pre_Answer_Lets.calls _ _ t105 _ _ t108 t111 a2 _ _ t118 a4 false _ ?gw30_ ?side1c16 ?side2c16 ?side3c16 ?side4c16 ?side5c16 ?side6c16 A31.out).mono ?_
      case gw30_ => exact z0_
      (case side1c16 => repeat (first | exact (Kd.V_reads' HO107.out).2.2 | (with_reducible refine Kd.C_alloc ?_ _) | (with_reducible refine Kd.C_drewN ?_ _) | (with_reducible refine Kd.C_drew ?_)))
      (case side2c16 => exact (Kd.V_reads' HO107.out).2.1)
      (case side3c16 => repeat (first | exact (Kd.V_reads' HO110.out).2.2 | (with_reducible refine Kd.C_alloc ?_ _) | (with_reducible refine Kd.C_drewN ?_ _) | (with_reducible refine Kd.C_drew ?_)))
      (case side4c16 => exact (Kd.V_reads' HO110.out).2.1)
      (case side5c16 => repeat (first | exact (Kd.V_reads' HO120.out).2.2 | (with_reducible refine Kd.C_alloc ?_ _) | (with_reducible refine Kd.C_drewN ?_ _) | (with_reducible refine Kd.C_drew ?_)))
      (case side6c16 => exact (Kd.V_reads' HO120.out).2.1)
      rintro e w62 ⟨rfl, hb⟩
      refine ⟨_, rfl, ?_⟩
      have n0_ := Aside0.mk (Kd.V_below z23_ hb)
      have n1_ := Aside0.mk (Kd.V_below z24_ hb)
      have n2_ := Aside0.mk (Kd.V_below z21_ hb)
      have n3_ := Aside0.mk (Kd.V_below z25_ hb)
      have n4_ := Aside0.mk (Kd.V_below z22_ hb)
      have n5_ := Aside0.mk (blk_below (g := gb101) (o := .cells #[.int .i64 a0_0, .slice Ao15 t102.length co15, .string a0_2] 30 (0, 0)) z15_ hb)
      have n6_ := Aside0.mk (blk_below (g := gb113) (o := .cells #[.slice Ao19 t105.length co19, .slice Ao22 t108.length co22, .int .i64 t111] 33 (0, 0)) z16_ hb)
      have n7_ := Aside0.mk (below_step z5_ hb)
      clear HO104; clear HO107; clear HO110; clear HO117; clear HO120; clear BK101; clear BK113; clear HB
      have HO104 := n0_
      have HO107 := n1_
      have HO110 := n2_
      have HO117 := n3_
      have HO120 := n4_
      have BK101 := n5_
      have BK113 := n6_
      have HB := n7_
      clear n0_ n1_ n2_ n3_ n4_ n5_ n6_ n7_
      (try clear hb)
      (try clear hb2)
      (try clear hk)
      (try clear hi)
      refine hK.out _ _ ⟨(blk_cell BK113.out 0).trans rfl, (blk_cell BK113.out 1).trans rfl, (blk_cell BK113.out 2).trans rfl⟩ (fun hHeld => ?_)
      clear hK K
      refine norm_ (a' := ?_) ?_ ?_
      rotate_left
      ·show Act.put _ (some 60) _ = _
       simp only [Act.put, List.setIfInBounds_toArray, List.set_cons_zero, List.set_cons_succ, i64_w, i32_w]
       rfl
      refine pz_ 17 61 (tb_ 39 262143) HT_.out ?_
      refine pu_ 18 62 (tb_ 39 524287) HT_.out ?_
      refine pu_ 19 63 (tb_ 39 1048575) HT_.out ?_
      refine pu_ 20 64 (tb_ 39 2097151) HT_.out ?_
      refine pu_ 21 65 (tb_ 39 4194303) HT_.out ?_
      refine pu_ 22 66 (tb_ 39 8388607) HT_.out ?_
      refine pu_ 23 67 (tb_ 39 16777215) HT_.out ?_
      refine pu_ 24 68 (tb_ 39 33554431) HT_.out ?_
      refine pu_ 25 69 (tb_ 39 67108863) HT_.out ?_
      refine pu_ 26 70 (tb_ 39 134217727) HT_.out ?_
      refine pu_ 27 71 (tb_ 39 268435455) HT_.out ?_
      refine pu_ 28 72 (tb_ 39 536870911) HT_.out ?_
      refine pu_ 29 73 (tb_ 39 1073741823) HT_.out ?_
      refine pu_ 30 74 (tb_ 39 2147483647) HT_.out ?_
      refine pu_ 31 75 (tb_ 39 4294967295) HT_.out ?_
      refine pu_ 32 76 (tb_ 39 8589934591) HT_.out ?_
      refine pu_ 33 77 (tb_ 39 17179869183) HT_.out ?_
      refine pu_ 34 78 (tb_ 39 34359738367) HT_.out ?_
      refine pu_ 35 79 (tb_ 39 68719476735) HT_.out ?_
      refine pu_ 36 80 (tb_ 39 137438953471) HT_.out ?_
      refine pz_ 37 81 (tb_ 39 274877906943) HT_.out ?_
      refine pz_ 38 82 (tb_ 39 549755813887) HT_.out ?_
      refine done_ (done_of HT_.out (by kernel_rfl)) ?_
      try go_wp2
      go_meet
      case rel => exact ⟨_, (false), z29_, H', ⟨z33_⟩, ⟨z22_⟩, ⟨z23_⟩, ⟨z24_⟩, ⟨z21_⟩, ⟨z15_⟩, ⟨z16_⟩, ⟨z5_⟩⟩
    ·replace c30 := Bool.eq_false_iff.mpr c30
     subst c30
     have H1 : (pursuivantlaw14_PreMore.j0 k a2 l3 a4 t118 true t105 t108 t111) = some r := by rw [if_neg (show ¬ (false = true) by decide)] at H; exact H
     clear H
     have H := H1
     clear H1
     have H' := Aside0.mk H
     clear H
     try go_wp2
     have n0_ := Aside0.mk (Kd.V_drew HO104.out)
     have n1_ := Aside0.mk (Kd.V_drew HO107.out)
     have n2_ := Aside0.mk (Kd.V_drew HO110.out)
     have n3_ := Aside0.mk (Kd.V_drew HO117.out)
     have n4_ := Aside0.mk (Kd.V_drew HO120.out)
     have n5_ := Aside0.mk (blk_drew BK101.out)
     have n6_ := Aside0.mk (blk_drew BK113.out)
     have n7_ := Aside0.mk (below_drew1 HB.out)
     clear HO104; clear HO107; clear HO110; clear HO117; clear HO120; clear BK101; clear BK113; clear HB
     have HO104 := n0_
     have HO107 := n1_
     have HO110 := n2_
     have HO117 := n3_
     have HO120 := n4_
     have BK101 := n5_
     have BK113 := n6_
     have HB := n7_
     clear n0_ n1_ n2_ n3_ n4_ n5_ n6_ n7_
     obtain ⟨Ao64, co64, eo64⟩ := Kd.V_slice HO120.out
     (first | subst eo64 | (injection eo64 with f1_ f2_ f3_; have f4_ := f1_.symm; have f5_ := f3_.symm; clear f1_ f2_ f3_; subst f4_; subst f5_))
     refine start_ (n := 39) (S := fun w' => w'.cell? ⟨gb113, 0, none⟩ = some (.slice Ao19 t105.length co19) ∧ w'.cell? ⟨gb113, 1, none⟩ = some (.slice Ao22 t108.length co22) ∧ w'.cell? ⟨gb113, 2, none⟩ = some (.int .i64 t111)) (ds := []) (tb_ 39 0) (by kernel_rfl) rfl rfl ⟨(blk_cell BK113.out 0).trans rfl, (blk_cell BK113.out 1).trans rfl, (blk_cell BK113.out 2).trans rfl⟩ (fun hHeld => ?_); refine with_tabW pursuivantlaw14_PreMore.tab6 pursuivantlaw14_PreMore.bits6 (fun HT_ HW_ => ?_)
     generalize w26.drew = w63 at HO104 HO107 HO110 HO117 HO120 BK101 BK113 HB hHeld ⊢
     refine pz_ 1 45 (tb_ 39 2) HT_.out ?_
     refine pz_ 2 46 (tb_ 39 6) HT_.out ?_
     refine tz3_ 0 44 (tb_ 39 7) HT_.out HW_.out hHeld ?_
     refine one_ (i := 3) (N := some 47) (tb_ 39 15) rfl rfl (one_of HT_.out (by kernel_rfl)) (by decide) (fun K hK => ?_)
     refine goes_ Tryz.func16 (by kernel_rfl) rfl #[.agg #[.slice Ao19 t105.length co19, .slice Ao22 t108.length co22, .int .i64 t111], .string a2, .slice Ao64 t118.length co64, .int .i64 3] (by rfl) rfl rfl z9_ ?_
     with_reducible refine (pre_Answer_Lets.calls _ _ t105 _ _ t108 t111 a2 _ _ t118 3 true _ ?gw31_ ?side1c17 ?side2c17 ?side3c17 ?side4c17 ?side5c17 ?side6c17 A27.out).mono ?_
     case gw31_ => exact z0_
     (case side1c17 => repeat (first | exact (Kd.V_reads' HO107.out).2.2 | (with_reducible refine Kd.C_alloc ?_ _) | (with_reducible refine Kd.C_drewN ?_ _) | (with_reducible refine Kd.C_drew ?_)))
     (case side2c17 => exact (Kd.V_reads' HO107.out).2.1)
     (case side3c17 => repeat (first | exact (Kd.V_reads' HO110.out).2.2 | (with_reducible refine Kd.C_alloc ?_ _) | (with_reducible refine Kd.C_drewN ?_ _) | (with_reducible refine Kd.C_drew ?_)))
     (case side4c17 => exact (Kd.V_reads' HO110.out).2.1)
     (case side5c17 => repeat (first | exact (Kd.V_reads' HO120.out).2.2 | (with_reducible refine Kd.C_alloc ?_ _) | (with_reducible refine Kd.C_drewN ?_ _) | (with_reducible refine Kd.C_drew ?_)))
     (case side6c17 => exact (Kd.V_reads' HO120.out).2.1)
     rintro e w65 ⟨rfl, hb⟩
     refine ⟨_, rfl, ?_⟩
     have n0_ := Aside0.mk (Kd.V_below z23_ hb)
     have n1_ := Aside0.mk (Kd.V_below z24_ hb)
     have n2_ := Aside0.mk (Kd.V_below z21_ hb)
     have n3_ := Aside0.mk (Kd.V_below z25_ hb)
     have n4_ := Aside0.mk (Kd.V_below z22_ hb)
     have n5_ := Aside0.mk (blk_below (g := gb101) (o := .cells #[.int .i64 a0_0, .slice Ao15 t102.length co15, .string a0_2] 30 (0, 0)) z15_ hb)
     have n6_ := Aside0.mk (blk_below (g := gb113) (o := .cells #[.slice Ao19 t105.length co19, .slice Ao22 t108.length co22, .int .i64 t111] 33 (0, 0)) z16_ hb)
     have n7_ := Aside0.mk (below_step z5_ hb)
     clear HO104; clear HO107; clear HO110; clear HO117; clear HO120; clear BK101; clear BK113; clear HB
     have HO104 := n0_
     have HO107 := n1_
     have HO110 := n2_
     have HO117 := n3_
     have HO120 := n4_
     have BK101 := n5_
     have BK113 := n6_
     have HB := n7_
     clear n0_ n1_ n2_ n3_ n4_ n5_ n6_ n7_
     (try clear hb)
     (try clear hb2)
     (try clear hk)
     (try clear hi)
     refine hK.out _ _ ⟨(blk_cell BK113.out 0).trans rfl, (blk_cell BK113.out 1).trans rfl, (blk_cell BK113.out 2).trans rfl⟩ (fun hHeld => ?_)
     clear hK K
     refine norm_ (a' := ?_) ?_ ?_
     rotate_left
     ·show Act.put _ (some 47) _ = _
      simp only [Act.put, List.setIfInBounds_toArray, List.set_cons_zero, List.set_cons_succ, i64_w, i32_w]
      rfl
     refine pz_ 4 48 (tb_ 39 31) HT_.out ?_
     refine pz_ 6 50 (tb_ 39 95) HT_.out ?_
     refine pz_ 7 51 (tb_ 39 223) HT_.out ?_
     refine tz3_ 5 49 (tb_ 39 255) HT_.out HW_.out hHeld ?_
     refine one_ (i := 8) (N := some 52) (tb_ 39 511) rfl rfl (one_of HT_.out (by kernel_rfl)) (by decide) (fun K hK => ?_)
     refine goes_ Tryz.func16 (by kernel_rfl) rfl #[.agg #[.slice Ao19 t105.length co19, .slice Ao22 t108.length co22, .int .i64 t111], .string a2, .slice Ao64 t118.length co64, .int .i64 1] (by rfl) rfl rfl z9_ ?_
     with_reducible refine (pre_Answer_Lets.calls _ _ t105 _ _ t108 t111 a2 _ _ t118 1 false _ ?gw32_ ?side1c18 ?side2c18 ?side3c18 ?side4c18 ?side5c18 ?side6c18 A29.out).mono ?_
     case gw32_ => exact z0_
     (case side1c18 => repeat (first | exact (Kd.V_reads' HO107.out).2.2 | (with_reducible refine Kd.C_alloc ?_ _) | (with_reducible refine Kd.C_drewN ?_ _) | (with_reducible refine Kd.C_drew ?_)))
     (case side2c18 => exact (Kd.V_reads' HO107.out).2.1)
     (case side3c18 => repeat (first | exact (Kd.V_reads' HO110.out).2.2 | (with_reducible refine Kd.C_alloc ?_ _) | (with_reducible refine Kd.C_drewN ?_ _) | (with_reducible refine Kd.C_drew ?_)))
     (case side4c18 => exact (Kd.V_reads' HO110.out).2.1)
     (case side5c18 => repeat (first | exact (Kd.V_reads' HO120.out).2.2 | (with_reducible refine Kd.C_alloc ?_ _) | (with_reducible refine Kd.C_drewN ?_ _) | (with_reducible refine Kd.C_drew ?_)))
     (case side6c18 => exact (Kd.V_reads' HO120.out).2.1)
     rintro e w66 ⟨rfl, hb⟩
     refine ⟨_, rfl, ?_⟩
     have n0_ := Aside0.mk (Kd.V_below z23_ hb)
     have n1_ := Aside0.mk (Kd.V_below z24_ hb)
     have n2_ := Aside0.mk (Kd.V_below z21_ hb)
     have n3_ := Aside0.mk (Kd.V_below z25_ hb)
     have n4_ := Aside0.mk (Kd.V_below z22_ hb)
     have n5_ := Aside0.mk (blk_below (g := gb101) (o := .cells #[.int .i64 a0_0, .slice Ao15 t102.length co15, .string a0_2] 30 (0, 0)) z15_ hb)
     have n6_ := Aside0.mk (blk_below (g := gb113) (o := .cells #[.slice Ao19 t105.length co19, .slice Ao22 t108.length co22, .int .i64 t111] 33 (0, 0)) z16_ hb)
     have n7_ := Aside0.mk (below_step z5_ hb)
     clear HO104; clear HO107; clear HO110; clear HO117; clear HO120; clear BK101; clear BK113; clear HB
     have HO104 := n0_
     have HO107 := n1_
     have HO110 := n2_
     have HO117 := n3_
     have HO120 := n4_
     have BK101 := n5_
     have BK113 := n6_
     have HB := n7_
     clear n0_ n1_ n2_ n3_ n4_ n5_ n6_ n7_
     (try clear hb)
     (try clear hb2)
     (try clear hk)
     (try clear hi)
     refine hK.out _ _ ⟨(blk_cell BK113.out 0).trans rfl, (blk_cell BK113.out 1).trans rfl, (blk_cell BK113.out 2).trans rfl⟩ (fun hHeld => ?_)
     clear hK K
     refine norm_ (a' := ?_) ?_ ?_
     rotate_left
     ·show Act.put _ (some 52) _ = _
      simp only [Act.put, List.setIfInBounds_toArray, List.set_cons_zero, List.set_cons_succ, i64_w, i32_w]
      rfl
     refine pz_ 9 53 (tb_ 39 1023) HT_.out ?_
     refine pz_ 10 54 (tb_ 39 2047) HT_.out ?_
     refine pz_ 11 55 (tb_ 39 4095) HT_.out ?_
     refine pu_ 12 56 (tb_ 39 8191) HT_.out ?_
     refine pu_ 13 57 (tb_ 39 16383) HT_.out ?_
     refine pu_ 14 58 (tb_ 39 32767) HT_.out ?_
     refine pu_ 15 59 (tb_ 39 65535) HT_.out ?_
     refine pu_ 16 60 (tb_ 39 131071) HT_.out ?_
     refine pu_ 17 61 (tb_ 39 262143) HT_.out ?_
     refine pu_ 18 62 (tb_ 39 524287) HT_.out ?_
     refine pu_ 19 63 (tb_ 39 1048575) HT_.out ?_
     refine pu_ 20 64 (tb_ 39 2097151) HT_.out ?_
     refine pu_ 21 65 (tb_ 39 4194303) HT_.out ?_
     refine pu_ 22 66 (tb_ 39 8388607) HT_.out ?_
     refine pu_ 23 67 (tb_ 39 16777215) HT_.out ?_
     refine pu_ 24 68 (tb_ 39 33554431) HT_.out ?_
     refine pu_ 25 69 (tb_ 39 67108863) HT_.out ?_
     refine pu_ 26 70 (tb_ 39 134217727) HT_.out ?_
     refine pu_ 27 71 (tb_ 39 268435455) HT_.out ?_
     refine pu_ 28 72 (tb_ 39 536870911) HT_.out ?_
     refine pu_ 29 73 (tb_ 39 1073741823) HT_.out ?_
     refine pu_ 30 74 (tb_ 39 2147483647) HT_.out ?_
     refine pu_ 31 75 (tb_ 39 4294967295) HT_.out ?_
     refine pu_ 32 76 (tb_ 39 8589934591) HT_.out ?_
     refine pu_ 33 77 (tb_ 39 17179869183) HT_.out ?_
     refine pu_ 34 78 (tb_ 39 34359738367) HT_.out ?_
     refine pu_ 35 79 (tb_ 39 68719476735) HT_.out ?_
     refine pu_ 36 80 (tb_ 39 137438953471) HT_.out ?_
     refine pu_ 37 81 (tb_ 39 274877906943) HT_.out ?_
     refine pz_ 38 82 (tb_ 39 549755813887) HT_.out ?_
     refine done_ (done_of HT_.out (by kernel_rfl)) ?_
     try go_wp2
     go_meet
     case rel => exact ⟨_, (true), z29_, H', ⟨z33_⟩, ⟨z22_⟩, ⟨z23_⟩, ⟨z24_⟩, ⟨z21_⟩, ⟨z15_⟩, ⟨z16_⟩, ⟨z5_⟩⟩
   ·replace c28 := Bool.eq_false_iff.mpr c28
    subst c28
    have H1 : ((pre_Answer_Lets.f t105 t108 t111 a2 t118 a4).bind fun t131 => (if t131 = true then ((pre_Answer_Lets.f t105 t108 t111 a2 ([] : List ByteArray) a4).bind fun t132 => (if t132 = true then (if (t118.length : Int) > 0 then (if 1 ≤ (t118.length : Int) then ((pre_Answer_Lets.f t105 t108 t111 a2 (t118.drop 1) a4).bind fun t138 => (pursuivantlaw14_PreMore.j0 k a2 l3 a4 t118 (!t138) t105 t108 t111)) else (none)) else (pursuivantlaw14_PreMore.j0 k a2 l3 a4 t118 false t105 t108 t111)) else (pursuivantlaw14_PreMore.j0 k a2 l3 a4 t118 true t105 t108 t111))) else (pursuivantlaw14_PreMore.j0 k a2 l3 a4 t118 false t105 t108 t111))) = some r := by rw [if_neg (show ¬ (false = true) by decide)] at H; exact H
    clear H
    have H := H1
    clear H1
    replace H := Option.bind_eq_some_iff.mp H
    obtain ⟨t131, A670, H⟩ := H
    replace H : (if t131 = true then ((pre_Answer_Lets.f t105 t108 t111 a2 ([] : List ByteArray) a4).bind fun t132 => (if t132 = true then (if (t118.length : Int) > 0 then (if 1 ≤ (t118.length : Int) then ((pre_Answer_Lets.f t105 t108 t111 a2 (t118.drop 1) a4).bind fun t138 => (pursuivantlaw14_PreMore.j0 k a2 l3 a4 t118 (!t138) t105 t108 t111)) else (none)) else (pursuivantlaw14_PreMore.j0 k a2 l3 a4 t118 false t105 t108 t111)) else (pursuivantlaw14_PreMore.j0 k a2 l3 a4 t118 true t105 t108 t111))) else (pursuivantlaw14_PreMore.j0 k a2 l3 a4 t118 false t105 t108 t111)) = some r := H
    have A67 := Aside0.mk A670; clear A670
    by_cases c68 : t131 = true
    ·subst c68
     have H1 : ((pre_Answer_Lets.f t105 t108 t111 a2 ([] : List ByteArray) a4).bind fun t132 => (if t132 = true then (if (t118.length : Int) > 0 then (if 1 ≤ (t118.length : Int) then ((pre_Answer_Lets.f t105 t108 t111 a2 (t118.drop 1) a4).bind fun t138 => (pursuivantlaw14_PreMore.j0 k a2 l3 a4 t118 (!t138) t105 t108 t111)) else (none)) else (pursuivantlaw14_PreMore.j0 k a2 l3 a4 t118 false t105 t108 t111)) else (pursuivantlaw14_PreMore.j0 k a2 l3 a4 t118 true t105 t108 t111))) = some r := by rw [if_pos rfl] at H; exact H
     clear H
     have H := H1
     clear H1
     replace H := Option.bind_eq_some_iff.mp H
     obtain ⟨t132, A690, H⟩ := H
     replace H : (if t132 = true then (if (t118.length : Int) > 0 then (if 1 ≤ (t118.length : Int) then ((pre_Answer_Lets.f t105 t108 t111 a2 (t118.drop 1) a4).bind fun t138 => (pursuivantlaw14_PreMore.j0 k a2 l3 a4 t118 (!t138) t105 t108 t111)) else (none)) else (pursuivantlaw14_PreMore.j0 k a2 l3 a4 t118 false t105 t108 t111)) else (pursuivantlaw14_PreMore.j0 k a2 l3 a4 t118 true t105 t108 t111)) = some r := H
     have A69 := Aside0.mk A690; clear A690
     by_cases c70 : t132 = true
     ·subst c70
      have H1 : (if (t118.length : Int) > 0 then (if 1 ≤ (t118.length : Int) then ((pre_Answer_Lets.f t105 t108 t111 a2 (t118.drop 1) a4).bind fun t138 => (pursuivantlaw14_PreMore.j0 k a2 l3 a4 t118 (!t138) t105 t108 t111)) else (none)) else (pursuivantlaw14_PreMore.j0 k a2 l3 a4 t118 false t105 t108 t111)) = some r := by rw [if_pos rfl] at H; exact H
      clear H
      have H := H1
      clear H1
      by_cases c71 : (t118.length : Int) > 0
      ·rw [if_pos c71] at H
       have c71b0 : decide (0 < (t118.length : Int)) = true := decide_eq_true c71
       have c71b1 : decide (0 < t118.length) = true := decide_eq_true (by omega)
       clear c71
       by_cases c72 : 1 ≤ (t118.length : Int)
       ·rw [if_pos c72] at H
        have c72b0 := eq_true c72; have c72b1 : decide (1 ≤ (t118.length : Int)) = true := decide_eq_true c72; clear c72
        obtain ⟨y133, hy133⟩ : ∃ y_ : List ByteArray, y_ = (t118.drop 1) := ⟨_, rfl⟩
        replace H : ((pre_Answer_Lets.f t105 t108 t111 a2 y133 a4).bind fun t138 => (pursuivantlaw14_PreMore.j0 k a2 l3 a4 t118 (!t138) t105 t108 t111)) = some r := by first | (rw [hy133]; with_reducible exact H) | (have H2_ := (Option.bind_some _ _).symm.trans H; rw [hy133]; with_reducible exact H2_) | (have H2_ := (Option.bind_some _ _).symm.trans H; with_reducible exact H2_) | with_reducible exact H | (rw [hy133]; exact H) | exact H
        have Ny133 := Aside0.mk hy133; clear hy133
        replace H := Option.bind_eq_some_iff.mp H
        obtain ⟨t138, A730, H⟩ := H
        replace H : (pursuivantlaw14_PreMore.j0 k a2 l3 a4 t118 (!t138) t105 t108 t111) = some r := H
        have A73 := Aside0.mk A730; clear A730
        have H' := Aside0.mk H
        clear H
        try go_wp2
        have n0_ := Aside0.mk (Kd.V_drew HO104.out)
        have n1_ := Aside0.mk (Kd.V_drew HO107.out)
        have n2_ := Aside0.mk (Kd.V_drew HO110.out)
        have n3_ := Aside0.mk (Kd.V_drew HO117.out)
        have n4_ := Aside0.mk (Kd.V_drew HO120.out)
        have n5_ := Aside0.mk (blk_drew BK101.out)
        have n6_ := Aside0.mk (blk_drew BK113.out)
        have n7_ := Aside0.mk (below_drew1 HB.out)
        clear HO104; clear HO107; clear HO110; clear HO117; clear HO120; clear BK101; clear BK113; clear HB
        have HO104 := n0_
        have HO107 := n1_
        have HO110 := n2_
        have HO117 := n3_
        have HO120 := n4_
        have BK101 := n5_
        have BK113 := n6_
        have HB := n7_
        clear n0_ n1_ n2_ n3_ n4_ n5_ n6_ n7_
        obtain ⟨Ao75, co75, eo75⟩ := Kd.V_slice HO120.out
        (first | subst eo75 | (injection eo75 with f1_ f2_ f3_; have f4_ := f1_.symm; have f5_ := f3_.symm; clear f1_ f2_ f3_; subst f4_; subst f5_))
        refine start_ (n := 39) (S := fun w' => w'.cell? ⟨gb113, 0, none⟩ = some (.slice Ao19 t105.length co19) ∧ w'.cell? ⟨gb113, 1, none⟩ = some (.slice Ao22 t108.length co22) ∧ w'.cell? ⟨gb113, 2, none⟩ = some (.int .i64 t111)) (ds := []) (tb_ 39 0) (by kernel_rfl) rfl rfl ⟨(blk_cell BK113.out 0).trans rfl, (blk_cell BK113.out 1).trans rfl, (blk_cell BK113.out 2).trans rfl⟩ (fun hHeld => ?_); refine with_tabW pursuivantlaw14_PreMore.tab6 pursuivantlaw14_PreMore.bits6 (fun HT_ HW_ => ?_)
        generalize w26.drew = w74 at HO104 HO107 HO110 HO117 HO120 BK101 BK113 HB hHeld ⊢
        refine pz_ 1 45 (tb_ 39 2) HT_.out ?_
        refine pz_ 2 46 (tb_ 39 6) HT_.out ?_
        refine tz3_ 0 44 (tb_ 39 7) HT_.out HW_.out hHeld ?_
        refine one_ (i := 3) (N := some 47) (tb_ 39 15) rfl rfl (one_of HT_.out (by kernel_rfl)) (by decide) (fun K hK => ?_)
        refine goes_ Tryz.func16 (by kernel_rfl) rfl #[.agg #[.slice Ao19 t105.length co19, .slice Ao22 t108.length co22, .int .i64 t111], .string a2, .slice Ao75 t118.length co75, .int .i64 3] (by rfl) rfl rfl z9_ ?_
        with_reducible refine (pre_Answer_Lets.calls _ _ t105 _ _ t108 t111 a2 _ _ t118 3 false _ ?gw33_ ?side1c19 ?side2c19 ?side3c19 ?side4c19 ?side5c19 ?side6c19 A27.out).mono ?_
        case gw33_ => exact z0_
        (case side1c19 => repeat (first | exact (Kd.V_reads' HO107.out).2.2 | (with_reducible refine Kd.C_alloc ?_ _) | (with_reducible refine Kd.C_drewN ?_ _) | (with_reducible refine Kd.C_drew ?_)))
        (case side2c19 => exact (Kd.V_reads' HO107.out).2.1)
        (case side3c19 => repeat (first | exact (Kd.V_reads' HO110.out).2.2 | (with_reducible refine Kd.C_alloc ?_ _) | (with_reducible refine Kd.C_drewN ?_ _) | (with_reducible refine Kd.C_drew ?_)))
        (case side4c19 => exact (Kd.V_reads' HO110.out).2.1)
        (case side5c19 => repeat (first | exact (Kd.V_reads' HO120.out).2.2 | (with_reducible refine Kd.C_alloc ?_ _) | (with_reducible refine Kd.C_drewN ?_ _) | (with_reducible refine Kd.C_drew ?_)))
        (case side6c19 => exact (Kd.V_reads' HO120.out).2.1)
        rintro e w76 ⟨rfl, hb⟩
        refine ⟨_, rfl, ?_⟩
        have n0_ := Aside0.mk (Kd.V_below z23_ hb)
        have n1_ := Aside0.mk (Kd.V_below z24_ hb)
        have n2_ := Aside0.mk (Kd.V_below z21_ hb)
        have n3_ := Aside0.mk (Kd.V_below z25_ hb)
        have n4_ := Aside0.mk (Kd.V_below z22_ hb)
        have n5_ := Aside0.mk (blk_below (g := gb101) (o := .cells #[.int .i64 a0_0, .slice Ao15 t102.length co15, .string a0_2] 30 (0, 0)) z15_ hb)
        have n6_ := Aside0.mk (blk_below (g := gb113) (o := .cells #[.slice Ao19 t105.length co19, .slice Ao22 t108.length co22, .int .i64 t111] 33 (0, 0)) z16_ hb)
        have n7_ := Aside0.mk (below_step z5_ hb)
        clear HO104; clear HO107; clear HO110; clear HO117; clear HO120; clear BK101; clear BK113; clear HB
        have HO104 := n0_
        have HO107 := n1_
        have HO110 := n2_
        have HO117 := n3_
        have HO120 := n4_
        have BK101 := n5_
        have BK113 := n6_
        have HB := n7_
        clear n0_ n1_ n2_ n3_ n4_ n5_ n6_ n7_
        (try clear hb)
        (try clear hb2)
        (try clear hk)
        (try clear hi)
        refine hK.out _ _ ⟨(blk_cell BK113.out 0).trans rfl, (blk_cell BK113.out 1).trans rfl, (blk_cell BK113.out 2).trans rfl⟩ (fun hHeld => ?_)
        clear hK K
        refine norm_ (a' := ?_) ?_ ?_
        rotate_left
        ·show Act.put _ (some 47) _ = _
         simp only [Act.put, List.setIfInBounds_toArray, List.set_cons_zero, List.set_cons_succ, i64_w, i32_w]
         rfl
        refine pz_ 4 48 (tb_ 39 31) HT_.out ?_
        refine pu_ 5 49 (tb_ 39 63) HT_.out ?_
        refine pu_ 6 50 (tb_ 39 127) HT_.out ?_
        refine pu_ 7 51 (tb_ 39 255) HT_.out ?_
        refine pu_ 8 52 (tb_ 39 511) HT_.out ?_
        refine pu_ 9 53 (tb_ 39 1023) HT_.out ?_
        refine pz_ 10 54 (tb_ 39 2047) HT_.out ?_
        refine pz_ 11 55 (tb_ 39 4095) HT_.out ?_
        refine pz_ 13 57 (tb_ 39 12287) HT_.out ?_
        refine pz_ 14 58 (tb_ 39 28671) HT_.out ?_
        refine pz_ 15 59 (tb_ 39 61439) HT_.out ?_
        refine tz3_ 12 56 (tb_ 39 65535) HT_.out HW_.out hHeld ?_
        refine one_ (i := 16) (N := some 60) (tb_ 39 131071) rfl rfl (one_of HT_.out (by kernel_rfl)) (by decide) (fun K hK => ?_)
        refine goes_ Tryz.func16 (by kernel_rfl) rfl #[.agg #[.slice Ao19 t105.length co19, .slice Ao22 t108.length co22, .int .i64 t111], .string a2, .slice Ao75 t118.length co75, .int .i64 a4] (by rfl) rfl rfl z9_ ?_
        with_reducible refine (pre_Answer_Lets.calls _ _ t105 _ _ t108 t111 a2 _ _ t118 a4 true _ ?gw34_ ?side1c20 ?side2c20 ?side3c20 ?side4c20 ?side5c20 ?side6c20 A67.out).mono ?_
        case gw34_ => exact z0_
        (case side1c20 => repeat (first | exact (Kd.V_reads' HO107.out).2.2 | (with_reducible refine Kd.C_alloc ?_ _) | (with_reducible refine Kd.C_drewN ?_ _) | (with_reducible refine Kd.C_drew ?_)))
        (case side2c20 => exact (Kd.V_reads' HO107.out).2.1)
        (case side3c20 => repeat (first | exact (Kd.V_reads' HO110.out).2.2 | (with_reducible refine Kd.C_alloc ?_ _) | (with_reducible refine Kd.C_drewN ?_ _) | (with_reducible refine Kd.C_drew ?_)))
        (case side4c20 => exact (Kd.V_reads' HO110.out).2.1)
        (case side5c20 => repeat (first | exact (Kd.V_reads' HO120.out).2.2 | (with_reducible refine Kd.C_alloc ?_ _) | (with_reducible refine Kd.C_drewN ?_ _) | (with_reducible refine Kd.C_drew ?_)))
        (case side6c20 => exact (Kd.V_reads' HO120.out).2.1)
        rintro e w77 ⟨rfl, hb⟩
        refine ⟨_, rfl, ?_⟩
        have n0_ := Aside0.mk (Kd.V_below z23_ hb)
        have n1_ := Aside0.mk (Kd.V_below z24_ hb)
        have n2_ := Aside0.mk (Kd.V_below z21_ hb)
        have n3_ := Aside0.mk (Kd.V_below z25_ hb)
        have n4_ := Aside0.mk (Kd.V_below z22_ hb)
        have n5_ := Aside0.mk (blk_below (g := gb101) (o := .cells #[.int .i64 a0_0, .slice Ao15 t102.length co15, .string a0_2] 30 (0, 0)) z15_ hb)
        have n6_ := Aside0.mk (blk_below (g := gb113) (o := .cells #[.slice Ao19 t105.length co19, .slice Ao22 t108.length co22, .int .i64 t111] 33 (0, 0)) z16_ hb)
        have n7_ := Aside0.mk (below_step z5_ hb)
        clear HO104; clear HO107; clear HO110; clear HO117; clear HO120; clear BK101; clear BK113; clear HB
        have HO104 := n0_
        have HO107 := n1_
        have HO110 := n2_
        have HO117 := n3_
        have HO120 := n4_
        have BK101 := n5_
        have BK113 := n6_
        have HB := n7_
        clear n0_ n1_ n2_ n3_ n4_ n5_ n6_ n7_
        (try clear hb)
        (try clear hb2)
        (try clear hk)
        (try clear hi)
        refine hK.out _ _ ⟨(blk_cell BK113.out 0).trans rfl, (blk_cell BK113.out 1).trans rfl, (blk_cell BK113.out 2).trans rfl⟩ (fun hHeld => ?_)
        clear hK K
        refine norm_ (a' := ?_) ?_ ?_
        rotate_left
        ·show Act.put _ (some 60) _ = _
         simp only [Act.put, List.setIfInBounds_toArray, List.set_cons_zero, List.set_cons_succ, i64_w, i32_w]
         rfl
        refine pz_ 17 61 (tb_ 39 262143) HT_.out ?_
        refine pz_ 19 63 (tb_ 39 786431) HT_.out ?_
        refine pz_ 20 64 (tb_ 39 1835007) HT_.out ?_
        refine tz3_ 18 62 (tb_ 39 2097151) HT_.out HW_.out hHeld ?_
        refine one_ (i := 21) (N := some 65) (tb_ 39 4194303) rfl rfl (one_of HT_.out (by kernel_rfl)) (by decide) (fun K hK => ?_)
        refine goes_ Tryz.func16 (by kernel_rfl) rfl #[.agg #[.slice Ao19 t105.length co19, .slice Ao22 t108.length co22, .int .i64 t111], .string a2, .slice none 0 0, .int .i64 a4] (by rfl) rfl rfl z9_ ?_
        refine (pre_Answer_Lets.calls _ _ t105 _ _ t108 t111 a2 _ _ ([] : List ByteArray) a4 true _ ?gw35_ ?side1c21 ?side2c21 ?side3c21 ?side4c21 ?side5c21 ?side6c21 A69.out).mono ?_
        case gw35_ => exact z0_
        (case side1c21 => repeat (first | exact (Kd.V_reads' HO107.out).2.2 | (with_reducible refine Kd.C_alloc ?_ _) | (with_reducible refine Kd.C_drewN ?_ _) | (with_reducible refine Kd.C_drew ?_)))
        (case side2c21 => exact (Kd.V_reads' HO107.out).2.1)
        (case side3c21 => repeat (first | exact (Kd.V_reads' HO110.out).2.2 | (with_reducible refine Kd.C_alloc ?_ _) | (with_reducible refine Kd.C_drewN ?_ _) | (with_reducible refine Kd.C_drew ?_)))
        (case side4c21 => exact (Kd.V_reads' HO110.out).2.1)
        (case side5c21 => exact Kd.C_nil _ _)
        (case side6c21 => exact Nat.le_refl _)
        rintro e w78 ⟨rfl, hb⟩
        refine ⟨_, rfl, ?_⟩
        have n0_ := Aside0.mk (Kd.V_below z23_ hb)
        have n1_ := Aside0.mk (Kd.V_below z24_ hb)
        have n2_ := Aside0.mk (Kd.V_below z21_ hb)
        have n3_ := Aside0.mk (Kd.V_below z25_ hb)
        have n4_ := Aside0.mk (Kd.V_below z22_ hb)
        have n5_ := Aside0.mk (blk_below (g := gb101) (o := .cells #[.int .i64 a0_0, .slice Ao15 t102.length co15, .string a0_2] 30 (0, 0)) z15_ hb)
        have n6_ := Aside0.mk (blk_below (g := gb113) (o := .cells #[.slice Ao19 t105.length co19, .slice Ao22 t108.length co22, .int .i64 t111] 33 (0, 0)) z16_ hb)
        have n7_ := Aside0.mk (below_step z5_ hb)
        clear HO104; clear HO107; clear HO110; clear HO117; clear HO120; clear BK101; clear BK113; clear HB
        have HO104 := n0_
        have HO107 := n1_
        have HO110 := n2_
        have HO117 := n3_
        have HO120 := n4_
        have BK101 := n5_
        have BK113 := n6_
        have HB := n7_
        clear n0_ n1_ n2_ n3_ n4_ n5_ n6_ n7_
        (try clear hb)
        (try clear hb2)
        (try clear hk)
        (try clear hi)
        have q79 : (1 : Int) ≤ ((t118.length : Int) : Int) := of_decide_eq_true z32_
        obtain ⟨i079, hi079, _, hsz79, _⟩ := info_parts info9
        have hroom79 : t118.length ≤ co75 := (Kd.V_reads' HO120.out).2.1
        have hC79 : Kd.F Kd.string _ _ Ao75 t118.length t118 := (Kd.V_at (base := w.heap.size) HO120.out).2.2
        have hcut79 := cut_from (P := Tryz.prog) 31 9 .i64 Tryz.underlying31 hi079 1 hsz79 Ao75 t118.length co75 1 (by omega) q79
        have hr79 := Kd.F_cut (m := (1 : Int).toNat) (c := co75) hC79 (by omega) hroom79
        obtain ⟨A79, hA79⟩ : ∃ A1, A1 = (if co75 = (1 : Int).toNat then Ao75 else (Ao75 : Option Addr).map (·.add ((1 : Int).toNat * 1))) := ⟨_, rfl⟩
        obtain ⟨c79, hc79⟩ : ∃ c1, c1 = co75 - (1 : Int).toNat := ⟨_, rfl⟩
        have hy79 : y133.length = t118.length - (1 : Int).toNat := (by rw [Ny133.out, List.length_drop] <;> omega)
        rw [show (t118).drop (1 : Int).toNat = y133 from Ny133.out.symm] at hr79
        replace hr79 : Kd.F Kd.string _ _ A79 y133.length y133 := (by rw [hA79]; exact hr79)
        rw [← hy79, ← hA79, ← hc79] at hcut79
        have HO137 := Aside0.mk (show Kd.V Kd.string 9 _ w.heap.size _ (.slice A79 y133.length c79) y133 from Kd.V_mk (by rw [hy79, hc79]; exact Nat.sub_le_sub_right hroom79 _) hr79)
        have HC137 := Aside0.mk (show y133.length ≤ c79 from by rw [hy79, hc79]; exact Nat.sub_le_sub_right hroom79 _)
        clear hr79 hC79 hroom79 hi079 hsz79 hc79; have KY79 := Aside0.mk hy79; have KA79 := Aside0.mk hA79; clear hy79 hA79
        replace q79 := eq_true q79
        refine hK.out _ _ ⟨(blk_cell BK113.out 0).trans rfl, (blk_cell BK113.out 1).trans rfl, (blk_cell BK113.out 2).trans rfl⟩ (fun hHeld => ?_)
        clear hK K
        refine norm_ (a' := ?_) ?_ ?_
        rotate_left
        ·show Act.put _ (some 65) _ = _
         simp only [Act.put, List.setIfInBounds_toArray, List.set_cons_zero, List.set_cons_succ, i64_w, i32_w]
         rfl
        refine pz_ 22 66 (tb_ 39 8388607) HT_.out ?_
        refine pz_ 23 67 (tb_ 39 16777215) HT_.out ?_
        refine pz_ 24 68 (tb_ 39 33554431) HT_.out ?_
        refine pz_ 25 69 (tb_ 39 67108863) HT_.out ?_
        refine pz_ 26 70 (tb_ 39 134217727) HT_.out ?_
        refine pz_ 27 71 (tb_ 39 268435455) HT_.out ?_
        refine pz_ 29 73 (tb_ 39 805306367) HT_.out ?_
        refine pz_ 30 74 (tb_ 39 1879048191) HT_.out ?_
        refine pz_ 31 75 (tb_ 39 4026531839) HT_.out ?_
        refine pz_ 32 76 (tb_ 39 8321499135) HT_.out ?_
        refine tz3_ 28 72 (tb_ 39 8589934591) HT_.out HW_.out hHeld ?_
        refine one_ (i := 33) (N := some 77) (tb_ 39 17179869183) rfl rfl (one_of HT_.out (by kernel_rfl)) (by decide) (fun K hK => ?_)
        refine goes_ Tryz.func16 (by kernel_rfl) rfl #[.agg #[.slice Ao19 t105.length co19, .slice Ao22 t108.length co22, .int .i64 t111], .string a2, .slice A79 y133.length c79, .int .i64 a4] (by rfl) rfl rfl z9_ ?_
        with_reducible refine (pre_Answer_Lets.calls _ _ t105 _ _ t108 t111 a2 _ _ y133 a4 t138 _ ?gw36_ ?side1c22 ?side2c22 ?side3c22 ?side4c22 ?side5c22 ?side6c22 A73.out).mono ?_
        case gw36_ => exact z0_
        (case side1c22 => repeat (first | exact (Kd.V_reads' HO107.out).2.2 | (with_reducible refine Kd.C_alloc ?_ _) | (with_reducible refine Kd.C_drewN ?_ _) | (with_reducible refine Kd.C_drew ?_)))
        (case side2c22 => exact (Kd.V_reads' HO107.out).2.1)
        (case side3c22 => repeat (first | exact (Kd.V_reads' HO110.out).2.2 | (with_reducible refine Kd.C_alloc ?_ _) | (with_reducible refine Kd.C_drewN ?_ _) | (with_reducible refine Kd.C_drew ?_)))
        (case side4c22 => exact (Kd.V_reads' HO110.out).2.1)
        (case side5c22 => repeat (first | exact (Kd.V_reads' HO137.out).2.2 | (with_reducible refine Kd.C_alloc ?_ _) | (with_reducible refine Kd.C_drewN ?_ _) | (with_reducible refine Kd.C_drew ?_)))
        (case side6c22 => exact (Kd.V_reads' HO137.out).2.1)
        rintro e w80 ⟨rfl, hb⟩
        refine ⟨_, rfl, ?_⟩
        have n0_ := Aside0.mk (Kd.V_below z23_ hb)
        have n1_ := Aside0.mk (Kd.V_below z24_ hb)
        have n2_ := Aside0.mk (Kd.V_below z21_ hb)
        have n3_ := Aside0.mk (Kd.V_below z25_ hb)
        have n4_ := Aside0.mk (Kd.V_below z22_ hb)
        have n5_ := Aside0.mk (Kd.V_below (by (with_reducible repeat (first | apply Kd.V_alloc | apply Kd.V_drewN | apply Kd.V_drew)); exact HO137.out) hb)
        have n6_ := Aside0.mk (blk_below (g := gb101) (o := .cells #[.int .i64 a0_0, .slice Ao15 t102.length co15, .string a0_2] 30 (0, 0)) z15_ hb)
        have n7_ := Aside0.mk (blk_below (g := gb113) (o := .cells #[.slice Ao19 t105.length co19, .slice Ao22 t108.length co22, .int .i64 t111] 33 (0, 0)) z16_ hb)
        have n8_ := Aside0.mk (below_step z5_ hb)
        clear HO104; clear HO107; clear HO110; clear HO117; clear HO120; clear HO137; clear BK101; clear BK113; clear HB
        have HO104 := n0_
        have HO107 := n1_
        have HO110 := n2_
        have HO117 := n3_
        have HO120 := n4_
        have HO137 := n5_
        have BK101 := n6_
        have BK113 := n7_
        have HB := n8_
        clear n0_ n1_ n2_ n3_ n4_ n5_ n6_ n7_ n8_
        (try clear hb)
        (try clear hb2)
        (try clear hk)
        (try clear hi)
        refine hK.out _ _ ⟨(blk_cell BK113.out 0).trans rfl, (blk_cell BK113.out 1).trans rfl, (blk_cell BK113.out 2).trans rfl⟩ (fun hHeld => ?_)
        clear hK K
        refine norm_ (a' := ?_) ?_ ?_
        rotate_left
        ·show Act.put _ (some 77) _ = _
         simp only [Act.put, List.setIfInBounds_toArray, List.set_cons_zero, List.set_cons_succ, i64_w, i32_w]
         rfl
        refine pz_ 34 78 (tb_ 39 34359738367) HT_.out ?_
        refine pz_ 35 79 (tb_ 39 68719476735) HT_.out ?_
        refine pz_ 36 80 (tb_ 39 137438953471) HT_.out ?_
        refine pz_ 37 81 (tb_ 39 274877906943) HT_.out ?_
        refine pz_ 38 82 (tb_ 39 549755813887) HT_.out ?_
        refine done_ (done_of HT_.out (by kernel_rfl)) ?_
        try go_wp2
        go_meet
        case rel => exact ⟨_, (!t138), z29_, H', ⟨z33_⟩, ⟨z22_⟩, ⟨z23_⟩, ⟨z24_⟩, ⟨z21_⟩, ⟨z15_⟩, ⟨z16_⟩, ⟨z5_⟩⟩
       ·rw [if_neg c72] at H
        exact absurd H (by simp)
      ·rw [if_neg c71] at H
       have c71b0 : decide (0 < (t118.length : Int)) = false := decide_eq_false c71
       have c71b1 : decide (0 < t118.length) = false := decide_eq_false (by omega)
       clear c71
       have H' := Aside0.mk H
       clear H
       try go_wp2
       have n0_ := Aside0.mk (Kd.V_drew HO104.out)
       have n1_ := Aside0.mk (Kd.V_drew HO107.out)
       have n2_ := Aside0.mk (Kd.V_drew HO110.out)
       have n3_ := Aside0.mk (Kd.V_drew HO117.out)
       have n4_ := Aside0.mk (Kd.V_drew HO120.out)
       have n5_ := Aside0.mk (blk_drew BK101.out)
       have n6_ := Aside0.mk (blk_drew BK113.out)
       have n7_ := Aside0.mk (below_drew1 HB.out)
       clear HO104; clear HO107; clear HO110; clear HO117; clear HO120; clear BK101; clear BK113; clear HB
       have HO104 := n0_
       have HO107 := n1_
       have HO110 := n2_
       have HO117 := n3_
       have HO120 := n4_
       have BK101 := n5_
       have BK113 := n6_
       have HB := n7_
       clear n0_ n1_ n2_ n3_ n4_ n5_ n6_ n7_
       obtain ⟨Ao82, co82, eo82⟩ := Kd.V_slice HO120.out
       (first | subst eo82 | (injection eo82 with f1_ f2_ f3_; have f4_ := f1_.symm; have f5_ := f3_.symm; clear f1_ f2_ f3_; subst f4_; subst f5_))
       refine start_ (n := 39) (S := fun w' => w'.cell? ⟨gb113, 0, none⟩ = some (.slice Ao19 t105.length co19) ∧ w'.cell? ⟨gb113, 1, none⟩ = some (.slice Ao22 t108.length co22) ∧ w'.cell? ⟨gb113, 2, none⟩ = some (.int .i64 t111)) (ds := []) (tb_ 39 0) (by kernel_rfl) rfl rfl ⟨(blk_cell BK113.out 0).trans rfl, (blk_cell BK113.out 1).trans rfl, (blk_cell BK113.out 2).trans rfl⟩ (fun hHeld => ?_); refine with_tabW pursuivantlaw14_PreMore.tab6 pursuivantlaw14_PreMore.bits6 (fun HT_ HW_ => ?_)
       generalize w26.drew = w81 at HO104 HO107 HO110 HO117 HO120 BK101 BK113 HB hHeld ⊢
       refine pz_ 1 45 (tb_ 39 2) HT_.out ?_
       refine pz_ 2 46 (tb_ 39 6) HT_.out ?_
       refine tz3_ 0 44 (tb_ 39 7) HT_.out HW_.out hHeld ?_
       refine one_ (i := 3) (N := some 47) (tb_ 39 15) rfl rfl (one_of HT_.out (by kernel_rfl)) (by decide) (fun K hK => ?_)
       refine goes_ Tryz.func16 (by kernel_rfl) rfl #[.agg #[.slice Ao19 t105.length co19, .slice Ao22 t108.length co22, .int .i64 t111], .string a2, .slice Ao82 t118.length co82, .int .i64 3] (by rfl) rfl rfl z9_ ?_
       with_reducible refine (pre_Answer_Lets.calls _ _ t105 _ _ t108 t111 a2 _ _ t118 3 false _ ?gw37_ ?side1c23 ?side2c23 ?side3c23 ?side4c23 ?side5c23 ?side6c23 A27.out).mono ?_
       case gw37_ => exact z0_
       (case side1c23 => repeat (first | exact (Kd.V_reads' HO107.out).2.2 | (with_reducible refine Kd.C_alloc ?_ _) | (with_reducible refine Kd.C_drewN ?_ _) | (with_reducible refine Kd.C_drew ?_)))
       (case side2c23 => exact (Kd.V_reads' HO107.out).2.1)
       (case side3c23 => repeat (first | exact (Kd.V_reads' HO110.out).2.2 | (with_reducible refine Kd.C_alloc ?_ _) | (with_reducible refine Kd.C_drewN ?_ _) | (with_reducible refine Kd.C_drew ?_)))
       (case side4c23 => exact (Kd.V_reads' HO110.out).2.1)
       (case side5c23 => repeat (first | exact (Kd.V_reads' HO120.out).2.2 | (with_reducible refine Kd.C_alloc ?_ _) | (with_reducible refine Kd.C_drewN ?_ _) | (with_reducible refine Kd.C_drew ?_)))
       (case side6c23 => exact (Kd.V_reads' HO120.out).2.1)
       rintro e w83 ⟨rfl, hb⟩
       refine ⟨_, rfl, ?_⟩
       have n0_ := Aside0.mk (Kd.V_below z23_ hb)
       have n1_ := Aside0.mk (Kd.V_below z24_ hb)
       have n2_ := Aside0.mk (Kd.V_below z21_ hb)
       have n3_ := Aside0.mk (Kd.V_below z25_ hb)
       have n4_ := Aside0.mk (Kd.V_below z22_ hb)
       have n5_ := Aside0.mk (blk_below (g := gb101) (o := .cells #[.int .i64 a0_0, .slice Ao15 t102.length co15, .string a0_2] 30 (0, 0)) z15_ hb)
       have n6_ := Aside0.mk (blk_below (g := gb113) (o := .cells #[.slice Ao19 t105.length co19, .slice Ao22 t108.length co22, .int .i64 t111] 33 (0, 0)) z16_ hb)
       have n7_ := Aside0.mk (below_step z5_ hb)
       clear HO104; clear HO107; clear HO110; clear HO117; clear HO120; clear BK101; clear BK113; clear HB
       have HO104 := n0_
       have HO107 := n1_
       have HO110 := n2_
       have HO117 := n3_
       have HO120 := n4_
       have BK101 := n5_
       have BK113 := n6_
       have HB := n7_
       clear n0_ n1_ n2_ n3_ n4_ n5_ n6_ n7_
       (try clear hb)
       (try clear hb2)
       (try clear hk)
       (try clear hi)
       refine hK.out _ _ ⟨(blk_cell BK113.out 0).trans rfl, (blk_cell BK113.out 1).trans rfl, (blk_cell BK113.out 2).trans rfl⟩ (fun hHeld => ?_)
       clear hK K
       refine norm_ (a' := ?_) ?_ ?_
       rotate_left
       ·show Act.put _ (some 47) _ = _
        simp only [Act.put, List.setIfInBounds_toArray, List.set_cons_zero, List.set_cons_succ, i64_w, i32_w]
        rfl
       refine pz_ 4 48 (tb_ 39 31) HT_.out ?_
       refine pu_ 5 49 (tb_ 39 63) HT_.out ?_
       refine pu_ 6 50 (tb_ 39 127) HT_.out ?_
       refine pu_ 7 51 (tb_ 39 255) HT_.out ?_
       refine pu_ 8 52 (tb_ 39 511) HT_.out ?_
       refine pu_ 9 53 (tb_ 39 1023) HT_.out ?_
       refine pz_ 10 54 (tb_ 39 2047) HT_.out ?_
       refine pz_ 11 55 (tb_ 39 4095) HT_.out ?_
       refine pz_ 13 57 (tb_ 39 12287) HT_.out ?_
       refine pz_ 14 58 (tb_ 39 28671) HT_.out ?_
       refine pz_ 15 59 (tb_ 39 61439) HT_.out ?_
       refine tz3_ 12 56 (tb_ 39 65535) HT_.out HW_.out hHeld ?_
       refine one_ (i := 16) (N := some 60) (tb_ 39 131071) rfl rfl (one_of HT_.out (by kernel_rfl)) (by decide) (fun K hK => ?_)
       refine goes_ Tryz.func16 (by kernel_rfl) rfl #[.agg #[.slice Ao19 t105.length co19, .slice Ao22 t108.length co22, .int .i64 t111], .string a2, .slice Ao82 t118.length co82, .int .i64 a4] (by rfl) rfl rfl z9_ ?_
       with_reducible refine (pre_Answer_Lets.calls _ _ t105 _ _ t108 t111 a2 _ _ t118 a4 true _ ?gw38_ ?side1c24 ?side2c24 ?side3c24 ?side4c24 ?side5c24 ?side6c24 A67.out).mono ?_
       case gw38_ => exact z0_
       (case side1c24 => repeat (first | exact (Kd.V_reads' HO107.out).2.2 | (with_reducible refine Kd.C_alloc ?_ _) | (with_reducible refine Kd.C_drewN ?_ _) | (with_reducible refine Kd.C_drew ?_)))
       (case side2c24 => exact (Kd.V_reads' HO107.out).2.1)
       (case side3c24 => repeat (first | exact (Kd.V_reads' HO110.out).2.2 | (with_reducible refine Kd.C_alloc ?_ _) | (with_reducible refine Kd.C_drewN ?_ _) | (with_reducible refine Kd.C_drew ?_)))
       (case side4c24 => exact (Kd.V_reads' HO110.out).2.1)
       (case side5c24 => repeat (first | exact (Kd.V_reads' HO120.out).2.2 | (with_reducible refine Kd.C_alloc ?_ _) | (with_reducible refine Kd.C_drewN ?_ _) | (with_reducible refine Kd.C_drew ?_)))
       (case side6c24 => exact (Kd.V_reads' HO120.out).2.1)
       rintro e w84 ⟨rfl, hb⟩
       refine ⟨_, rfl, ?_⟩
       have n0_ := Aside0.mk (Kd.V_below z23_ hb)
       have n1_ := Aside0.mk (Kd.V_below z24_ hb)
       have n2_ := Aside0.mk (Kd.V_below z21_ hb)
       have n3_ := Aside0.mk (Kd.V_below z25_ hb)
       have n4_ := Aside0.mk (Kd.V_below z22_ hb)
       have n5_ := Aside0.mk (blk_below (g := gb101) (o := .cells #[.int .i64 a0_0, .slice Ao15 t102.length co15, .string a0_2] 30 (0, 0)) z15_ hb)
       have n6_ := Aside0.mk (blk_below (g := gb113) (o := .cells #[.slice Ao19 t105.length co19, .slice Ao22 t108.length co22, .int .i64 t111] 33 (0, 0)) z16_ hb)
       have n7_ := Aside0.mk (below_step z5_ hb)
       clear HO104; clear HO107; clear HO110; clear HO117; clear HO120; clear BK101; clear BK113; clear HB
       have HO104 := n0_
       have HO107 := n1_
       have HO110 := n2_
       have HO117 := n3_
       have HO120 := n4_
       have BK101 := n5_
       have BK113 := n6_
       have HB := n7_
       clear n0_ n1_ n2_ n3_ n4_ n5_ n6_ n7_
       (try clear hb)
       (try clear hb2)
       (try clear hk)
       (try clear hi)
       refine hK.out _ _ ⟨(blk_cell BK113.out 0).trans rfl, (blk_cell BK113.out 1).trans rfl, (blk_cell BK113.out 2).trans rfl⟩ (fun hHeld => ?_)
       clear hK K
       refine norm_ (a' := ?_) ?_ ?_
       rotate_left
       ·show Act.put _ (some 60) _ = _
        simp only [Act.put, List.setIfInBounds_toArray, List.set_cons_zero, List.set_cons_succ, i64_w, i32_w]
        rfl
       refine pz_ 17 61 (tb_ 39 262143) HT_.out ?_
       refine pz_ 19 63 (tb_ 39 786431) HT_.out ?_
       refine pz_ 20 64 (tb_ 39 1835007) HT_.out ?_
       refine tz3_ 18 62 (tb_ 39 2097151) HT_.out HW_.out hHeld ?_
       refine one_ (i := 21) (N := some 65) (tb_ 39 4194303) rfl rfl (one_of HT_.out (by kernel_rfl)) (by decide) (fun K hK => ?_)
       refine goes_ Tryz.func16 (by kernel_rfl) rfl #[.agg #[.slice Ao19 t105.length co19, .slice Ao22 t108.length co22, .int .i64 t111], .string a2, .slice none 0 0, .int .i64 a4] (by rfl) rfl rfl z9_ ?_
       refine (pre_Answer_Lets.calls _ _ t105 _ _ t108 t111 a2 _ _ ([] : List ByteArray) a4 true _ ?gw39_ ?side1c25 ?side2c25 ?side3c25 ?side4c25 ?side5c25 ?side6c25 A69.out).mono ?_
       case gw39_ => exact z0_
       (case side1c25 => repeat (first | exact (Kd.V_reads' HO107.out).2.2 | (with_reducible refine Kd.C_alloc ?_ _) | (with_reducible refine Kd.C_drewN ?_ _) | (with_reducible refine Kd.C_drew ?_)))
       (case side2c25 => exact (Kd.V_reads' HO107.out).2.1)
       (case side3c25 => repeat (first | exact (Kd.V_reads' HO110.out).2.2 | (with_reducible refine Kd.C_alloc ?_ _) | (with_reducible refine Kd.C_drewN ?_ _) | (with_reducible refine Kd.C_drew ?_)))
       (case side4c25 => exact (Kd.V_reads' HO110.out).2.1)
       (case side5c25 => exact Kd.C_nil _ _)
       (case side6c25 => exact Nat.le_refl _)
       rintro e w85 ⟨rfl, hb⟩
       refine ⟨_, rfl, ?_⟩
       have n0_ := Aside0.mk (Kd.V_below z23_ hb)
       have n1_ := Aside0.mk (Kd.V_below z24_ hb)
       have n2_ := Aside0.mk (Kd.V_below z21_ hb)
       have n3_ := Aside0.mk (Kd.V_below z25_ hb)
       have n4_ := Aside0.mk (Kd.V_below z22_ hb)
       have n5_ := Aside0.mk (blk_below (g := gb101) (o := .cells #[.int .i64 a0_0, .slice Ao15 t102.length co15, .string a0_2] 30 (0, 0)) z15_ hb)
       have n6_ := Aside0.mk (blk_below (g := gb113) (o := .cells #[.slice Ao19 t105.length co19, .slice Ao22 t108.length co22, .int .i64 t111] 33 (0, 0)) z16_ hb)
       have n7_ := Aside0.mk (below_step z5_ hb)
       clear HO104; clear HO107; clear HO110; clear HO117; clear HO120; clear BK101; clear BK113; clear HB
       have HO104 := n0_
       have HO107 := n1_
       have HO110 := n2_
       have HO117 := n3_
       have HO120 := n4_
       have BK101 := n5_
       have BK113 := n6_
       have HB := n7_
       clear n0_ n1_ n2_ n3_ n4_ n5_ n6_ n7_
       (try clear hb)
       (try clear hb2)
       (try clear hk)
       (try clear hi)
       refine hK.out _ _ ⟨(blk_cell BK113.out 0).trans rfl, (blk_cell BK113.out 1).trans rfl, (blk_cell BK113.out 2).trans rfl⟩ (fun hHeld => ?_)
       clear hK K
       refine norm_ (a' := ?_) ?_ ?_
       rotate_left
       ·show Act.put _ (some 65) _ = _
        simp only [Act.put, List.setIfInBounds_toArray, List.set_cons_zero, List.set_cons_succ, i64_w, i32_w]
        rfl
       refine pz_ 22 66 (tb_ 39 8388607) HT_.out ?_
       refine pz_ 23 67 (tb_ 39 16777215) HT_.out ?_
       refine pz_ 24 68 (tb_ 39 33554431) HT_.out ?_
       refine pz_ 25 69 (tb_ 39 67108863) HT_.out ?_
       refine pz_ 26 70 (tb_ 39 134217727) HT_.out ?_
       refine pz_ 27 71 (tb_ 39 268435455) HT_.out ?_
       refine pu_ 28 72 (tb_ 39 536870911) HT_.out ?_
       refine pu_ 29 73 (tb_ 39 1073741823) HT_.out ?_
       refine pu_ 30 74 (tb_ 39 2147483647) HT_.out ?_
       refine pu_ 31 75 (tb_ 39 4294967295) HT_.out ?_
       refine pu_ 32 76 (tb_ 39 8589934591) HT_.out ?_
       refine pu_ 33 77 (tb_ 39 17179869183) HT_.out ?_
       refine pu_ 34 78 (tb_ 39 34359738367) HT_.out ?_
       refine pz_ 35 79 (tb_ 39 68719476735) HT_.out ?_
       refine pz_ 36 80 (tb_ 39 137438953471) HT_.out ?_
       refine pz_ 37 81 (tb_ 39 274877906943) HT_.out ?_
       refine pz_ 38 82 (tb_ 39 549755813887) HT_.out ?_
       refine done_ (done_of HT_.out (by kernel_rfl)) ?_
       try go_wp2
       go_meet
       case rel => exact ⟨_, (false), z29_, H', ⟨z33_⟩, ⟨z22_⟩, ⟨z23_⟩, ⟨z24_⟩, ⟨z21_⟩, ⟨z15_⟩, ⟨z16_⟩, ⟨z5_⟩⟩
     ·replace c70 := Bool.eq_false_iff.mpr c70
      subst c70
      have H1 : (pursuivantlaw14_PreMore.j0 k a2 l3 a4 t118 true t105 t108 t111) = some r := by rw [if_neg (show ¬ (false = true) by decide)] at H; exact H
      clear H
      have H := H1
      clear H1
      have H' := Aside0.mk H
      clear H
      try go_wp2
      have n0_ := Aside0.mk (Kd.V_drew HO104.out)
      have n1_ := Aside0.mk (Kd.V_drew HO107.out)
      have n2_ := Aside0.mk (Kd.V_drew HO110.out)
      have n3_ := Aside0.mk (Kd.V_drew HO117.out)
      have n4_ := Aside0.mk (Kd.V_drew HO120.out)
      have n5_ := Aside0.mk (blk_drew BK101.out)
      have n6_ := Aside0.mk (blk_drew BK113.out)
      have n7_ := Aside0.mk (below_drew1 HB.out)
      clear HO104; clear HO107; clear HO110; clear HO117; clear HO120; clear BK101; clear BK113; clear HB
      have HO104 := n0_
      have HO107 := n1_
      have HO110 := n2_
      have HO117 := n3_
      have HO120 := n4_
      have BK101 := n5_
      have BK113 := n6_
      have HB := n7_
      clear n0_ n1_ n2_ n3_ n4_ n5_ n6_ n7_
      obtain ⟨Ao87, co87, eo87⟩ := Kd.V_slice HO120.out
      (first | subst eo87 | (injection eo87 with f1_ f2_ f3_; have f4_ := f1_.symm; have f5_ := f3_.symm; clear f1_ f2_ f3_; subst f4_; subst f5_))
      refine start_ (n := 39) (S := fun w' => w'.cell? ⟨gb113, 0, none⟩ = some (.slice Ao19 t105.length co19) ∧ w'.cell? ⟨gb113, 1, none⟩ = some (.slice Ao22 t108.length co22) ∧ w'.cell? ⟨gb113, 2, none⟩ = some (.int .i64 t111)) (ds := []) (tb_ 39 0) (by kernel_rfl) rfl rfl ⟨(blk_cell BK113.out 0).trans rfl, (blk_cell BK113.out 1).trans rfl, (blk_cell BK113.out 2).trans rfl⟩ (fun hHeld => ?_); refine with_tabW pursuivantlaw14_PreMore.tab6 pursuivantlaw14_PreMore.bits6 (fun HT_ HW_ => ?_)
      generalize w26.drew = w86 at HO104 HO107 HO110 HO117 HO120 BK101 BK113 HB hHeld ⊢
      refine pz_ 1 45 (tb_ 39 2) HT_.out ?_
      refine pz_ 2 46 (tb_ 39 6) HT_.out ?_
      refine tz3_ 0 44 (tb_ 39 7) HT_.out HW_.out hHeld ?_
      refine one_ (i := 3) (N := some 47) (tb_ 39 15) rfl rfl (one_of HT_.out (by kernel_rfl)) (by decide) (fun K hK => ?_)
      refine goes_ Tryz.func16 (by kernel_rfl) rfl #[.agg #[.slice Ao19 t105.length co19, .slice Ao22 t108.length co22, .int .i64 t111], .string a2, .slice Ao87 t118.length co87, .int .i64 3] (by rfl) rfl rfl z9_ ?_
      with_reducible refine (pre_Answer_Lets.calls _ _ t105 _ _ t108 t111 a2 _ _ t118 3 false _ ?gw40_ ?side1c26 ?side2c26 ?side3c26 ?side4c26 ?side5c26 ?side6c26 A27.out).mono ?_
      case gw40_ => exact z0_
      (case side1c26 => repeat (first | exact (Kd.V_reads' HO107.out).2.2 | (with_reducible refine Kd.C_alloc ?_ _) | (with_reducible refine Kd.C_drewN ?_ _) | (with_reducible refine Kd.C_drew ?_)))
      (case side2c26 => exact (Kd.V_reads' HO107.out).2.1)
      (case side3c26 => repeat (first | exact (Kd.V_reads' HO110.out).2.2 | (with_reducible refine Kd.C_alloc ?_ _) | (with_reducible refine Kd.C_drewN ?_ _) | (with_reducible refine Kd.C_drew ?_)))
      (case side4c26 => exact (Kd.V_reads' HO110.out).2.1)
      (case side5c26 => repeat (first | exact (Kd.V_reads' HO120.out).2.2 | (with_reducible refine Kd.C_alloc ?_ _) | (with_reducible refine Kd.C_drewN ?_ _) | (with_reducible refine Kd.C_drew ?_)))
      (case side6c26 => exact (Kd.V_reads' HO120.out).2.1)
      rintro e w88 ⟨rfl, hb⟩
      refine ⟨_, rfl, ?_⟩
      have n0_ := Aside0.mk (Kd.V_below z23_ hb)
      have n1_ := Aside0.mk (Kd.V_below z24_ hb)
      have n2_ := Aside0.mk (Kd.V_below z21_ hb)
      have n3_ := Aside0.mk (Kd.V_below z25_ hb)
      have n4_ := Aside0.mk (Kd.V_below z22_ hb)
      have n5_ := Aside0.mk (blk_below (g := gb101) (o := .cells #[.int .i64 a0_0, .slice Ao15 t102.length co15, .string a0_2] 30 (0, 0)) z15_ hb)
      have n6_ := Aside0.mk (blk_below (g := gb113) (o := .cells #[.slice Ao19 t105.length co19, .slice Ao22 t108.length co22, .int .i64 t111] 33 (0, 0)) z16_ hb)
      have n7_ := Aside0.mk (below_step z5_ hb)
      clear HO104; clear HO107; clear HO110; clear HO117; clear HO120; clear BK101; clear BK113; clear HB
      have HO104 := n0_
      have HO107 := n1_
      have HO110 := n2_
      have HO117 := n3_
      have HO120 := n4_
      have BK101 := n5_
      have BK113 := n6_
      have HB := n7_
      clear n0_ n1_ n2_ n3_ n4_ n5_ n6_ n7_
      (try clear hb)
      (try clear hb2)
      (try clear hk)
      (try clear hi)
      refine hK.out _ _ ⟨(blk_cell BK113.out 0).trans rfl, (blk_cell BK113.out 1).trans rfl, (blk_cell BK113.out 2).trans rfl⟩ (fun hHeld => ?_)
      clear hK K
      refine norm_ (a' := ?_) ?_ ?_
      rotate_left
      ·show Act.put _ (some 47) _ = _
       simp only [Act.put, List.setIfInBounds_toArray, List.set_cons_zero, List.set_cons_succ, i64_w, i32_w]
       rfl
      refine pz_ 4 48 (tb_ 39 31) HT_.out ?_
      refine pu_ 5 49 (tb_ 39 63) HT_.out ?_
      refine pu_ 6 50 (tb_ 39 127) HT_.out ?_
      refine pu_ 7 51 (tb_ 39 255) HT_.out ?_
      refine pu_ 8 52 (tb_ 39 511) HT_.out ?_
      refine pu_ 9 53 (tb_ 39 1023) HT_.out ?_
      refine pz_ 10 54 (tb_ 39 2047) HT_.out ?_
      refine pz_ 11 55 (tb_ 39 4095) HT_.out ?_
      refine pz_ 13 57 (tb_ 39 12287) HT_.out ?_
      refine pz_ 14 58 (tb_ 39 28671) HT_.out ?_
      refine pz_ 15 59 (tb_ 39 61439) HT_.out ?_
      refine tz3_ 12 56 (tb_ 39 65535) HT_.out HW_.out hHeld ?_
      refine one_ (i := 16) (N := some 60) (tb_ 39 131071) rfl rfl (one_of HT_.out (by kernel_rfl)) (by decide) (fun K hK => ?_)
      refine goes_ Tryz.func16 (by kernel_rfl) rfl #[.agg #[.slice Ao19 t105.length co19, .slice Ao22 t108.length co22, .int .i64 t111], .string a2, .slice Ao87 t118.length co87, .int .i64 a4] (by rfl) rfl rfl z9_ ?_
      with_reducible refine (pre_Answer_Lets.calls _ _ t105 _ _ t108 t111 a2 _ _ t118 a4 true _ ?gw41_ ?side1c27 ?side2c27 ?side3c27 ?side4c27 ?side5c27 ?side6c27 A67.out).mono ?_
      case gw41_ => exact z0_
      (case side1c27 => repeat (first | exact (Kd.V_reads' HO107.out).2.2 | (with_reducible refine Kd.C_alloc ?_ _) | (with_reducible refine Kd.C_drewN ?_ _) | (with_reducible refine Kd.C_drew ?_)))
      (case side2c27 => exact (Kd.V_reads' HO107.out).2.1)
      (case side3c27 => repeat (first | exact (Kd.V_reads' HO110.out).2.2 | (with_reducible refine Kd.C_alloc ?_ _) | (with_reducible refine Kd.C_drewN ?_ _) | (with_reducible refine Kd.C_drew ?_)))
      (case side4c27 => exact (Kd.V_reads' HO110.out).2.1)
      (case side5c27 => repeat (first | exact (Kd.V_reads' HO120.out).2.2 | (with_reducible refine Kd.C_alloc ?_ _) | (with_reducible refine Kd.C_drewN ?_ _) | (with_reducible refine Kd.C_drew ?_)))
      (case side6c27 => exact (Kd.V_reads' HO120.out).2.1)
      rintro e w89 ⟨rfl, hb⟩
      refine ⟨_, rfl, ?_⟩
      have n0_ := Aside0.mk (Kd.V_below z23_ hb)
      have n1_ := Aside0.mk (Kd.V_below z24_ hb)
      have n2_ := Aside0.mk (Kd.V_below z21_ hb)
      have n3_ := Aside0.mk (Kd.V_below z25_ hb)
      have n4_ := Aside0.mk (Kd.V_below z22_ hb)
      have n5_ := Aside0.mk (blk_below (g := gb101) (o := .cells #[.int .i64 a0_0, .slice Ao15 t102.length co15, .string a0_2] 30 (0, 0)) z15_ hb)
      have n6_ := Aside0.mk (blk_below (g := gb113) (o := .cells #[.slice Ao19 t105.length co19, .slice Ao22 t108.length co22, .int .i64 t111] 33 (0, 0)) z16_ hb)
      have n7_ := Aside0.mk (below_step z5_ hb)
      clear HO104; clear HO107; clear HO110; clear HO117; clear HO120; clear BK101; clear BK113; clear HB
      have HO104 := n0_
      have HO107 := n1_
      have HO110 := n2_
      have HO117 := n3_
      have HO120 := n4_
      have BK101 := n5_
      have BK113 := n6_
      have HB := n7_
      clear n0_ n1_ n2_ n3_ n4_ n5_ n6_ n7_
      (try clear hb)
      (try clear hb2)
      (try clear hk)
      (try clear hi)
      refine hK.out _ _ ⟨(blk_cell BK113.out 0).trans rfl, (blk_cell BK113.out 1).trans rfl, (blk_cell BK113.out 2).trans rfl⟩ (fun hHeld => ?_)
      clear hK K
      refine norm_ (a' := ?_) ?_ ?_
      rotate_left
      ·show Act.put _ (some 60) _ = _
       simp only [Act.put, List.setIfInBounds_toArray, List.set_cons_zero, List.set_cons_succ, i64_w, i32_w]
       rfl
      refine pz_ 17 61 (tb_ 39 262143) HT_.out ?_
      refine pz_ 19 63 (tb_ 39 786431) HT_.out ?_
      refine pz_ 20 64 (tb_ 39 1835007) HT_.out ?_
      refine tz3_ 18 62 (tb_ 39 2097151) HT_.out HW_.out hHeld ?_
      refine one_ (i := 21) (N := some 65) (tb_ 39 4194303) rfl rfl (one_of HT_.out (by kernel_rfl)) (by decide) (fun K hK => ?_)
      refine goes_ Tryz.func16 (by kernel_rfl) rfl #[.agg #[.slice Ao19 t105.length co19, .slice Ao22 t108.length co22, .int .i64 t111], .string a2, .slice none 0 0, .int .i64 a4] (by rfl) rfl rfl z9_ ?_
      refine (pre_Answer_Lets.calls _ _ t105 _ _ t108 t111 a2 _ _ ([] : List ByteArray) a4 false _ ?gw42_ ?side1c28 ?side2c28 ?side3c28 ?side4c28 ?side5c28 ?side6c28 A69.out).mono ?_
      case gw42_ => exact z0_
      (case side1c28 => repeat (first | exact (Kd.V_reads' HO107.out).2.2 | (with_reducible refine Kd.C_alloc ?_ _) | (with_reducible refine Kd.C_drewN ?_ _) | (with_reducible refine Kd.C_drew ?_)))
      (case side2c28 => exact (Kd.V_reads' HO107.out).2.1)
      (case side3c28 => repeat (first | exact (Kd.V_reads' HO110.out).2.2 | (with_reducible refine Kd.C_alloc ?_ _) | (with_reducible refine Kd.C_drewN ?_ _) | (with_reducible refine Kd.C_drew ?_)))
      (case side4c28 => exact (Kd.V_reads' HO110.out).2.1)
      (case side5c28 => exact Kd.C_nil _ _)
      (case side6c28 => exact Nat.le_refl _)
      rintro e w90 ⟨rfl, hb⟩
      refine ⟨_, rfl, ?_⟩
      have n0_ := Aside0.mk (Kd.V_below z23_ hb)
      have n1_ := Aside0.mk (Kd.V_below z24_ hb)
      have n2_ := Aside0.mk (Kd.V_below z21_ hb)
      have n3_ := Aside0.mk (Kd.V_below z25_ hb)
      have n4_ := Aside0.mk (Kd.V_below z22_ hb)
      have n5_ := Aside0.mk (blk_below (g := gb101) (o := .cells #[.int .i64 a0_0, .slice Ao15 t102.length co15, .string a0_2] 30 (0, 0)) z15_ hb)
      have n6_ := Aside0.mk (blk_below (g := gb113) (o := .cells #[.slice Ao19 t105.length co19, .slice Ao22 t108.length co22, .int .i64 t111] 33 (0, 0)) z16_ hb)
      have n7_ := Aside0.mk (below_step z5_ hb)
      clear HO104; clear HO107; clear HO110; clear HO117; clear HO120; clear BK101; clear BK113; clear HB
      have HO104 := n0_
      have HO107 := n1_
      have HO110 := n2_
      have HO117 := n3_
      have HO120 := n4_
      have BK101 := n5_
      have BK113 := n6_
      have HB := n7_
      clear n0_ n1_ n2_ n3_ n4_ n5_ n6_ n7_
      (try clear hb)
      (try clear hb2)
      (try clear hk)
      (try clear hi)
      refine hK.out _ _ ⟨(blk_cell BK113.out 0).trans rfl, (blk_cell BK113.out 1).trans rfl, (blk_cell BK113.out 2).trans rfl⟩ (fun hHeld => ?_)
      clear hK K
      refine norm_ (a' := ?_) ?_ ?_
      rotate_left
      ·show Act.put _ (some 65) _ = _
       simp only [Act.put, List.setIfInBounds_toArray, List.set_cons_zero, List.set_cons_succ, i64_w, i32_w]
       rfl
      refine pz_ 22 66 (tb_ 39 8388607) HT_.out ?_
      refine pz_ 23 67 (tb_ 39 16777215) HT_.out ?_
      refine pu_ 24 68 (tb_ 39 33554431) HT_.out ?_
      refine pu_ 25 69 (tb_ 39 67108863) HT_.out ?_
      refine pu_ 26 70 (tb_ 39 134217727) HT_.out ?_
      refine pu_ 27 71 (tb_ 39 268435455) HT_.out ?_
      refine pu_ 28 72 (tb_ 39 536870911) HT_.out ?_
      refine pu_ 29 73 (tb_ 39 1073741823) HT_.out ?_
      refine pu_ 30 74 (tb_ 39 2147483647) HT_.out ?_
      refine pu_ 31 75 (tb_ 39 4294967295) HT_.out ?_
      refine pu_ 32 76 (tb_ 39 8589934591) HT_.out ?_
      refine pu_ 33 77 (tb_ 39 17179869183) HT_.out ?_
      refine pu_ 34 78 (tb_ 39 34359738367) HT_.out ?_
      refine pu_ 35 79 (tb_ 39 68719476735) HT_.out ?_
      refine pz_ 36 80 (tb_ 39 137438953471) HT_.out ?_
      refine pz_ 37 81 (tb_ 39 274877906943) HT_.out ?_
      refine pz_ 38 82 (tb_ 39 549755813887) HT_.out ?_
      refine done_ (done_of HT_.out (by kernel_rfl)) ?_
      try go_wp2
      go_meet
      case rel => exact ⟨_, (true), z29_, H', ⟨z33_⟩, ⟨z22_⟩, ⟨z23_⟩, ⟨z24_⟩, ⟨z21_⟩, ⟨z15_⟩, ⟨z16_⟩, ⟨z5_⟩⟩
    ·replace c68 := Bool.eq_false_iff.mpr c68
     subst c68
     have H1 : (pursuivantlaw14_PreMore.j0 k a2 l3 a4 t118 false t105 t108 t111) = some r := by rw [if_neg (show ¬ (false = true) by decide)] at H; exact H
     clear H
     have H := H1
     clear H1
     have H' := Aside0.mk H
     clear H
     try go_wp2
     have n0_ := Aside0.mk (Kd.V_drew HO104.out)
     have n1_ := Aside0.mk (Kd.V_drew HO107.out)
     have n2_ := Aside0.mk (Kd.V_drew HO110.out)
     have n3_ := Aside0.mk (Kd.V_drew HO117.out)
     have n4_ := Aside0.mk (Kd.V_drew HO120.out)
     have n5_ := Aside0.mk (blk_drew BK101.out)
     have n6_ := Aside0.mk (blk_drew BK113.out)
     have n7_ := Aside0.mk (below_drew1 HB.out)
     clear HO104; clear HO107; clear HO110; clear HO117; clear HO120; clear BK101; clear BK113; clear HB
     have HO104 := n0_
     have HO107 := n1_
     have HO110 := n2_
     have HO117 := n3_
     have HO120 := n4_
     have BK101 := n5_
     have BK113 := n6_
     have HB := n7_
     clear n0_ n1_ n2_ n3_ n4_ n5_ n6_ n7_
     obtain ⟨Ao92, co92, eo92⟩ := Kd.V_slice HO120.out
     (first | subst eo92 | (injection eo92 with f1_ f2_ f3_; have f4_ := f1_.symm; have f5_ := f3_.symm; clear f1_ f2_ f3_; subst f4_; subst f5_))
     refine start_ (n := 39) (S := fun w' => w'.cell? ⟨gb113, 0, none⟩ = some (.slice Ao19 t105.length co19) ∧ w'.cell? ⟨gb113, 1, none⟩ = some (.slice Ao22 t108.length co22) ∧ w'.cell? ⟨gb113, 2, none⟩ = some (.int .i64 t111)) (ds := []) (tb_ 39 0) (by kernel_rfl) rfl rfl ⟨(blk_cell BK113.out 0).trans rfl, (blk_cell BK113.out 1).trans rfl, (blk_cell BK113.out 2).trans rfl⟩ (fun hHeld => ?_); refine with_tabW pursuivantlaw14_PreMore.tab6 pursuivantlaw14_PreMore.bits6 (fun HT_ HW_ => ?_)
     generalize w26.drew = w91 at HO104 HO107 HO110 HO117 HO120 BK101 BK113 HB hHeld ⊢
     refine pz_ 1 45 (tb_ 39 2) HT_.out ?_
     refine pz_ 2 46 (tb_ 39 6) HT_.out ?_
     refine tz3_ 0 44 (tb_ 39 7) HT_.out HW_.out hHeld ?_
     refine one_ (i := 3) (N := some 47) (tb_ 39 15) rfl rfl (one_of HT_.out (by kernel_rfl)) (by decide) (fun K hK => ?_)
     refine goes_ Tryz.func16 (by kernel_rfl) rfl #[.agg #[.slice Ao19 t105.length co19, .slice Ao22 t108.length co22, .int .i64 t111], .string a2, .slice Ao92 t118.length co92, .int .i64 3] (by rfl) rfl rfl z9_ ?_
     with_reducible refine (pre_Answer_Lets.calls _ _ t105 _ _ t108 t111 a2 _ _ t118 3 false _ ?gw43_ ?side1c29 ?side2c29 ?side3c29 ?side4c29 ?side5c29 ?side6c29 A27.out).mono ?_
     case gw43_ => exact z0_
     (case side1c29 => repeat (first | exact (Kd.V_reads' HO107.out).2.2 | (with_reducible refine Kd.C_alloc ?_ _) | (with_reducible refine Kd.C_drewN ?_ _) | (with_reducible refine Kd.C_drew ?_)))
     (case side2c29 => exact (Kd.V_reads' HO107.out).2.1)
     (case side3c29 => repeat (first | exact (Kd.V_reads' HO110.out).2.2 | (with_reducible refine Kd.C_alloc ?_ _) | (with_reducible refine Kd.C_drewN ?_ _) | (with_reducible refine Kd.C_drew ?_)))
     (case side4c29 => exact (Kd.V_reads' HO110.out).2.1)
     (case side5c29 => repeat (first | exact (Kd.V_reads' HO120.out).2.2 | (with_reducible refine Kd.C_alloc ?_ _) | (with_reducible refine Kd.C_drewN ?_ _) | (with_reducible refine Kd.C_drew ?_)))
     (case side6c29 => exact (Kd.V_reads' HO120.out).2.1)
     rintro e w93 ⟨rfl, hb⟩
     refine ⟨_, rfl, ?_⟩
     have n0_ := Aside0.mk (Kd.V_below z23_ hb)
     have n1_ := Aside0.mk (Kd.V_below z24_ hb)
     have n2_ := Aside0.mk (Kd.V_below z21_ hb)
     have n3_ := Aside0.mk (Kd.V_below z25_ hb)
     have n4_ := Aside0.mk (Kd.V_below z22_ hb)
     have n5_ := Aside0.mk (blk_below (g := gb101) (o := .cells #[.int .i64 a0_0, .slice Ao15 t102.length co15, .string a0_2] 30 (0, 0)) z15_ hb)
     have n6_ := Aside0.mk (blk_below (g := gb113) (o := .cells #[.slice Ao19 t105.length co19, .slice Ao22 t108.length co22, .int .i64 t111] 33 (0, 0)) z16_ hb)
     have n7_ := Aside0.mk (below_step z5_ hb)
     clear HO104; clear HO107; clear HO110; clear HO117; clear HO120; clear BK101; clear BK113; clear HB
     have HO104 := n0_
     have HO107 := n1_
     have HO110 := n2_
     have HO117 := n3_
     have HO120 := n4_
     have BK101 := n5_
     have BK113 := n6_
     have HB := n7_
     clear n0_ n1_ n2_ n3_ n4_ n5_ n6_ n7_
     (try clear hb)
     (try clear hb2)
     (try clear hk)
     (try clear hi)
     refine hK.out _ _ ⟨(blk_cell BK113.out 0).trans rfl, (blk_cell BK113.out 1).trans rfl, (blk_cell BK113.out 2).trans rfl⟩ (fun hHeld => ?_)
     clear hK K
     refine norm_ (a' := ?_) ?_ ?_
     rotate_left
     ·show Act.put _ (some 47) _ = _
      simp only [Act.put, List.setIfInBounds_toArray, List.set_cons_zero, List.set_cons_succ, i64_w, i32_w]
      rfl
     refine pz_ 4 48 (tb_ 39 31) HT_.out ?_
     refine pu_ 5 49 (tb_ 39 63) HT_.out ?_
     refine pu_ 6 50 (tb_ 39 127) HT_.out ?_
     refine pu_ 7 51 (tb_ 39 255) HT_.out ?_
     refine pu_ 8 52 (tb_ 39 511) HT_.out ?_
     refine pu_ 9 53 (tb_ 39 1023) HT_.out ?_
     refine pz_ 10 54 (tb_ 39 2047) HT_.out ?_
     refine pz_ 11 55 (tb_ 39 4095) HT_.out ?_
     refine pz_ 13 57 (tb_ 39 12287) HT_.out ?_
     refine pz_ 14 58 (tb_ 39 28671) HT_.out ?_
     refine pz_ 15 59 (tb_ 39 61439) HT_.out ?_
     refine tz3_ 12 56 (tb_ 39 65535) HT_.out HW_.out hHeld ?_
     refine one_ (i := 16) (N := some 60) (tb_ 39 131071) rfl rfl (one_of HT_.out (by kernel_rfl)) (by decide) (fun K hK => ?_)
     refine goes_ Tryz.func16 (by kernel_rfl) rfl #[.agg #[.slice Ao19 t105.length co19, .slice Ao22 t108.length co22, .int .i64 t111], .string a2, .slice Ao92 t118.length co92, .int .i64 a4] (by rfl) rfl rfl z9_ ?_
     with_reducible refine (pre_Answer_Lets.calls _ _ t105 _ _ t108 t111 a2 _ _ t118 a4 false _ ?gw44_ ?side1c30 ?side2c30 ?side3c30 ?side4c30 ?side5c30 ?side6c30 A67.out).mono ?_
     case gw44_ => exact z0_
     (case side1c30 => repeat (first | exact (Kd.V_reads' HO107.out).2.2 | (with_reducible refine Kd.C_alloc ?_ _) | (with_reducible refine Kd.C_drewN ?_ _) | (with_reducible refine Kd.C_drew ?_)))
     (case side2c30 => exact (Kd.V_reads' HO107.out).2.1)
     (case side3c30 => repeat (first | exact (Kd.V_reads' HO110.out).2.2 | (with_reducible refine Kd.C_alloc ?_ _) | (with_reducible refine Kd.C_drewN ?_ _) | (with_reducible refine Kd.C_drew ?_)))
     (case side4c30 => exact (Kd.V_reads' HO110.out).2.1)
     (case side5c30 => repeat (first | exact (Kd.V_reads' HO120.out).2.2 | (with_reducible refine Kd.C_alloc ?_ _) | (with_reducible refine Kd.C_drewN ?_ _) | (with_reducible refine Kd.C_drew ?_)))
     (case side6c30 => exact (Kd.V_reads' HO120.out).2.1)
     rintro e w94 ⟨rfl, hb⟩
     refine ⟨_, rfl, ?_⟩
     have n0_ := Aside0.mk (Kd.V_below z23_ hb)
     have n1_ := Aside0.mk (Kd.V_below z24_ hb)
     have n2_ := Aside0.mk (Kd.V_below z21_ hb)
     have n3_ := Aside0.mk (Kd.V_below z25_ hb)
     have n4_ := Aside0.mk (Kd.V_below z22_ hb)
     have n5_ := Aside0.mk (blk_below (g := gb101) (o := .cells #[.int .i64 a0_0, .slice Ao15 t102.length co15, .string a0_2] 30 (0, 0)) z15_ hb)
     have n6_ := Aside0.mk (blk_below (g := gb113) (o := .cells #[.slice Ao19 t105.length co19, .slice Ao22 t108.length co22, .int .i64 t111] 33 (0, 0)) z16_ hb)
     have n7_ := Aside0.mk (below_step z5_ hb)
     clear HO104; clear HO107; clear HO110; clear HO117; clear HO120; clear BK101; clear BK113; clear HB
     have HO104 := n0_
     have HO107 := n1_
     have HO110 := n2_
     have HO117 := n3_
     have HO120 := n4_
     have BK101 := n5_
     have BK113 := n6_
     have HB := n7_
     clear n0_ n1_ n2_ n3_ n4_ n5_ n6_ n7_
     (try clear hb)
     (try clear hb2)
     (try clear hk)
     (try clear hi)
     refine hK.out _ _ ⟨(blk_cell BK113.out 0).trans rfl, (blk_cell BK113.out 1).trans rfl, (blk_cell BK113.out 2).trans rfl⟩ (fun hHeld => ?_)
     clear hK K
     refine norm_ (a' := ?_) ?_ ?_
     rotate_left
     ·show Act.put _ (some 60) _ = _
      simp only [Act.put, List.setIfInBounds_toArray, List.set_cons_zero, List.set_cons_succ, i64_w, i32_w]
      rfl
     refine pz_ 17 61 (tb_ 39 262143) HT_.out ?_
     refine pu_ 18 62 (tb_ 39 524287) HT_.out ?_
     refine pu_ 19 63 (tb_ 39 1048575) HT_.out ?_
     refine pu_ 20 64 (tb_ 39 2097151) HT_.out ?_
     refine pu_ 21 65 (tb_ 39 4194303) HT_.out ?_
     refine pu_ 22 66 (tb_ 39 8388607) HT_.out ?_
     refine pu_ 23 67 (tb_ 39 16777215) HT_.out ?_
     refine pu_ 24 68 (tb_ 39 33554431) HT_.out ?_
     refine pu_ 25 69 (tb_ 39 67108863) HT_.out ?_
     refine pu_ 26 70 (tb_ 39 134217727) HT_.out ?_
     refine pu_ 27 71 (tb_ 39 268435455) HT_.out ?_
     refine pu_ 28 72 (tb_ 39 536870911) HT_.out ?_
     refine pu_ 29 73 (tb_ 39 1073741823) HT_.out ?_
     refine pu_ 30 74 (tb_ 39 2147483647) HT_.out ?_
     refine pu_ 31 75 (tb_ 39 4294967295) HT_.out ?_
     refine pu_ 32 76 (tb_ 39 8589934591) HT_.out ?_
     refine pu_ 33 77 (tb_ 39 17179869183) HT_.out ?_
     refine pu_ 34 78 (tb_ 39 34359738367) HT_.out ?_
     refine pu_ 35 79 (tb_ 39 68719476735) HT_.out ?_
     refine pu_ 36 80 (tb_ 39 137438953471) HT_.out ?_
     refine pz_ 37 81 (tb_ 39 274877906943) HT_.out ?_
     refine pz_ 38 82 (tb_ 39 549755813887) HT_.out ?_
     refine done_ (done_of HT_.out (by kernel_rfl)) ?_
     try go_wp2
     go_meet
     case rel => exact ⟨_, (false), z29_, H', ⟨z33_⟩, ⟨z22_⟩, ⟨z23_⟩, ⟨z24_⟩, ⟨z21_⟩, ⟨z15_⟩, ⟨z16_⟩, ⟨z5_⟩⟩
  case rest =>
   clear HC11
   obtain ⟨kq, x82_10, rfl, HA, HJ10, HO_13, HO_102001, HO_114000, HO_114001, BK101, BK113, HB⟩ := hcut
   cases kq with
   | zero => exact absurd HA.out (by simp [pursuivantlaw14_PreMore.j0])
   | succ kj10 =>
    have H := HA.out
    clear HA
    simp only [pursuivantlaw14_PreMore.j0] at H
    by_cases c95 : x82_10 = true
    ·subst c95
     have H1 : (some false) = some r := by rw [if_pos rfl] at H; exact H
     clear H
     have H := H1
     clear H1
     exact absurd ((Option.some.inj H).trans hr_) Bool.false_ne_true
    ·replace c95 := Bool.eq_false_iff.mpr c95
     subst c95
     have H1 : ((pursuivantlaw14_awake.f kj10).bind fun t139 => (if t139 = true then ((pursuivantlaw14_few.f l3).bind fun t140 => ((pre_Needs.f kj10 a2 t140).bind fun t143 => (if t143 = true then (if t111 ≥ 0 then (some (decide (t111 ≤ 86400))) else (some false)) else ((pre_Answer_Lets.f t105 t108 t111 a2 t118 a4).bind fun t144 => (if t144 = true then (if t111 ≥ 0 then (some (decide (t111 ≤ 86400))) else (some false)) else (some false)))))) else (some false))) = some r := by rw [if_neg (show ¬ (false = true) by decide)] at H; exact H
     clear H
     have H := H1
     clear H1
     replace H := Option.bind_eq_some_iff.mp H
     obtain ⟨t139, A960, H⟩ := H
     replace H : (if t139 = true then ((pursuivantlaw14_few.f l3).bind fun t140 => ((pre_Needs.f kj10 a2 t140).bind fun t143 => (if t143 = true then (if t111 ≥ 0 then (some (decide (t111 ≤ 86400))) else (some false)) else ((pre_Answer_Lets.f t105 t108 t111 a2 t118 a4).bind fun t144 => (if t144 = true then (if t111 ≥ 0 then (some (decide (t111 ≤ 86400))) else (some false)) else (some false)))))) else (some false)) = some r := H
     have A96 := Aside0.mk A960; clear A960
     by_cases c97 : t139 = true
     ·subst c97
      have H1 : ((pursuivantlaw14_few.f l3).bind fun t140 => ((pre_Needs.f kj10 a2 t140).bind fun t143 => (if t143 = true then (if t111 ≥ 0 then (some (decide (t111 ≤ 86400))) else (some false)) else ((pre_Answer_Lets.f t105 t108 t111 a2 t118 a4).bind fun t144 => (if t144 = true then (if t111 ≥ 0 then (some (decide (t111 ≤ 86400))) else (some false)) else (some false)))))) = some r := by rw [if_pos rfl] at H; exact H
      clear H
      have H := H1
      clear H1
      replace H := Option.bind_eq_some_iff.mp H
      obtain ⟨t140, A980, H⟩ := H
      replace H : ((pre_Needs.f kj10 a2 t140).bind fun t143 => (if t143 = true then (if t111 ≥ 0 then (some (decide (t111 ≤ 86400))) else (some false)) else ((pre_Answer_Lets.f t105 t108 t111 a2 t118 a4).bind fun t144 => (if t144 = true then (if t111 ≥ 0 then (some (decide (t111 ≤ 86400))) else (some false)) else (some false))))) = some r := H
      have A98 := Aside0.mk A980; clear A980
      replace H := Option.bind_eq_some_iff.mp H
      obtain ⟨t143, A990, H⟩ := H
      replace H : (if t143 = true then (if t111 ≥ 0 then (some (decide (t111 ≤ 86400))) else (some false)) else ((pre_Answer_Lets.f t105 t108 t111 a2 t118 a4).bind fun t144 => (if t144 = true then (if t111 ≥ 0 then (some (decide (t111 ≤ 86400))) else (some false)) else (some false)))) = some r := H
      have A99 := Aside0.mk A990; clear A990
      by_cases c100 : t143 = true
      ·subst c100
       have H1 : (if t111 ≥ 0 then (some (decide (t111 ≤ 86400))) else (some false)) = some r := by rw [if_pos rfl] at H; exact H
       clear H
       have H := H1
       clear H1
       by_cases c101 : t111 ≥ 0
       ·rw [if_pos c101] at H
        have c101b0 : decide (0 ≤ t111) = true := decide_eq_true c101; clear c101
        obtain rfl := Option.some.inj H
        go_wp2_with (first | ((with_reducible refine gate_callee (f := 6) rfl ?_); refine goesL_ (some 83) rfl rfl Tryz.func6 (by kernel_rfl) rfl #[] rfl z9_ ?_; (with_reducible refine (pursuivantlaw14_awake.calls kj10  true _ ?gw5_ A96.out (by first | rfl | assumption)).mono ?_); (case gw5_ => exact z0_); rintro e w102 ⟨rfl, hb⟩; refine ⟨_, rfl, ?_⟩; have n0_ := Aside0.mk (Kd.V_below z26_ hb); have n1_ := Aside0.mk (Kd.V_below z17_ hb); have n2_ := Aside0.mk (Kd.V_below z18_ hb); have n3_ := Aside0.mk (Kd.V_below z19_ hb); have n4_ := Aside0.mk (blk_below (g := gb101) (o := .cells #[.int .i64 a0_0, .slice Ao15 t102.length co15, .string a0_2] 30 (0, 0)) z15_ hb); have n5_ := Aside0.mk (blk_below (g := gb113) (o := .cells #[.slice Ao19 t105.length co19, .slice Ao22 t108.length co22, .int .i64 t111] 33 (0, 0)) z16_ hb); have n6_ := Aside0.mk (below_step z5_ hb); clear HO_13; clear HO_102001; clear HO_114000; clear HO_114001; clear BK101; clear BK113; clear HB; have HO_13 := n0_; have HO_102001 := n1_; have HO_114000 := n2_; have HO_114001 := n3_; have BK101 := n4_; have BK113 := n5_; have HB := n6_; clear n0_ n1_ n2_ n3_ n4_ n5_ n6_; (try clear hb); (try clear hb2); (try clear hk); (try clear hi)) | (go_at_call 8; (fail_if_success (have z_ := U_1)); have U_1 := trivial; (with_reducible refine (pursuivantlaw14_few.calls (fun k_ => k_ < w.heap.size) _ _ l3 t140 _ ?gw6_ ?side1 A98.out).mono ?_); (case gw6_ => exact z0_); (case side1 => exact Kd.V_mk HC3.out (Kd.F_below (Kd.C_F k45_heap HR3.out) z5_)); rintro e w103 ⟨v141, rfl, ho0, hb⟩; have n0_ := Aside0.mk (Kd.V_below z26_ hb); have n1_ := Aside0.mk (Kd.V_below z17_ hb); have n2_ := Aside0.mk (Kd.V_below z18_ hb); have n3_ := Aside0.mk (Kd.V_below z19_ hb); have n4_ := Aside0.mk (Kd.V_lower (Kd.V_mono (ok' := fun k_ => k_ ≠ gb101 ∧ k_ ≠ gb113) ho0 (fun k_ hk_ => ⟨Or.elim hk_ (fun hs_ => fun e_ => Nat.not_le.2 hs_ z34_) (fun hn_ => (Kd.freshB (g := gb101) (o := .cells #[.int .i64 a0_0, .slice Ao15 t102.length co15, .string a0_2] 30 (0, 0)) z15_ k_ hn_)), Or.elim hk_ (fun hs_ => fun e_ => Nat.not_le.2 hs_ (by rw [e_]; exact GW113.out)) (fun hn_ => (Kd.freshB (g := gb113) (o := .cells #[.slice Ao19 t105.length co19, .slice Ao22 t108.length co22, .int .i64 t111] 33 (0, 0)) z16_ k_ hn_))⟩)) (below_size z5_)); have n5_ := Aside0.mk (blk_below (g := gb101) (o := .cells #[.int .i64 a0_0, .slice Ao15 t102.length co15, .string a0_2] 30 (0, 0)) z15_ hb); have n6_ := Aside0.mk (blk_below (g := gb113) (o := .cells #[.slice Ao19 t105.length co19, .slice Ao22 t108.length co22, .int .i64 t111] 33 (0, 0)) z16_ hb); have n7_ := Aside0.mk (below_step z5_ hb); clear HO_13; clear HO_102001; clear HO_114000; clear HO_114001; clear BK101; clear BK113; clear HB; have HO_13 := n0_; have HO_102001 := n1_; have HO_114000 := n2_; have HO_114001 := n3_; have HO142 := n4_; have BK101 := n5_; have BK113 := n6_; have HB := n7_; clear n0_ n1_ n2_ n3_ n4_ n5_ n6_ n7_; (try clear hb); (try clear hb2); (try clear hk); (try clear hi); (try clear ho0); obtain ⟨Ao104, co104, eo104⟩ := Kd.V_slice HO142.out; subst eo104) | (go_at_call 7; (fail_if_success (have z_ := U_2)); have U_2 := trivial; (with_reducible refine (pre_Needs.calls kj10 a2 _ _ t140 true _ ?gw7_ ?side1 ?side2 A99.out).mono ?_); (case gw7_ => exact z0_); (case side1 => repeat (first | exact (Kd.V_reads' HO142.out).2.2 | (with_reducible refine Kd.C_alloc ?_ _) | (with_reducible refine Kd.C_drewN ?_ _) | (with_reducible refine Kd.C_drew ?_))); (case side2 => exact (Kd.V_reads' HO142.out).2.1); rintro e w105 ⟨rfl, hb⟩; have n0_ := Aside0.mk (Kd.V_below z26_ hb); have n1_ := Aside0.mk (Kd.V_below z17_ hb); have n2_ := Aside0.mk (Kd.V_below z18_ hb); have n3_ := Aside0.mk (Kd.V_below z19_ hb); have n4_ := Aside0.mk (Kd.V_below z27_ hb); have n5_ := Aside0.mk (blk_below (g := gb101) (o := .cells #[.int .i64 a0_0, .slice Ao15 t102.length co15, .string a0_2] 30 (0, 0)) z15_ hb); have n6_ := Aside0.mk (blk_below (g := gb113) (o := .cells #[.slice Ao19 t105.length co19, .slice Ao22 t108.length co22, .int .i64 t111] 33 (0, 0)) z16_ hb); have n7_ := Aside0.mk (below_step z5_ hb); clear HO_13; clear HO_102001; clear HO_114000; clear HO_114001; clear HO142; clear BK101; clear BK113; clear HB; have HO_13 := n0_; have HO_102001 := n1_; have HO_114000 := n2_; have HO_114001 := n3_; have HO142 := n4_; have BK101 := n5_; have BK113 := n6_; have HB := n7_; clear n0_ n1_ n2_ n3_ n4_ n5_ n6_ n7_; (try clear hb); (try clear hb2); (try clear hk); (try clear hi); have hnb106 := NB113_101.out; have hnc106 := NB101_113.out; have hcz107_0 : w105.cell? ⟨gb113, 0, none⟩ = some (.slice Ao19 t105.length co19) := (blk_cell BK113.out 0).trans rfl; have hcz107_1 : w105.cell? ⟨gb113, 1, none⟩ = some (.slice Ao22 t108.length co22) := (blk_cell BK113.out 1).trans rfl; have hcz107_2 : w105.cell? ⟨gb113, 2, none⟩ = some (.int .i64 t111) := (blk_cell BK113.out 2).trans rfl; have hfz107_0 := blk_frozen BK113.out 0; have hfz107_1 := blk_frozen BK113.out 1; have hfz107_2 := blk_frozen BK113.out 2))
        go_ret
        exact ⟨z11_, z5_⟩
       ·rw [if_neg c101] at H
        have c101b0 : decide (0 ≤ t111) = false := decide_eq_false c101; clear c101
        exact absurd ((Option.some.inj H).trans hr_) Bool.false_ne_true
      ·replace c100 := Bool.eq_false_iff.mpr c100
       subst c100
       have H1 : ((pre_Answer_Lets.f t105 t108 t111 a2 t118 a4).bind fun t144 => (if t144 = true then (if t111 ≥ 0 then (some (decide (t111 ≤ 86400))) else (some false)) else (some false))) = some r := by rw [if_neg (show ¬ (false = true) by decide)] at H; exact H
       clear H
       have H := H1
       clear H1
       replace H := Option.bind_eq_some_iff.mp H
       obtain ⟨t144, A1080, H⟩ := H
       replace H : (if t144 = true then (if t111 ≥ 0 then (some (decide (t111 ≤ 86400))) else (some false)) else (some false)) = some r := H
       have A108 := Aside0.mk A1080; clear A1080
       by_cases c109 : t144 = true
       ·subst c109
        have H1 : (if t111 ≥ 0 then (some (decide (t111 ≤ 86400))) else (some false)) = some r := by rw [if_pos rfl] at H; exact H
        clear H
        have H := H1
        clear H1
        by_cases c110 : t111 ≥ 0
        ·rw [if_pos c110] at H
         have c110b0 : decide (0 ≤ t111) = true := decide_eq_true c110; clear c110
         obtain rfl := Option.some.inj H
         go_wp2_with (first | ((with_reducible refine gate_callee (f := 6) rfl ?_); refine goesL_ (some 83) rfl rfl Tryz.func6 (by kernel_rfl) rfl #[] rfl z9_ ?_; (with_reducible refine (pursuivantlaw14_awake.calls kj10  true _ ?gw8_ A96.out (by first | rfl | assumption)).mono ?_); (case gw8_ => exact z0_); rintro e w111 ⟨rfl, hb⟩; refine ⟨_, rfl, ?_⟩; have n0_ := Aside0.mk (Kd.V_below z26_ hb); have n1_ := Aside0.mk (Kd.V_below z17_ hb); have n2_ := Aside0.mk (Kd.V_below z18_ hb); have n3_ := Aside0.mk (Kd.V_below z19_ hb); have n4_ := Aside0.mk (blk_below (g := gb101) (o := .cells #[.int .i64 a0_0, .slice Ao15 t102.length co15, .string a0_2] 30 (0, 0)) z15_ hb); have n5_ := Aside0.mk (blk_below (g := gb113) (o := .cells #[.slice Ao19 t105.length co19, .slice Ao22 t108.length co22, .int .i64 t111] 33 (0, 0)) z16_ hb); have n6_ := Aside0.mk (below_step z5_ hb); clear HO_13; clear HO_102001; clear HO_114000; clear HO_114001; clear BK101; clear BK113; clear HB; have HO_13 := n0_; have HO_102001 := n1_; have HO_114000 := n2_; have HO_114001 := n3_; have BK101 := n4_; have BK113 := n5_; have HB := n6_; clear n0_ n1_ n2_ n3_ n4_ n5_ n6_; (try clear hb); (try clear hb2); (try clear hk); (try clear hi)) | (go_at_call 8; (fail_if_success (have z_ := U_3)); have U_3 := trivial; (with_reducible refine (pursuivantlaw14_few.calls (fun k_ => k_ < w.heap.size) _ _ l3 t140 _ ?gw9_ ?side1 A98.out).mono ?_); (case gw9_ => exact z0_); (case side1 => exact Kd.V_mk HC3.out (Kd.F_below (Kd.C_F k45_heap HR3.out) z5_)); rintro e w112 ⟨v141, rfl, ho0, hb⟩; have n0_ := Aside0.mk (Kd.V_below z26_ hb); have n1_ := Aside0.mk (Kd.V_below z17_ hb); have n2_ := Aside0.mk (Kd.V_below z18_ hb); have n3_ := Aside0.mk (Kd.V_below z19_ hb); have n4_ := Aside0.mk (Kd.V_lower (Kd.V_mono (ok' := fun k_ => k_ ≠ gb101 ∧ k_ ≠ gb113) ho0 (fun k_ hk_ => ⟨Or.elim hk_ (fun hs_ => fun e_ => Nat.not_le.2 hs_ z34_) (fun hn_ => (Kd.freshB (g := gb101) (o := .cells #[.int .i64 a0_0, .slice Ao15 t102.length co15, .string a0_2] 30 (0, 0)) z15_ k_ hn_)), Or.elim hk_ (fun hs_ => fun e_ => Nat.not_le.2 hs_ (by rw [e_]; exact GW113.out)) (fun hn_ => (Kd.freshB (g := gb113) (o := .cells #[.slice Ao19 t105.length co19, .slice Ao22 t108.length co22, .int .i64 t111] 33 (0, 0)) z16_ k_ hn_))⟩)) (below_size z5_)); have n5_ := Aside0.mk (blk_below (g := gb101) (o := .cells #[.int .i64 a0_0, .slice Ao15 t102.length co15, .string a0_2] 30 (0, 0)) z15_ hb); have n6_ := Aside0.mk (blk_below (g := gb113) (o := .cells #[.slice Ao19 t105.length co19, .slice Ao22 t108.length co22, .int .i64 t111] 33 (0, 0)) z16_ hb); have n7_ := Aside0.mk (below_step z5_ hb); clear HO_13; clear HO_102001; clear HO_114000; clear HO_114001; clear BK101; clear BK113; clear HB; have HO_13 := n0_; have HO_102001 := n1_; have HO_114000 := n2_; have HO_114001 := n3_; have HO142 := n4_; have BK101 := n5_; have BK113 := n6_; have HB := n7_; clear n0_ n1_ n2_ n3_ n4_ n5_ n6_ n7_; (try clear hb); (try clear hb2); (try clear hk); (try clear hi); (try clear ho0); obtain ⟨Ao113, co113, eo113⟩ := Kd.V_slice HO142.out; subst eo113) | (go_at_call 7; (fail_if_success (have z_ := U_4)); have U_4 := trivial; (with_reducible refine (pre_Needs.calls kj10 a2 _ _ t140 false _ ?gw10_ ?side1 ?side2 A99.out).mono ?_); (case gw10_ => exact z0_); (case side1 => repeat (first | exact (Kd.V_reads' HO142.out).2.2 | (with_reducible refine Kd.C_alloc ?_ _) | (with_reducible refine Kd.C_drewN ?_ _) | (with_reducible refine Kd.C_drew ?_))); (case side2 => exact (Kd.V_reads' HO142.out).2.1); rintro e w114 ⟨rfl, hb⟩; have n0_ := Aside0.mk (Kd.V_below z26_ hb); have n1_ := Aside0.mk (Kd.V_below z17_ hb); have n2_ := Aside0.mk (Kd.V_below z18_ hb); have n3_ := Aside0.mk (Kd.V_below z19_ hb); have n4_ := Aside0.mk (Kd.V_below z27_ hb); have n5_ := Aside0.mk (blk_below (g := gb101) (o := .cells #[.int .i64 a0_0, .slice Ao15 t102.length co15, .string a0_2] 30 (0, 0)) z15_ hb); have n6_ := Aside0.mk (blk_below (g := gb113) (o := .cells #[.slice Ao19 t105.length co19, .slice Ao22 t108.length co22, .int .i64 t111] 33 (0, 0)) z16_ hb); have n7_ := Aside0.mk (below_step z5_ hb); clear HO_13; clear HO_102001; clear HO_114000; clear HO_114001; clear HO142; clear BK101; clear BK113; clear HB; have HO_13 := n0_; have HO_102001 := n1_; have HO_114000 := n2_; have HO_114001 := n3_; have HO142 := n4_; have BK101 := n5_; have BK113 := n6_; have HB := n7_; clear n0_ n1_ n2_ n3_ n4_ n5_ n6_ n7_; (try clear hb); (try clear hb2); (try clear hk); (try clear hi); have hnb115 := NB113_101.out; have hnc115 := NB101_113.out; have hcz116_0 : w114.cell? ⟨gb113, 0, none⟩ = some (.slice Ao19 t105.length co19) := (blk_cell BK113.out 0).trans rfl; have hcz116_1 : w114.cell? ⟨gb113, 1, none⟩ = some (.slice Ao22 t108.length co22) := (blk_cell BK113.out 1).trans rfl; have hcz116_2 : w114.cell? ⟨gb113, 2, none⟩ = some (.int .i64 t111) := (blk_cell BK113.out 2).trans rfl; have hfz116_0 := blk_frozen BK113.out 0; have hfz116_1 := blk_frozen BK113.out 1; have hfz116_2 := blk_frozen BK113.out 2; obtain ⟨Ao117, co117, eo117⟩ := Kd.V_slice HO_13.out; subst eo117) | (go_at_call 16; (fail_if_success (have z_ := U_5)); have U_5 := trivial; (with_reducible refine (pre_Answer_Lets.calls _ _ t105 _ _ t108 t111 a2 _ _ t118 a4 true _ ?gw11_ ?side1 ?side2 ?side3 ?side4 ?side5 ?side6 A108.out).mono ?_); (case gw11_ => exact z0_); (case side1 => repeat (first | exact (Kd.V_reads' HO_114000.out).2.2 | (with_reducible refine Kd.C_alloc ?_ _) | (with_reducible refine Kd.C_drewN ?_ _) | (with_reducible refine Kd.C_drew ?_))); (case side2 => exact (Kd.V_reads' HO_114000.out).2.1); (case side3 => repeat (first | exact (Kd.V_reads' HO_114001.out).2.2 | (with_reducible refine Kd.C_alloc ?_ _) | (with_reducible refine Kd.C_drewN ?_ _) | (with_reducible refine Kd.C_drew ?_))); (case side4 => exact (Kd.V_reads' HO_114001.out).2.1); (case side5 => repeat (first | exact (Kd.V_reads' HO_13.out).2.2 | (with_reducible refine Kd.C_alloc ?_ _) | (with_reducible refine Kd.C_drewN ?_ _) | (with_reducible refine Kd.C_drew ?_))); (case side6 => exact (Kd.V_reads' HO_13.out).2.1); rintro e w118 ⟨rfl, hb⟩; have n0_ := Aside0.mk (Kd.V_below z26_ hb); have n1_ := Aside0.mk (Kd.V_below z17_ hb); have n2_ := Aside0.mk (Kd.V_below z18_ hb); have n3_ := Aside0.mk (Kd.V_below z19_ hb); have n4_ := Aside0.mk (Kd.V_below z27_ hb); have n5_ := Aside0.mk (blk_below (g := gb101) (o := .cells #[.int .i64 a0_0, .slice Ao15 t102.length co15, .string a0_2] 30 (0, 0)) z15_ hb); have n6_ := Aside0.mk (blk_below (g := gb113) (o := .cells #[.slice Ao19 t105.length co19, .slice Ao22 t108.length co22, .int .i64 t111] 33 (0, 0)) z16_ hb); have n7_ := Aside0.mk (below_step z5_ hb); clear HO_13; clear HO_102001; clear HO_114000; clear HO_114001; clear HO142; clear BK101; clear BK113; clear HB; have HO_13 := n0_; have HO_102001 := n1_; have HO_114000 := n2_; have HO_114001 := n3_; have HO142 := n4_; have BK101 := n5_; have BK113 := n6_; have HB := n7_; clear n0_ n1_ n2_ n3_ n4_ n5_ n6_ n7_; (try clear hb); (try clear hb2); (try clear hk); (try clear hi); have hcz119_0 : w118.cell? ⟨gb113, 0, none⟩ = some (.slice Ao19 t105.length co19) := (blk_cell BK113.out 0).trans rfl; have hcz119_1 : w118.cell? ⟨gb113, 1, none⟩ = some (.slice Ao22 t108.length co22) := (blk_cell BK113.out 1).trans rfl; have hcz119_2 : w118.cell? ⟨gb113, 2, none⟩ = some (.int .i64 t111) := (blk_cell BK113.out 2).trans rfl; have hfz119_0 := blk_frozen BK113.out 0; have hfz119_1 := blk_frozen BK113.out 1; have hfz119_2 := blk_frozen BK113.out 2))
         go_ret
         exact ⟨z11_, z5_⟩
        ·rw [if_neg c110] at H
         have c110b0 : decide (0 ≤ t111) = false := decide_eq_false c110; clear c110
         exact absurd ((Option.some.inj H).trans hr_) Bool.false_ne_true
       ·replace c109 := Bool.eq_false_iff.mpr c109
        subst c109
        have H1 : (some false) = some r := by rw [if_neg (show ¬ (false = true) by decide)] at H; exact H
        clear H
        have H := H1
        clear H1
        exact absurd ((Option.some.inj H).trans hr_) Bool.false_ne_true
     ·replace c97 := Bool.eq_false_iff.mpr c97
      subst c97
      have H1 : (some false) = some r := by rw [if_neg (show ¬ (false = true) by decide)] at H; exact H
      clear H
      have H := H1
      clear H1
      exact absurd ((Option.some.inj H).trans hr_) Bool.false_ne_true
 ·replace c8 := Bool.eq_false_iff.mpr c8
  subst c8
  have H1 : ((pursuivantlaw14_awake.f k).bind fun t114 => (if t114 = true then (some ((wrap64 ((wrap64 ((t105.length : Int) + (t108.length : Int))) + t111)) == 0)) else (some false))) = some r := by rw [if_neg (show ¬ (false = true) by decide)] at H; exact H
  clear H
  have H := H1
  clear H1
  replace H := Option.bind_eq_some_iff.mp H
  obtain ⟨t114, A1200, H⟩ := H
  replace H : (if t114 = true then (some ((wrap64 ((wrap64 ((t105.length : Int) + (t108.length : Int))) + t111)) == 0)) else (some false)) = some r := H
  have A120 := Aside0.mk A1200; clear A1200
  by_cases c121 : t114 = true
  ·subst c121
   have H1 : (some ((wrap64 ((wrap64 ((t105.length : Int) + (t108.length : Int))) + t111)) == 0)) = some r := by rw [if_pos rfl] at H; exact H
   clear H
   have H := H1
   clear H1
   obtain rfl := Option.some.inj H
   go_enter Tryz.func5, Tryz.ntmps5
   go_wp2_with (first | ((with_reducible refine gate_dst (N := 5) rfl ?_); (try (refine gate_guard (by rfl) ?_; dsimp only)); refine box_event ?hg (N := 5) ?hd (cs := #[.int .i64 a0_0, .slice A0_1 l0_1.length c0_1, .string a0_2]) (t := 30) ?hr ?_; (case hd => rfl); (case hg => rfl); (case hr => first | (go_simp; done) | (go_simp; rfl)); intro gb101 hg w122 hbox hb; have n0_ := Aside0.mk (below_step z10_ hb); have n1_ := Aside0.mk (hbox); have n2_ := Aside0.mk ((by rw [hg]; exact (below_size z10_) : w.heap.size ≤ gb101)); have n3_ := Aside0.mk ((by rw [hg]; exact (below_size z10_) : w.heap.size ≤ gb101)); clear HB; have HB := n0_; have BK101 := n1_; have GW101 := n2_; have GE101 := n3_; clear n0_ n1_ n2_ n3_; clear hb hbox hg; have hcz123_0 : w122.cell? ⟨gb101, 0, none⟩ = some (.int .i64 a0_0) := (blk_cell BK101.out 0).trans rfl; have hcz123_1 : w122.cell? ⟨gb101, 1, none⟩ = some (.slice A0_1 l0_1.length c0_1) := (blk_cell BK101.out 1).trans rfl; have hcz123_2 : w122.cell? ⟨gb101, 2, none⟩ = some (.string a0_2) := (blk_cell BK101.out 2).trans rfl; have hfz123_0 := blk_frozen BK101.out 0; have hfz123_1 := blk_frozen BK101.out 1; have hfz123_2 := blk_frozen BK101.out 2) | ((with_reducible refine gate_callee (f := 8) rfl ?_); refine goesL_ (some 16) rfl rfl Tryz.func8 (by kernel_rfl) rfl #[.slice A0_1 l0_1.length c0_1] rfl z9_ ?_; (with_reducible refine (pursuivantlaw14_few.calls (fun k_ => k_ < w.heap.size) _ _ l0_1 t102 _ ?gw12_ ?side1 A6.out).mono ?_); (case gw12_ => exact z0_); (case side1 => exact Kd.V_mk HC0_1.out (Kd.F_below (Kd.C_F k45_heap HR0_1.out) z8_)); rintro e w124 ⟨v103, rfl, ho0, hb⟩; refine ⟨_, rfl, ?_⟩; have n0_ := Aside0.mk (Kd.V_lower (Kd.V_mono (ok' := fun k_ => k_ ≠ gb101) ho0 (fun k_ hk_ => Or.elim hk_ (fun hs_ => fun e_ => Nat.not_le.2 hs_ z34_) (fun hn_ => (Kd.freshB (g := gb101) (o := .cells #[.int .i64 a0_0, .slice A0_1 l0_1.length c0_1, .string a0_2] 30 (0, 0)) z15_ k_ hn_)))) (below_size z8_)); have n1_ := Aside0.mk (blk_below (g := gb101) (o := .cells #[.int .i64 a0_0, .slice A0_1 l0_1.length c0_1, .string a0_2] 30 (0, 0)) z15_ hb); have n2_ := Aside0.mk (below_step z8_ hb); clear BK101; clear HB; have HO104 := n0_; have BK101 := n1_; have HB := n2_; clear n0_ n1_ n2_; (try clear hb); (try clear hb2); (try clear hk); (try clear hi); (try clear ho0); obtain ⟨Ao125, co125, eo125⟩ := Kd.V_slice HO104.out; subst eo125; have hcz126_0 : w124.cell? ⟨gb101, 0, none⟩ = some (.int .i64 a0_0) := (blk_cell BK101.out 0).trans rfl; have hcz126_1 : w124.cell? ⟨gb101, 1, none⟩ = some (.slice A0_1 l0_1.length c0_1) := (blk_cell BK101.out 1).trans rfl; have hcz126_2 : w124.cell? ⟨gb101, 2, none⟩ = some (.string a0_2) := (blk_cell BK101.out 2).trans rfl; have hfz126_0 := blk_frozen BK101.out 0; have hfz126_1 := blk_frozen BK101.out 1; have hfz126_2 := blk_frozen BK101.out 2) | ((with_reducible refine gate_callee (f := 13) rfl ?_); refine goesL_ (some 22) rfl rfl Tryz.func13 (by kernel_rfl) rfl #[.agg #[.int .i64 a0_0, .slice Ao125 t102.length co125, .string a0_2], .string a1, .int .i64 a4] rfl z9_ ?_; (with_reducible refine (pre_Read.calls a0_0 _ _ t102 a0_2 a1 a4 t105 t108 t111 false _ ?gw13_ ?side1 ?side2 A7.out).mono ?_); (case gw13_ => exact z0_); (case side1 => refine (Kd.V_reads' (e := 45) (base := w.heap.size) (ok := fun k_ => k_ ≠ gb101) (n := t102.length) (c := co125) ?_).2.2; exact (by (with_reducible repeat (first | apply Kd.V_alloc | apply Kd.V_drewN | apply Kd.V_drew)); exact (Kd.V_mono (Kd.V_far (p := ⟨gb101, 1, none⟩) (Kd.V_mono HO104.out (fun k_ hk => (⟨hk, hk⟩ : _ ∧ k_ ≠ gb101))) (fun _ hk => hk.2) (.slice Ao125 t102.length co125)) (fun _ h_ => h_.1)))); (case side2 => exact (Kd.V_reads' HO104.out).2.1); rintro e w127 ⟨v106, v109, rfl, ho0, ho1, hb⟩; refine ⟨_, rfl, ?_⟩; have n0_ := Aside0.mk (Kd.V_below (by (with_reducible repeat (first | apply Kd.V_alloc | apply Kd.V_drewN | apply Kd.V_drew)); exact (Kd.V_mono (Kd.V_far (p := ⟨gb101, 1, none⟩) (Kd.V_mono HO104.out (fun k_ hk => (⟨hk, hk⟩ : _ ∧ k_ ≠ gb101))) (fun _ hk => hk.2) (.slice Ao125 t102.length co125)) (fun _ h_ => h_.1))) hb); have n1_ := Aside0.mk (Kd.V_lower (Kd.V_mono (ok' := fun k_ => k_ ≠ gb101) ho0 (fun k_ hk_ => (Kd.freshB (g := gb101) (o := .cells #[.int .i64 a0_0, .slice Ao125 t102.length co125, .string a0_2] 30 (0, 0)) z4_ k_ hk_))) (below_size z8_)); have n2_ := Aside0.mk (Kd.V_lower (Kd.V_mono (ok' := fun k_ => k_ ≠ gb101) ho1 (fun k_ hk_ => (Kd.freshB (g := gb101) (o := .cells #[.int .i64 a0_0, .slice Ao125 t102.length co125, .string a0_2] 30 (0, 0)) z4_ k_ hk_))) (below_size z8_)); have n3_ := Aside0.mk (blk_below (g := gb101) (o := .cells #[.int .i64 a0_0, .slice Ao125 t102.length co125, .string a0_2] 30 (0, 0)) z4_ hb); have n4_ := Aside0.mk (below_step z8_ hb); clear HO104; clear BK101; clear HB; have HO104 := n0_; have HO107 := n1_; have HO110 := n2_; have BK101 := n3_; have HB := n4_; clear n0_ n1_ n2_ n3_ n4_; (try clear hb); (try clear hb2); (try clear hk); (try clear hi); (try clear ho0); (try clear ho1)) | ((with_reducible refine gate_dst (N := 11) rfl ?_); (try (refine gate_guard (by rfl) ?_; dsimp only)); refine box_event ?hg (N := 11) ?hd (cs := #[.slice none 0 0, .slice none 0 0, .int .i64 0]) (t := 33) ?hr ?_; (case hd => rfl); (case hg => rfl); (case hr => first | (go_simp; done) | (go_simp; rfl)); intro gb113 hg w128 hbox hb; have n0_ := Aside0.mk (Kd.V_below (Kd.V_elderB z23_ gb113 (Nat.le_of_eq hg.symm)) hb); have n1_ := Aside0.mk (Kd.V_below (Kd.V_elderB z24_ gb113 (Nat.le_of_eq hg.symm)) hb); have n2_ := Aside0.mk (Kd.V_below (Kd.V_elderB z21_ gb113 (Nat.le_of_eq hg.symm)) hb); have n3_ := Aside0.mk (blk_below (g := gb101) (o := .cells #[.int .i64 a0_0, .slice Ao125 t102.length co125, .string a0_2] 30 (0, 0)) z15_ hb); have n4_ := Aside0.mk (below_step z8_ hb); have n5_ := Aside0.mk (hbox); have n6_ := Aside0.mk ((by rw [hg]; exact (below_size z8_) : w.heap.size ≤ gb113)); have n7_ := Aside0.mk ((by rw [hg]; exact (below_size z8_) : w.heap.size ≤ gb113)); have n8_ := Aside0.mk ((by rw [hg]; exact Nat.ne_of_lt (blk_lt (g := gb101) (o := .cells #[.int .i64 a0_0, .slice Ao125 t102.length co125, .string a0_2] 30 (0, 0)) z15_) : gb101 ≠ gb113)); have n9_ := Aside0.mk ((by rw [hg]; exact Nat.ne_of_gt (blk_lt (g := gb101) (o := .cells #[.int .i64 a0_0, .slice Ao125 t102.length co125, .string a0_2] 30 (0, 0)) z15_) : gb113 ≠ gb101)); clear HO104; clear HO107; clear HO110; clear BK101; clear HB; have HO104 := n0_; have HO107 := n1_; have HO110 := n2_; have BK101 := n3_; have HB := n4_; have BK113 := n5_; have GW113 := n6_; have GE113 := n7_; have NB101_113 := n8_; have NB113_101 := n9_; clear n0_ n1_ n2_ n3_ n4_ n5_ n6_ n7_ n8_ n9_; clear hb hbox hg; obtain ⟨Ao129, co129, eo129⟩ := Kd.V_slice HO107.out; subst eo129; have hnb130 := NB113_101.out; have hnc130 := NB101_113.out; have hcz131_0 : w128.cell? ⟨gb113, 0, none⟩ = some (.slice none 0 0) := (blk_cell BK113.out 0).trans rfl; have hcz131_1 : w128.cell? ⟨gb113, 1, none⟩ = some (.slice none 0 0) := (blk_cell BK113.out 1).trans rfl; have hcz131_2 : w128.cell? ⟨gb113, 2, none⟩ = some (.int .i64 0) := (blk_cell BK113.out 2).trans rfl; have hfz131_0 := blk_frozen BK113.out 0; have hfz131_1 := blk_frozen BK113.out 1; have hfz131_2 := blk_frozen BK113.out 2; obtain ⟨Ao132, co132, eo132⟩ := Kd.V_slice HO110.out; subst eo132) | ((with_reducible refine gate_callee (f := 6) rfl ?_); refine goesL_ (some 27) rfl rfl Tryz.func6 (by kernel_rfl) rfl #[] rfl z9_ ?_; (with_reducible refine (pursuivantlaw14_awake.calls k  true _ ?gw14_ A120.out (by first | rfl | assumption)).mono ?_); (case gw14_ => exact z0_); rintro e w133 ⟨rfl, hb⟩; refine ⟨_, rfl, ?_⟩; have n0_ := Aside0.mk (Kd.V_below (by (with_reducible repeat (first | apply Kd.V_alloc | apply Kd.V_drewN | apply Kd.V_drew)); exact (Kd.V_mono (Kd.V_far (p := ⟨gb113, 2, none⟩) (Kd.V_far (p := ⟨gb113, 1, none⟩) (Kd.V_far (p := ⟨gb113, 0, none⟩) (Kd.V_mono HO104.out (fun k_ hk => (⟨hk, hk.2⟩ : _ ∧ k_ ≠ gb113))) (fun _ hk => hk.2) (.slice Ao129 t105.length co129)) (fun _ hk => hk.2) (.slice Ao132 t108.length co132)) (fun _ hk => hk.2) (.int .i64 t111)) (fun _ h_ => h_.1))) hb); have n1_ := Aside0.mk (Kd.V_below (by (with_reducible repeat (first | apply Kd.V_alloc | apply Kd.V_drewN | apply Kd.V_drew)); exact (Kd.V_mono (Kd.V_far (p := ⟨gb113, 2, none⟩) (Kd.V_far (p := ⟨gb113, 1, none⟩) (Kd.V_far (p := ⟨gb113, 0, none⟩) (Kd.V_mono HO107.out (fun k_ hk => (⟨hk, hk.2⟩ : _ ∧ k_ ≠ gb113))) (fun _ hk => hk.2) (.slice Ao129 t105.length co129)) (fun _ hk => hk.2) (.slice Ao132 t108.length co132)) (fun _ hk => hk.2) (.int .i64 t111)) (fun _ h_ => h_.1))) hb); have n2_ := Aside0.mk (Kd.V_below (by (with_reducible repeat (first | apply Kd.V_alloc | apply Kd.V_drewN | apply Kd.V_drew)); exact (Kd.V_mono (Kd.V_far (p := ⟨gb113, 2, none⟩) (Kd.V_far (p := ⟨gb113, 1, none⟩) (Kd.V_far (p := ⟨gb113, 0, none⟩) (Kd.V_mono HO110.out (fun k_ hk => (⟨hk, hk.2⟩ : _ ∧ k_ ≠ gb113))) (fun _ hk => hk.2) (.slice Ao129 t105.length co129)) (fun _ hk => hk.2) (.slice Ao132 t108.length co132)) (fun _ hk => hk.2) (.int .i64 t111)) (fun _ h_ => h_.1))) hb); have n3_ := Aside0.mk (blk_below (g := gb101) (o := .cells #[.int .i64 a0_0, .slice Ao125 t102.length co125, .string a0_2] 30 (0, 0)) (by (with_reducible repeat (first | refine blk_drewN ?_ _ | refine blk_drew ?_ | refine blk_alloc ?_ _)); refine blk_far ?_ NB101_113.out _; (with_reducible repeat (first | refine blk_drewN ?_ _ | refine blk_drew ?_ | refine blk_alloc ?_ _)); refine blk_far ?_ NB101_113.out _; (with_reducible repeat (first | refine blk_drewN ?_ _ | refine blk_drew ?_ | refine blk_alloc ?_ _)); refine blk_far ?_ NB101_113.out _; (with_reducible repeat (first | refine blk_drewN ?_ _ | refine blk_drew ?_ | refine blk_alloc ?_ _)); exact BK101.out) hb); have n4_ := Aside0.mk (blk_below (g := gb113) (o := .cells #[.slice Ao129 t105.length co129, .slice Ao132 t108.length co132, .int .i64 t111] 33 (0, 0)) (by (with_reducible repeat (first | refine blk_drewN ?_ _ | refine blk_drew ?_ | refine blk_alloc ?_ _)); refine blk_put (cs := #[.slice Ao129 t105.length co129, .slice Ao132 t108.length co132, .int .i64 0]) ?_ 2 _ rfl; (with_reducible repeat (first | refine blk_drewN ?_ _ | refine blk_drew ?_ | refine blk_alloc ?_ _)); refine blk_put (cs := #[.slice Ao129 t105.length co129, .slice none 0 0, .int .i64 0]) ?_ 1 _ rfl; (with_reducible repeat (first | refine blk_drewN ?_ _ | refine blk_drew ?_ | refine blk_alloc ?_ _)); refine blk_put (cs := #[.slice none 0 0, .slice none 0 0, .int .i64 0]) ?_ 0 _ rfl; (with_reducible repeat (first | refine blk_drewN ?_ _ | refine blk_drew ?_ | refine blk_alloc ?_ _)); exact BK113.out) hb); have n5_ := Aside0.mk (below_step z5_ hb); clear HO104; clear HO107; clear HO110; clear BK101; clear BK113; clear HB; have HO104 := n0_; have HO107 := n1_; have HO110 := n2_; have BK101 := n3_; have BK113 := n4_; have HB := n5_; clear n0_ n1_ n2_ n3_ n4_ n5_; (try clear hb); (try clear hb2); (try clear hk); (try clear hi); have hcz134_0 : w133.cell? ⟨gb113, 0, none⟩ = some (.slice Ao129 t105.length co129) := (blk_cell BK113.out 0).trans rfl; have hcz134_1 : w133.cell? ⟨gb113, 1, none⟩ = some (.slice Ao132 t108.length co132) := (blk_cell BK113.out 1).trans rfl; have hcz134_2 : w133.cell? ⟨gb113, 2, none⟩ = some (.int .i64 t111) := (blk_cell BK113.out 2).trans rfl; have hfz134_0 := blk_frozen BK113.out 0; have hfz134_1 := blk_frozen BK113.out 1; have hfz134_2 := blk_frozen BK113.out 2))
   go_ret
   exact ⟨z11_, z5_⟩
  ·replace c121 := Bool.eq_false_iff.mpr c121
   subst c121
   have H1 : (some false) = some r := by rw [if_neg (show ¬ (false = true) by decide)] at H; exact H
   clear H
   have H := H1
   clear H1
   exact absurd ((Option.some.inj H).trans hr_) Bool.false_ne_true

end Go.Proofs.YtfibkgmbgdaeoaaGreatDoor.Hand
