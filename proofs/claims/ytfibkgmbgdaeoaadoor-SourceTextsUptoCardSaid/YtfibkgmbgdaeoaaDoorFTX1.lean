/- What each Go function here computes, and that its call computes it, over contracts proved by hand (written by this project's xprint.py, which drives the kit's print). -/
import Derived.Test.YtfibkgmbgdaeoaaDoorZ
import Derived.Test.YtfibkgmbgdaeoaaDoorK
import Derived.Test.YtfibkgmbgdaeoaaDoorSrcP
import Derived.Test.YtfibkgmbgdaeoaaDoorSrcG
import Derived.Test.YtfibkgmbgdaeoaaDoorFA1
import Derived.Test.YtfibkgmbgdaeoaaDoorFA2
import Derived.Test.YtfibkgmbgdaeoaaDoorFA3
import Derived.Test.YtfibkgmbgdaeoaaDoorFU1
import Derived.Test.YtfibkgmbgdaeoaaDoorFS2
import Derived.Test.YtfibkgmbgdaeoaaDoorFS3
namespace Go.Proofs.YtfibkgmbgdaeoaaDoor.Hand
open Go.RowKit Go.Proofs.YtfibkgmbgdaeoaaDoorW.PrintWords Go.Proofs.YtfibkgmbgdaeoaaDoorW.PrintLast Go.Proofs.YtfibkgmbgdaeoaaDoorW.PrintMore
attribute [local go_sem] Instr.field asAgg max2_int min2_int max_two min_two max_three min_three max_four min_four   -- for this text's walks alone
set_option linter.unusedVariables false
set_option linter.unusedSimpArgs false

def pursuivantlaw11_awake.f (k : Nat)  : Option (Bool) := (source_Parse.f k (⟨#[72, 84, 84, 80, 83, 58, 47, 47, 42, 46, 69, 120, 97, 109, 112, 108, 101, 58, 42, 47, 97, 47]⟩ : ByteArray)).bind fun bt101 => ((source_Parse.f k (⟨#[39, 117, 110, 115, 97, 102, 101, 45, 105, 110, 108, 105, 110, 101, 39]⟩ : ByteArray)).bind fun bt110 => (if bt101.2.2.2.2.2.2.2 = true then (if bt110.2.2.2.2.2.2.2 = true then (some false) else ((source_Text.f k bt101.1 bt101.2.1 bt101.2.2.1 bt101.2.2.2.1 bt101.2.2.2.2.1 bt101.2.2.2.2.2.1 bt101.2.2.2.2.2.2.1).bind fun t120 => (if t120.toList = ([104, 116, 116, 112, 115, 58, 47, 47, 42, 46, 101, 120, 97, 109, 112, 108, 101, 58, 42, 47, 97, 47] : List UInt8) then ((source_Match.f k bt101.1 bt101.2.1 bt101.2.2.1 bt101.2.2.2.1 bt101.2.2.2.2.1 bt101.2.2.2.2.2.1 bt101.2.2.2.2.2.2.1 (⟨#[104, 116, 116, 112, 115]⟩ : ByteArray) (⟨#[]⟩ : ByteArray) (⟨#[97, 46, 101, 120, 97, 109, 112, 108, 101]⟩ : ByteArray) 8 (⟨#[47, 97, 47, 98]⟩ : ByteArray) false (⟨#[]⟩ : ByteArray) false (⟨#[]⟩ : ByteArray) (⟨#[]⟩ : ByteArray) (⟨#[]⟩ : ByteArray) 0 false).bind fun t121 => (if t121 = true then ((source_Good.f k bt101.1 bt101.2.1 bt101.2.2.1 bt101.2.2.2.1 bt101.2.2.2.2.1 bt101.2.2.2.2.2.1 bt101.2.2.2.2.2.2.1).bind fun t122 => (some t122)) else (some false))) else (some false)))) else (some false)))
set_option maxHeartbeats 8000000 in
set_option maxRecDepth 100000 in
theorem pursuivantlaw11_awake.calls (k : Nat)  (r : Bool) (w : World) (hG_ : GW w) (h : pursuivantlaw11_awake.f k  = some r) (hr_ : r = true) :
  Calls Tryd.prog 4 #[] w fun e w' => e = .returned (.bool r) ∧ Below w.heap.size w w' := by
 have hu23 := Tryd.underlying23
 have hu31 := Tryd.underlying31
 have hu34 := Tryd.underlying34
 have HB := Aside0.mk (Below.refl w.heap.size w)
 have H : ((source_Parse.f k (⟨#[72, 84, 84, 80, 83, 58, 47, 47, 42, 46, 69, 120, 97, 109, 112, 108, 101, 58, 42, 47, 97, 47]⟩ : ByteArray)).bind fun bt101 => ((source_Parse.f k (⟨#[39, 117, 110, 115, 97, 102, 101, 45, 105, 110, 108, 105, 110, 101, 39]⟩ : ByteArray)).bind fun bt110 => (if bt101.2.2.2.2.2.2.2 = true then (if bt110.2.2.2.2.2.2.2 = true then (some false) else ((source_Text.f k bt101.1 bt101.2.1 bt101.2.2.1 bt101.2.2.2.1 bt101.2.2.2.2.1 bt101.2.2.2.2.2.1 bt101.2.2.2.2.2.2.1).bind fun t120 => (if t120.toList = ([104, 116, 116, 112, 115, 58, 47, 47, 42, 46, 101, 120, 97, 109, 112, 108, 101, 58, 42, 47, 97, 47] : List UInt8) then ((source_Match.f k bt101.1 bt101.2.1 bt101.2.2.1 bt101.2.2.2.1 bt101.2.2.2.2.1 bt101.2.2.2.2.2.1 bt101.2.2.2.2.2.2.1 (⟨#[104, 116, 116, 112, 115]⟩ : ByteArray) (⟨#[]⟩ : ByteArray) (⟨#[97, 46, 101, 120, 97, 109, 112, 108, 101]⟩ : ByteArray) 8 (⟨#[47, 97, 47, 98]⟩ : ByteArray) false (⟨#[]⟩ : ByteArray) false (⟨#[]⟩ : ByteArray) (⟨#[]⟩ : ByteArray) (⟨#[]⟩ : ByteArray) 0 false).bind fun t121 => (if t121 = true then ((source_Good.f k bt101.1 bt101.2.1 bt101.2.2.1 bt101.2.2.2.1 bt101.2.2.2.2.1 bt101.2.2.2.2.2.1 bt101.2.2.2.2.2.2.1).bind fun t122 => (some t122)) else (some false))) else (some false)))) else (some false)))) = some r := h
 clear h
 replace H := Option.bind_eq_some_iff.mp H
 obtain ⟨⟨t101, t102, t103, t104, t105, t106, t107, t108⟩, A10, H⟩ := H
 replace H : ((source_Parse.f k (⟨#[39, 117, 110, 115, 97, 102, 101, 45, 105, 110, 108, 105, 110, 101, 39]⟩ : ByteArray)).bind fun bt110 => (if t108 = true then (if bt110.2.2.2.2.2.2.2 = true then (some false) else ((source_Text.f k t101 t102 t103 t104 t105 t106 t107).bind fun t120 => (if t120.toList = ([104, 116, 116, 112, 115, 58, 47, 47, 42, 46, 101, 120, 97, 109, 112, 108, 101, 58, 42, 47, 97, 47] : List UInt8) then ((source_Match.f k t101 t102 t103 t104 t105 t106 t107 (⟨#[104, 116, 116, 112, 115]⟩ : ByteArray) (⟨#[]⟩ : ByteArray) (⟨#[97, 46, 101, 120, 97, 109, 112, 108, 101]⟩ : ByteArray) 8 (⟨#[47, 97, 47, 98]⟩ : ByteArray) false (⟨#[]⟩ : ByteArray) false (⟨#[]⟩ : ByteArray) (⟨#[]⟩ : ByteArray) (⟨#[]⟩ : ByteArray) 0 false).bind fun t121 => (if t121 = true then ((source_Good.f k t101 t102 t103 t104 t105 t106 t107).bind fun t122 => (some t122)) else (some false))) else (some false)))) else (some false))) = some r := H
 have A1 := Aside0.mk A10; clear A10
 replace H := Option.bind_eq_some_iff.mp H
 obtain ⟨⟨t110, t111, t112, t113, t114, t115, t116, t117⟩, A20, H⟩ := H
 replace H : (if t108 = true then (if t117 = true then (some false) else ((source_Text.f k t101 t102 t103 t104 t105 t106 t107).bind fun t120 => (if t120.toList = ([104, 116, 116, 112, 115, 58, 47, 47, 42, 46, 101, 120, 97, 109, 112, 108, 101, 58, 42, 47, 97, 47] : List UInt8) then ((source_Match.f k t101 t102 t103 t104 t105 t106 t107 (⟨#[104, 116, 116, 112, 115]⟩ : ByteArray) (⟨#[]⟩ : ByteArray) (⟨#[97, 46, 101, 120, 97, 109, 112, 108, 101]⟩ : ByteArray) 8 (⟨#[47, 97, 47, 98]⟩ : ByteArray) false (⟨#[]⟩ : ByteArray) false (⟨#[]⟩ : ByteArray) (⟨#[]⟩ : ByteArray) (⟨#[]⟩ : ByteArray) 0 false).bind fun t121 => (if t121 = true then ((source_Good.f k t101 t102 t103 t104 t105 t106 t107).bind fun t122 => (some t122)) else (some false))) else (some false)))) else (some false)) = some r := H
 have A2 := Aside0.mk A20; clear A20
 by_cases c3 : t108 = true
 ·subst c3
  have H1 : (if t117 = true then (some false) else ((source_Text.f k t101 t102 t103 t104 t105 t106 t107).bind fun t120 => (if t120.toList = ([104, 116, 116, 112, 115, 58, 47, 47, 42, 46, 101, 120, 97, 109, 112, 108, 101, 58, 42, 47, 97, 47] : List UInt8) then ((source_Match.f k t101 t102 t103 t104 t105 t106 t107 (⟨#[104, 116, 116, 112, 115]⟩ : ByteArray) (⟨#[]⟩ : ByteArray) (⟨#[97, 46, 101, 120, 97, 109, 112, 108, 101]⟩ : ByteArray) 8 (⟨#[47, 97, 47, 98]⟩ : ByteArray) false (⟨#[]⟩ : ByteArray) false (⟨#[]⟩ : ByteArray) (⟨#[]⟩ : ByteArray) (⟨#[]⟩ : ByteArray) 0 false).bind fun t121 => (if t121 = true then ((source_Good.f k t101 t102 t103 t104 t105 t106 t107).bind fun t122 => (some t122)) else (some false))) else (some false)))) = some r := by rw [if_pos rfl] at H; exact H
  clear H
  have H := H1
  clear H1
  by_cases c4 : t117 = true
  ·subst c4
   have H1 : (some false) = some r := by rw [if_pos rfl] at H; exact H
   clear H
   have H := H1
   clear H1
   exact absurd ((Option.some.inj H).trans hr_) Bool.false_ne_true
  ·replace c4 := Bool.eq_false_iff.mpr c4
   subst c4
   have H1 : ((source_Text.f k t101 t102 t103 t104 t105 t106 t107).bind fun t120 => (if t120.toList = ([104, 116, 116, 112, 115, 58, 47, 47, 42, 46, 101, 120, 97, 109, 112, 108, 101, 58, 42, 47, 97, 47] : List UInt8) then ((source_Match.f k t101 t102 t103 t104 t105 t106 t107 (⟨#[104, 116, 116, 112, 115]⟩ : ByteArray) (⟨#[]⟩ : ByteArray) (⟨#[97, 46, 101, 120, 97, 109, 112, 108, 101]⟩ : ByteArray) 8 (⟨#[47, 97, 47, 98]⟩ : ByteArray) false (⟨#[]⟩ : ByteArray) false (⟨#[]⟩ : ByteArray) (⟨#[]⟩ : ByteArray) (⟨#[]⟩ : ByteArray) 0 false).bind fun t121 => (if t121 = true then ((source_Good.f k t101 t102 t103 t104 t105 t106 t107).bind fun t122 => (some t122)) else (some false))) else (some false))) = some r := by rw [if_neg (show ¬ (false = true) by decide)] at H; exact H
   clear H
   have H := H1
   clear H1
   replace H := Option.bind_eq_some_iff.mp H
   obtain ⟨t120, A50, H⟩ := H
   replace H : (if t120.toList = ([104, 116, 116, 112, 115, 58, 47, 47, 42, 46, 101, 120, 97, 109, 112, 108, 101, 58, 42, 47, 97, 47] : List UInt8) then ((source_Match.f k t101 t102 t103 t104 t105 t106 t107 (⟨#[104, 116, 116, 112, 115]⟩ : ByteArray) (⟨#[]⟩ : ByteArray) (⟨#[97, 46, 101, 120, 97, 109, 112, 108, 101]⟩ : ByteArray) 8 (⟨#[47, 97, 47, 98]⟩ : ByteArray) false (⟨#[]⟩ : ByteArray) false (⟨#[]⟩ : ByteArray) (⟨#[]⟩ : ByteArray) (⟨#[]⟩ : ByteArray) 0 false).bind fun t121 => (if t121 = true then ((source_Good.f k t101 t102 t103 t104 t105 t106 t107).bind fun t122 => (some t122)) else (some false))) else (some false)) = some r := H
   have A5 := Aside0.mk A50; clear A50
   by_cases c6 : t120.toList = ([104, 116, 116, 112, 115, 58, 47, 47, 42, 46, 101, 120, 97, 109, 112, 108, 101, 58, 42, 47, 97, 47] : List UInt8)
   ·rw [if_pos c6] at H
    have c6b0 : (t120.toList == ([104, 116, 116, 112, 115, 58, 47, 47, 42, 46, 101, 120, 97, 109, 112, 108, 101, 58, 42, 47, 97, 47] : List UInt8)) = true := beq_iff_eq.mpr c6
    have c6b1 : (t120.toList != ([104, 116, 116, 112, 115, 58, 47, 47, 42, 46, 101, 120, 97, 109, 112, 108, 101, 58, 42, 47, 97, 47] : List UInt8)) = false := bne_eq_false_iff_eq.mpr c6
    clear c6
    replace H := Option.bind_eq_some_iff.mp H
    obtain ⟨t121, A70, H⟩ := H
    replace H : (if t121 = true then ((source_Good.f k t101 t102 t103 t104 t105 t106 t107).bind fun t122 => (some t122)) else (some false)) = some r := H
    have A7 := Aside0.mk A70; clear A70
    by_cases c8 : t121 = true
    ·subst c8
     have H1 : ((source_Good.f k t101 t102 t103 t104 t105 t106 t107).bind fun t122 => (some t122)) = some r := by rw [if_pos rfl] at H; exact H
     clear H
     have H := H1
     clear H1
     replace H := Option.bind_eq_some_iff.mp H
     obtain ⟨t122, A90, H⟩ := H
     replace H : (some t122) = some r := H
     have A9 := Aside0.mk A90; clear A90
     obtain rfl := Option.some.inj H
     go_enter Tryd.func4, Tryd.ntmps4
     go_wp2_with (first | ((with_reducible refine gate_callee (f := 10) rfl ?_); refine goesL_ (some 7) rfl rfl Tryd.func10 (by kernel_rfl) rfl #[.string (⟨#[72, 84, 84, 80, 83, 58, 47, 47, 42, 46, 69, 120, 97, 109, 112, 108, 101, 58, 42, 47, 97, 47]⟩ : ByteArray)] rfl z39_ ?_; (with_reducible refine (source_Parse.calls k (⟨#[72, 84, 84, 80, 83, 58, 47, 47, 42, 46, 69, 120, 97, 109, 112, 108, 101, 58, 42, 47, 97, 47]⟩ : ByteArray) t101 t102 t103 t104 t105 t106 t107 true _ ?gw1_ A1.out).mono ?_); (case gw1_ => exact z3_); rintro e w10 ⟨rfl, hb⟩; refine ⟨_, rfl, ?_⟩; have n0_ := Aside0.mk (below_step z40_ hb); clear HB; have HB := n0_; clear n0_; (try clear hb); (try clear hb2); (try clear hk); (try clear hi)) | ((with_reducible refine gate_dst (N := 1) rfl ?_); refine box_event ?hg (N := 1) ?hd (cs := #[.int .i64 0, .string (⟨#[]⟩ : ByteArray), .bool false, .string (⟨#[]⟩ : ByteArray), .int .i64 0, .string (⟨#[]⟩ : ByteArray), .string (⟨#[]⟩ : ByteArray)]) (t := 23) ?hr ?_; (case hd => rfl); (case hg => rfl); (case hr => first | (go_simp; done) | (go_simp; rfl)); intro gb109 hg w11 hbox hb; have n0_ := Aside0.mk (below_step z40_ hb); have n1_ := Aside0.mk (hbox); have n2_ := Aside0.mk ((by rw [hg]; exact (below_size z40_) : w.heap.size ≤ gb109)); have n3_ := Aside0.mk ((by rw [hg]; exact (below_size z40_) : w.heap.size ≤ gb109)); clear HB; have HB := n0_; have BK109 := n1_; have GW109 := n2_; have GE109 := n3_; clear n0_ n1_ n2_ n3_; clear hb hbox hg; have hcz12_0 : w11.cell? ⟨gb109, 0, none⟩ = some (.int .i64 0) := (blk_cell BK109.out 0).trans rfl; have hcz12_1 : w11.cell? ⟨gb109, 1, none⟩ = some (.string (⟨#[]⟩ : ByteArray)) := (blk_cell BK109.out 1).trans rfl; have hcz12_2 : w11.cell? ⟨gb109, 2, none⟩ = some (.bool false) := (blk_cell BK109.out 2).trans rfl; have hcz12_3 : w11.cell? ⟨gb109, 3, none⟩ = some (.string (⟨#[]⟩ : ByteArray)) := (blk_cell BK109.out 3).trans rfl; have hcz12_4 : w11.cell? ⟨gb109, 4, none⟩ = some (.int .i64 0) := (blk_cell BK109.out 4).trans rfl; have hcz12_5 : w11.cell? ⟨gb109, 5, none⟩ = some (.string (⟨#[]⟩ : ByteArray)) := (blk_cell BK109.out 5).trans rfl; have hcz12_6 : w11.cell? ⟨gb109, 6, none⟩ = some (.string (⟨#[]⟩ : ByteArray)) := (blk_cell BK109.out 6).trans rfl; have hfz12_0 := blk_frozen BK109.out 0; have hfz12_1 := blk_frozen BK109.out 1; have hfz12_2 := blk_frozen BK109.out 2; have hfz12_3 := blk_frozen BK109.out 3; have hfz12_4 := blk_frozen BK109.out 4; have hfz12_5 := blk_frozen BK109.out 5; have hfz12_6 := blk_frozen BK109.out 6) | ((with_reducible refine gate_callee (f := 10) rfl ?_); refine goesL_ (some 11) rfl rfl Tryd.func10 (by kernel_rfl) rfl #[.string (⟨#[39, 117, 110, 115, 97, 102, 101, 45, 105, 110, 108, 105, 110, 101, 39]⟩ : ByteArray)] rfl z39_ ?_; (with_reducible refine (source_Parse.calls k (⟨#[39, 117, 110, 115, 97, 102, 101, 45, 105, 110, 108, 105, 110, 101, 39]⟩ : ByteArray) t110 t111 t112 t113 t114 t115 t116 false _ ?gw2_ A2.out).mono ?_); (case gw2_ => exact z3_); rintro e w13 ⟨rfl, hb⟩; refine ⟨_, rfl, ?_⟩; have n0_ := Aside0.mk (blk_below (g := gb109) (o := .cells #[.int .i64 t101, .string t102, .bool t103, .string t104, .int .i64 t105, .string t106, .string t107] 23 (0, 0)) (by (with_reducible repeat (first | refine blk_drewN ?_ _ | refine blk_drew ?_ | refine blk_alloc ?_ _)); refine blk_put (cs := #[.int .i64 t101, .string t102, .bool t103, .string t104, .int .i64 t105, .string t106, .string (⟨#[]⟩ : ByteArray)]) ?_ 6 _ rfl; (with_reducible repeat (first | refine blk_drewN ?_ _ | refine blk_drew ?_ | refine blk_alloc ?_ _)); refine blk_put (cs := #[.int .i64 t101, .string t102, .bool t103, .string t104, .int .i64 t105, .string (⟨#[]⟩ : ByteArray), .string (⟨#[]⟩ : ByteArray)]) ?_ 5 _ rfl; (with_reducible repeat (first | refine blk_drewN ?_ _ | refine blk_drew ?_ | refine blk_alloc ?_ _)); refine blk_put (cs := #[.int .i64 t101, .string t102, .bool t103, .string t104, .int .i64 0, .string (⟨#[]⟩ : ByteArray), .string (⟨#[]⟩ : ByteArray)]) ?_ 4 _ rfl; (with_reducible repeat (first | refine blk_drewN ?_ _ | refine blk_drew ?_ | refine blk_alloc ?_ _)); refine blk_put (cs := #[.int .i64 t101, .string t102, .bool t103, .string (⟨#[]⟩ : ByteArray), .int .i64 0, .string (⟨#[]⟩ : ByteArray), .string (⟨#[]⟩ : ByteArray)]) ?_ 3 _ rfl; (with_reducible repeat (first | refine blk_drewN ?_ _ | refine blk_drew ?_ | refine blk_alloc ?_ _)); refine blk_put (cs := #[.int .i64 t101, .string t102, .bool false, .string (⟨#[]⟩ : ByteArray), .int .i64 0, .string (⟨#[]⟩ : ByteArray), .string (⟨#[]⟩ : ByteArray)]) ?_ 2 _ rfl; (with_reducible repeat (first | refine blk_drewN ?_ _ | refine blk_drew ?_ | refine blk_alloc ?_ _)); refine blk_put (cs := #[.int .i64 t101, .string (⟨#[]⟩ : ByteArray), .bool false, .string (⟨#[]⟩ : ByteArray), .int .i64 0, .string (⟨#[]⟩ : ByteArray), .string (⟨#[]⟩ : ByteArray)]) ?_ 1 _ rfl; (with_reducible repeat (first | refine blk_drewN ?_ _ | refine blk_drew ?_ | refine blk_alloc ?_ _)); refine blk_put (cs := #[.int .i64 0, .string (⟨#[]⟩ : ByteArray), .bool false, .string (⟨#[]⟩ : ByteArray), .int .i64 0, .string (⟨#[]⟩ : ByteArray), .string (⟨#[]⟩ : ByteArray)]) ?_ 0 _ rfl; (with_reducible repeat (first | refine blk_drewN ?_ _ | refine blk_drew ?_ | refine blk_alloc ?_ _)); exact BK109.out) hb); have n1_ := Aside0.mk (below_step z26_ hb); clear BK109; clear HB; have BK109 := n0_; have HB := n1_; clear n0_ n1_; (try clear hb); (try clear hb2); (try clear hk); (try clear hi)) | ((with_reducible refine gate_dst (N := 3) rfl ?_); refine box_event ?hg (N := 3) ?hd (cs := #[.int .i64 0, .string (⟨#[]⟩ : ByteArray), .bool false, .string (⟨#[]⟩ : ByteArray), .int .i64 0, .string (⟨#[]⟩ : ByteArray), .string (⟨#[]⟩ : ByteArray)]) (t := 23) ?hr ?_; (case hd => rfl); (case hg => rfl); (case hr => first | (go_simp; done) | (go_simp; rfl)); intro gb118 hg w14 hbox hb; have n0_ := Aside0.mk (blk_below (g := gb109) (o := .cells #[.int .i64 t101, .string t102, .bool t103, .string t104, .int .i64 t105, .string t106, .string t107] 23 (0, 0)) z54_ hb); have n1_ := Aside0.mk (below_step z26_ hb); have n2_ := Aside0.mk (hbox); have n3_ := Aside0.mk ((by rw [hg]; exact (below_size z26_) : w.heap.size ≤ gb118)); have n4_ := Aside0.mk ((by rw [hg]; exact (below_size z26_) : w.heap.size ≤ gb118)); have n5_ := Aside0.mk ((by rw [hg]; exact Nat.ne_of_lt (blk_lt (g := gb109) (o := .cells #[.int .i64 t101, .string t102, .bool t103, .string t104, .int .i64 t105, .string t106, .string t107] 23 (0, 0)) z54_) : gb109 ≠ gb118)); have n6_ := Aside0.mk ((by rw [hg]; exact Nat.ne_of_gt (blk_lt (g := gb109) (o := .cells #[.int .i64 t101, .string t102, .bool t103, .string t104, .int .i64 t105, .string t106, .string t107] 23 (0, 0)) z54_) : gb118 ≠ gb109)); clear BK109; clear HB; have BK109 := n0_; have HB := n1_; have BK118 := n2_; have GW118 := n3_; have GE118 := n4_; have NB109_118 := n5_; have NB118_109 := n6_; clear n0_ n1_ n2_ n3_ n4_ n5_ n6_; clear hb hbox hg; have hnb15 := NB118_109.out; have hnc15 := NB109_118.out; have hcz16_0 : w14.cell? ⟨gb118, 0, none⟩ = some (.int .i64 0) := (blk_cell BK118.out 0).trans rfl; have hcz16_1 : w14.cell? ⟨gb118, 1, none⟩ = some (.string (⟨#[]⟩ : ByteArray)) := (blk_cell BK118.out 1).trans rfl; have hcz16_2 : w14.cell? ⟨gb118, 2, none⟩ = some (.bool false) := (blk_cell BK118.out 2).trans rfl; have hcz16_3 : w14.cell? ⟨gb118, 3, none⟩ = some (.string (⟨#[]⟩ : ByteArray)) := (blk_cell BK118.out 3).trans rfl; have hcz16_4 : w14.cell? ⟨gb118, 4, none⟩ = some (.int .i64 0) := (blk_cell BK118.out 4).trans rfl; have hcz16_5 : w14.cell? ⟨gb118, 5, none⟩ = some (.string (⟨#[]⟩ : ByteArray)) := (blk_cell BK118.out 5).trans rfl; have hcz16_6 : w14.cell? ⟨gb118, 6, none⟩ = some (.string (⟨#[]⟩ : ByteArray)) := (blk_cell BK118.out 6).trans rfl; have hfz16_0 := blk_frozen BK118.out 0; have hfz16_1 := blk_frozen BK118.out 1; have hfz16_2 := blk_frozen BK118.out 2; have hfz16_3 := blk_frozen BK118.out 3; have hfz16_4 := blk_frozen BK118.out 4; have hfz16_5 := blk_frozen BK118.out 5; have hfz16_6 := blk_frozen BK118.out 6) | ((with_reducible refine gate_dst (N := 5) rfl ?_); refine box_event ?hg (N := 5) ?hd (cs := #[.string (⟨#[]⟩ : ByteArray), .string (⟨#[]⟩ : ByteArray), .string (⟨#[]⟩ : ByteArray), .int .i64 0, .string (⟨#[]⟩ : ByteArray), .bool false, .string (⟨#[]⟩ : ByteArray), .bool false, .string (⟨#[]⟩ : ByteArray)]) (t := 31) ?hr ?_; (case hd => rfl); (case hg => rfl); (case hr => first | (go_simp; done) | (go_simp; rfl)); intro gb119 hg w17 hbox hb; have n0_ := Aside0.mk (blk_below (g := gb109) (o := .cells #[.int .i64 t101, .string t102, .bool t103, .string t104, .int .i64 t105, .string t106, .string t107] 23 (0, 0)) z2_ hb); have n1_ := Aside0.mk (blk_below (g := gb118) (o := .cells #[.int .i64 t110, .string t111, .bool t112, .string t113, .int .i64 t114, .string t115, .string t116] 23 (0, 0)) z1_ hb); have n2_ := Aside0.mk (below_step z22_ hb); have n3_ := Aside0.mk (hbox); have n4_ := Aside0.mk ((by rw [hg]; exact (below_size z22_) : w.heap.size ≤ gb119)); have n5_ := Aside0.mk ((by rw [hg]; exact (below_size z22_) : w.heap.size ≤ gb119)); have n6_ := Aside0.mk ((by rw [hg]; exact Nat.ne_of_lt (blk_lt (g := gb109) (o := .cells #[.int .i64 t101, .string t102, .bool t103, .string t104, .int .i64 t105, .string t106, .string t107] 23 (0, 0)) z2_) : gb109 ≠ gb119)); have n7_ := Aside0.mk ((by rw [hg]; exact Nat.ne_of_gt (blk_lt (g := gb109) (o := .cells #[.int .i64 t101, .string t102, .bool t103, .string t104, .int .i64 t105, .string t106, .string t107] 23 (0, 0)) z2_) : gb119 ≠ gb109)); have n8_ := Aside0.mk ((by rw [hg]; exact Nat.ne_of_lt (blk_lt (g := gb118) (o := .cells #[.int .i64 t110, .string t111, .bool t112, .string t113, .int .i64 t114, .string t115, .string t116] 23 (0, 0)) z1_) : gb118 ≠ gb119)); have n9_ := Aside0.mk ((by rw [hg]; exact Nat.ne_of_gt (blk_lt (g := gb118) (o := .cells #[.int .i64 t110, .string t111, .bool t112, .string t113, .int .i64 t114, .string t115, .string t116] 23 (0, 0)) z1_) : gb119 ≠ gb118)); clear BK109; clear BK118; clear HB; have BK109 := n0_; have BK118 := n1_; have HB := n2_; have BK119 := n3_; have GW119 := n4_; have GE119 := n5_; have NB109_119 := n6_; have NB119_109 := n7_; have NB118_119 := n8_; have NB119_118 := n9_; clear n0_ n1_ n2_ n3_ n4_ n5_ n6_ n7_ n8_ n9_; clear hb hbox hg; have hnb18 := NB119_109.out; have hnc18 := NB109_119.out; have hnb19 := NB119_118.out; have hnc19 := NB118_119.out; have hcz20_0 : w17.cell? ⟨gb119, 0, none⟩ = some (.string (⟨#[]⟩ : ByteArray)) := (blk_cell BK119.out 0).trans rfl; have hcz20_1 : w17.cell? ⟨gb119, 1, none⟩ = some (.string (⟨#[]⟩ : ByteArray)) := (blk_cell BK119.out 1).trans rfl; have hcz20_2 : w17.cell? ⟨gb119, 2, none⟩ = some (.string (⟨#[]⟩ : ByteArray)) := (blk_cell BK119.out 2).trans rfl; have hcz20_3 : w17.cell? ⟨gb119, 3, none⟩ = some (.int .i64 0) := (blk_cell BK119.out 3).trans rfl; have hcz20_4 : w17.cell? ⟨gb119, 4, none⟩ = some (.string (⟨#[]⟩ : ByteArray)) := (blk_cell BK119.out 4).trans rfl; have hcz20_5 : w17.cell? ⟨gb119, 5, none⟩ = some (.bool false) := (blk_cell BK119.out 5).trans rfl; have hcz20_6 : w17.cell? ⟨gb119, 6, none⟩ = some (.string (⟨#[]⟩ : ByteArray)) := (blk_cell BK119.out 6).trans rfl; have hcz20_7 : w17.cell? ⟨gb119, 7, none⟩ = some (.bool false) := (blk_cell BK119.out 7).trans rfl; have hcz20_8 : w17.cell? ⟨gb119, 8, none⟩ = some (.string (⟨#[]⟩ : ByteArray)) := (blk_cell BK119.out 8).trans rfl; have hfz20_0 := blk_frozen BK119.out 0; have hfz20_1 := blk_frozen BK119.out 1; have hfz20_2 := blk_frozen BK119.out 2; have hfz20_3 := blk_frozen BK119.out 3; have hfz20_4 := blk_frozen BK119.out 4; have hfz20_5 := blk_frozen BK119.out 5; have hfz20_6 := blk_frozen BK119.out 6; have hfz20_7 := blk_frozen BK119.out 7; have hfz20_8 := blk_frozen BK119.out 8; have hcz21_0 : w17.cell? ⟨gb109, 0, none⟩ = some (.int .i64 t101) := (blk_cell BK109.out 0).trans rfl; have hcz21_1 : w17.cell? ⟨gb109, 1, none⟩ = some (.string t102) := (blk_cell BK109.out 1).trans rfl; have hcz21_2 : w17.cell? ⟨gb109, 2, none⟩ = some (.bool t103) := (blk_cell BK109.out 2).trans rfl; have hcz21_3 : w17.cell? ⟨gb109, 3, none⟩ = some (.string t104) := (blk_cell BK109.out 3).trans rfl; have hcz21_4 : w17.cell? ⟨gb109, 4, none⟩ = some (.int .i64 t105) := (blk_cell BK109.out 4).trans rfl; have hcz21_5 : w17.cell? ⟨gb109, 5, none⟩ = some (.string t106) := (blk_cell BK109.out 5).trans rfl; have hcz21_6 : w17.cell? ⟨gb109, 6, none⟩ = some (.string t107) := (blk_cell BK109.out 6).trans rfl; have hfz21_0 := blk_frozen BK109.out 0; have hfz21_1 := blk_frozen BK109.out 1; have hfz21_2 := blk_frozen BK109.out 2; have hfz21_3 := blk_frozen BK109.out 3; have hfz21_4 := blk_frozen BK109.out 4; have hfz21_5 := blk_frozen BK109.out 5; have hfz21_6 := blk_frozen BK109.out 6) | (go_at_call 8; (fail_if_success (have z_ := U_1)); have U_1 := trivial; (with_reducible refine (source_Text.calls k t101 t102 t103 t104 t105 t106 t107 t120 _ ?gw3_ A5.out).mono ?_); (case gw3_ => exact z3_); rintro e w22 ⟨rfl, hb⟩; have n0_ := Aside0.mk (blk_below (g := gb109) (o := .cells #[.int .i64 t101, .string t102, .bool t103, .string t104, .int .i64 t105, .string t106, .string t107] 23 (0, 0)) (by (with_reducible repeat (first | refine blk_drewN ?_ _ | refine blk_drew ?_ | refine blk_alloc ?_ _)); refine blk_far ?_ NB109_119.out _; (with_reducible repeat (first | refine blk_drewN ?_ _ | refine blk_drew ?_ | refine blk_alloc ?_ _)); refine blk_far ?_ NB109_119.out _; (with_reducible repeat (first | refine blk_drewN ?_ _ | refine blk_drew ?_ | refine blk_alloc ?_ _)); refine blk_far ?_ NB109_119.out _; (with_reducible repeat (first | refine blk_drewN ?_ _ | refine blk_drew ?_ | refine blk_alloc ?_ _)); refine blk_far ?_ NB109_119.out _; (with_reducible repeat (first | refine blk_drewN ?_ _ | refine blk_drew ?_ | refine blk_alloc ?_ _)); refine blk_far ?_ NB109_119.out _; (with_reducible repeat (first | refine blk_drewN ?_ _ | refine blk_drew ?_ | refine blk_alloc ?_ _)); refine blk_far ?_ NB109_119.out _; (with_reducible repeat (first | refine blk_drewN ?_ _ | refine blk_drew ?_ | refine blk_alloc ?_ _)); refine blk_far ?_ NB109_119.out _; (with_reducible repeat (first | refine blk_drewN ?_ _ | refine blk_drew ?_ | refine blk_alloc ?_ _)); refine blk_far ?_ NB109_119.out _; (with_reducible repeat (first | refine blk_drewN ?_ _ | refine blk_drew ?_ | refine blk_alloc ?_ _)); refine blk_far ?_ NB109_119.out _; (with_reducible repeat (first | refine blk_drewN ?_ _ | refine blk_drew ?_ | refine blk_alloc ?_ _)); exact BK109.out) hb); have n1_ := Aside0.mk (blk_below (g := gb118) (o := .cells #[.int .i64 t110, .string t111, .bool t112, .string t113, .int .i64 t114, .string t115, .string t116] 23 (0, 0)) (by (with_reducible repeat (first | refine blk_drewN ?_ _ | refine blk_drew ?_ | refine blk_alloc ?_ _)); refine blk_far ?_ NB118_119.out _; (with_reducible repeat (first | refine blk_drewN ?_ _ | refine blk_drew ?_ | refine blk_alloc ?_ _)); refine blk_far ?_ NB118_119.out _; (with_reducible repeat (first | refine blk_drewN ?_ _ | refine blk_drew ?_ | refine blk_alloc ?_ _)); refine blk_far ?_ NB118_119.out _; (with_reducible repeat (first | refine blk_drewN ?_ _ | refine blk_drew ?_ | refine blk_alloc ?_ _)); refine blk_far ?_ NB118_119.out _; (with_reducible repeat (first | refine blk_drewN ?_ _ | refine blk_drew ?_ | refine blk_alloc ?_ _)); refine blk_far ?_ NB118_119.out _; (with_reducible repeat (first | refine blk_drewN ?_ _ | refine blk_drew ?_ | refine blk_alloc ?_ _)); refine blk_far ?_ NB118_119.out _; (with_reducible repeat (first | refine blk_drewN ?_ _ | refine blk_drew ?_ | refine blk_alloc ?_ _)); refine blk_far ?_ NB118_119.out _; (with_reducible repeat (first | refine blk_drewN ?_ _ | refine blk_drew ?_ | refine blk_alloc ?_ _)); refine blk_far ?_ NB118_119.out _; (with_reducible repeat (first | refine blk_drewN ?_ _ | refine blk_drew ?_ | refine blk_alloc ?_ _)); refine blk_far ?_ NB118_119.out _; (with_reducible repeat (first | refine blk_drewN ?_ _ | refine blk_drew ?_ | refine blk_alloc ?_ _)); exact BK118.out) hb); have n2_ := Aside0.mk (blk_below (g := gb119) (o := .cells #[.string (⟨#[104, 116, 116, 112, 115]⟩ : ByteArray), .string (⟨#[]⟩ : ByteArray), .string (⟨#[97, 46, 101, 120, 97, 109, 112, 108, 101]⟩ : ByteArray), .int .i64 8, .string (⟨#[47, 97, 47, 98]⟩ : ByteArray), .bool false, .string (⟨#[]⟩ : ByteArray), .bool false, .string (⟨#[]⟩ : ByteArray)] 31 (0, 0)) (by (with_reducible repeat (first | refine blk_drewN ?_ _ | refine blk_drew ?_ | refine blk_alloc ?_ _)); refine blk_put (cs := #[.string (⟨#[104, 116, 116, 112, 115]⟩ : ByteArray), .string (⟨#[]⟩ : ByteArray), .string (⟨#[97, 46, 101, 120, 97, 109, 112, 108, 101]⟩ : ByteArray), .int .i64 8, .string (⟨#[47, 97, 47, 98]⟩ : ByteArray), .bool false, .string (⟨#[]⟩ : ByteArray), .bool false, .string (⟨#[]⟩ : ByteArray)]) ?_ 8 _ rfl; (with_reducible repeat (first | refine blk_drewN ?_ _ | refine blk_drew ?_ | refine blk_alloc ?_ _)); refine blk_put (cs := #[.string (⟨#[104, 116, 116, 112, 115]⟩ : ByteArray), .string (⟨#[]⟩ : ByteArray), .string (⟨#[97, 46, 101, 120, 97, 109, 112, 108, 101]⟩ : ByteArray), .int .i64 8, .string (⟨#[47, 97, 47, 98]⟩ : ByteArray), .bool false, .string (⟨#[]⟩ : ByteArray), .bool false, .string (⟨#[]⟩ : ByteArray)]) ?_ 7 _ rfl; (with_reducible repeat (first | refine blk_drewN ?_ _ | refine blk_drew ?_ | refine blk_alloc ?_ _)); refine blk_put (cs := #[.string (⟨#[104, 116, 116, 112, 115]⟩ : ByteArray), .string (⟨#[]⟩ : ByteArray), .string (⟨#[97, 46, 101, 120, 97, 109, 112, 108, 101]⟩ : ByteArray), .int .i64 8, .string (⟨#[47, 97, 47, 98]⟩ : ByteArray), .bool false, .string (⟨#[]⟩ : ByteArray), .bool false, .string (⟨#[]⟩ : ByteArray)]) ?_ 6 _ rfl; (with_reducible repeat (first | refine blk_drewN ?_ _ | refine blk_drew ?_ | refine blk_alloc ?_ _)); refine blk_put (cs := #[.string (⟨#[104, 116, 116, 112, 115]⟩ : ByteArray), .string (⟨#[]⟩ : ByteArray), .string (⟨#[97, 46, 101, 120, 97, 109, 112, 108, 101]⟩ : ByteArray), .int .i64 8, .string (⟨#[47, 97, 47, 98]⟩ : ByteArray), .bool false, .string (⟨#[]⟩ : ByteArray), .bool false, .string (⟨#[]⟩ : ByteArray)]) ?_ 5 _ rfl; (with_reducible repeat (first | refine blk_drewN ?_ _ | refine blk_drew ?_ | refine blk_alloc ?_ _)); refine blk_put (cs := #[.string (⟨#[104, 116, 116, 112, 115]⟩ : ByteArray), .string (⟨#[]⟩ : ByteArray), .string (⟨#[97, 46, 101, 120, 97, 109, 112, 108, 101]⟩ : ByteArray), .int .i64 8, .string (⟨#[]⟩ : ByteArray), .bool false, .string (⟨#[]⟩ : ByteArray), .bool false, .string (⟨#[]⟩ : ByteArray)]) ?_ 4 _ rfl; (with_reducible repeat (first | refine blk_drewN ?_ _ | refine blk_drew ?_ | refine blk_alloc ?_ _)); refine blk_put (cs := #[.string (⟨#[104, 116, 116, 112, 115]⟩ : ByteArray), .string (⟨#[]⟩ : ByteArray), .string (⟨#[97, 46, 101, 120, 97, 109, 112, 108, 101]⟩ : ByteArray), .int .i64 0, .string (⟨#[]⟩ : ByteArray), .bool false, .string (⟨#[]⟩ : ByteArray), .bool false, .string (⟨#[]⟩ : ByteArray)]) ?_ 3 _ rfl; (with_reducible repeat (first | refine blk_drewN ?_ _ | refine blk_drew ?_ | refine blk_alloc ?_ _)); refine blk_put (cs := #[.string (⟨#[104, 116, 116, 112, 115]⟩ : ByteArray), .string (⟨#[]⟩ : ByteArray), .string (⟨#[]⟩ : ByteArray), .int .i64 0, .string (⟨#[]⟩ : ByteArray), .bool false, .string (⟨#[]⟩ : ByteArray), .bool false, .string (⟨#[]⟩ : ByteArray)]) ?_ 2 _ rfl; (with_reducible repeat (first | refine blk_drewN ?_ _ | refine blk_drew ?_ | refine blk_alloc ?_ _)); refine blk_put (cs := #[.string (⟨#[104, 116, 116, 112, 115]⟩ : ByteArray), .string (⟨#[]⟩ : ByteArray), .string (⟨#[]⟩ : ByteArray), .int .i64 0, .string (⟨#[]⟩ : ByteArray), .bool false, .string (⟨#[]⟩ : ByteArray), .bool false, .string (⟨#[]⟩ : ByteArray)]) ?_ 1 _ rfl; (with_reducible repeat (first | refine blk_drewN ?_ _ | refine blk_drew ?_ | refine blk_alloc ?_ _)); refine blk_put (cs := #[.string (⟨#[]⟩ : ByteArray), .string (⟨#[]⟩ : ByteArray), .string (⟨#[]⟩ : ByteArray), .int .i64 0, .string (⟨#[]⟩ : ByteArray), .bool false, .string (⟨#[]⟩ : ByteArray), .bool false, .string (⟨#[]⟩ : ByteArray)]) ?_ 0 _ rfl; (with_reducible repeat (first | refine blk_drewN ?_ _ | refine blk_drew ?_ | refine blk_alloc ?_ _)); exact BK119.out) hb); have n3_ := Aside0.mk (below_step z17_ hb); clear BK109; clear BK118; clear BK119; clear HB; have BK109 := n0_; have BK118 := n1_; have BK119 := n2_; have HB := n3_; clear n0_ n1_ n2_ n3_; (try clear hb); (try clear hb2); (try clear hk); (try clear hi); have hcz23_0 : w22.cell? ⟨gb109, 0, none⟩ = some (.int .i64 t101) := (blk_cell BK109.out 0).trans rfl; have hcz23_1 : w22.cell? ⟨gb109, 1, none⟩ = some (.string t102) := (blk_cell BK109.out 1).trans rfl; have hcz23_2 : w22.cell? ⟨gb109, 2, none⟩ = some (.bool t103) := (blk_cell BK109.out 2).trans rfl; have hcz23_3 : w22.cell? ⟨gb109, 3, none⟩ = some (.string t104) := (blk_cell BK109.out 3).trans rfl; have hcz23_4 : w22.cell? ⟨gb109, 4, none⟩ = some (.int .i64 t105) := (blk_cell BK109.out 4).trans rfl; have hcz23_5 : w22.cell? ⟨gb109, 5, none⟩ = some (.string t106) := (blk_cell BK109.out 5).trans rfl; have hcz23_6 : w22.cell? ⟨gb109, 6, none⟩ = some (.string t107) := (blk_cell BK109.out 6).trans rfl; have hfz23_0 := blk_frozen BK109.out 0; have hfz23_1 := blk_frozen BK109.out 1; have hfz23_2 := blk_frozen BK109.out 2; have hfz23_3 := blk_frozen BK109.out 3; have hfz23_4 := blk_frozen BK109.out 4; have hfz23_5 := blk_frozen BK109.out 5; have hfz23_6 := blk_frozen BK109.out 6; have hcz24_0 : w22.cell? ⟨gb119, 0, none⟩ = some (.string (⟨#[104, 116, 116, 112, 115]⟩ : ByteArray)) := (blk_cell BK119.out 0).trans rfl; have hcz24_1 : w22.cell? ⟨gb119, 1, none⟩ = some (.string (⟨#[]⟩ : ByteArray)) := (blk_cell BK119.out 1).trans rfl; have hcz24_2 : w22.cell? ⟨gb119, 2, none⟩ = some (.string (⟨#[97, 46, 101, 120, 97, 109, 112, 108, 101]⟩ : ByteArray)) := (blk_cell BK119.out 2).trans rfl; have hcz24_3 : w22.cell? ⟨gb119, 3, none⟩ = some (.int .i64 8) := (blk_cell BK119.out 3).trans rfl; have hcz24_4 : w22.cell? ⟨gb119, 4, none⟩ = some (.string (⟨#[47, 97, 47, 98]⟩ : ByteArray)) := (blk_cell BK119.out 4).trans rfl; have hcz24_5 : w22.cell? ⟨gb119, 5, none⟩ = some (.bool false) := (blk_cell BK119.out 5).trans rfl; have hcz24_6 : w22.cell? ⟨gb119, 6, none⟩ = some (.string (⟨#[]⟩ : ByteArray)) := (blk_cell BK119.out 6).trans rfl; have hcz24_7 : w22.cell? ⟨gb119, 7, none⟩ = some (.bool false) := (blk_cell BK119.out 7).trans rfl; have hcz24_8 : w22.cell? ⟨gb119, 8, none⟩ = some (.string (⟨#[]⟩ : ByteArray)) := (blk_cell BK119.out 8).trans rfl; have hfz24_0 := blk_frozen BK119.out 0; have hfz24_1 := blk_frozen BK119.out 1; have hfz24_2 := blk_frozen BK119.out 2; have hfz24_3 := blk_frozen BK119.out 3; have hfz24_4 := blk_frozen BK119.out 4; have hfz24_5 := blk_frozen BK119.out 5; have hfz24_6 := blk_frozen BK119.out 6; have hfz24_7 := blk_frozen BK119.out 7; have hfz24_8 := blk_frozen BK119.out 8) | (go_at_call 11; (fail_if_success (have z_ := U_2)); have U_2 := trivial; (with_reducible refine (source_Match.calls k t101 t102 t103 t104 t105 t106 t107 (⟨#[104, 116, 116, 112, 115]⟩ : ByteArray) (⟨#[]⟩ : ByteArray) (⟨#[97, 46, 101, 120, 97, 109, 112, 108, 101]⟩ : ByteArray) 8 (⟨#[47, 97, 47, 98]⟩ : ByteArray) false (⟨#[]⟩ : ByteArray) false (⟨#[]⟩ : ByteArray) (⟨#[]⟩ : ByteArray) (⟨#[]⟩ : ByteArray) 0 false true _ ?gw4_ A7.out).mono ?_); (case gw4_ => exact z3_); rintro e w25 ⟨rfl, hb⟩; have n0_ := Aside0.mk (blk_below (g := gb109) (o := .cells #[.int .i64 t101, .string t102, .bool t103, .string t104, .int .i64 t105, .string t106, .string t107] 23 (0, 0)) z54_ hb); have n1_ := Aside0.mk (blk_below (g := gb118) (o := .cells #[.int .i64 t110, .string t111, .bool t112, .string t113, .int .i64 t114, .string t115, .string t116] 23 (0, 0)) (by (with_reducible repeat (first | refine blk_drewN ?_ _ | refine blk_drew ?_ | refine blk_alloc ?_ _)); exact BK118.out) hb); have n2_ := Aside0.mk (blk_below (g := gb119) (o := .cells #[.string (⟨#[104, 116, 116, 112, 115]⟩ : ByteArray), .string (⟨#[]⟩ : ByteArray), .string (⟨#[97, 46, 101, 120, 97, 109, 112, 108, 101]⟩ : ByteArray), .int .i64 8, .string (⟨#[47, 97, 47, 98]⟩ : ByteArray), .bool false, .string (⟨#[]⟩ : ByteArray), .bool false, .string (⟨#[]⟩ : ByteArray)] 31 (0, 0)) (by (with_reducible repeat (first | refine blk_drewN ?_ _ | refine blk_drew ?_ | refine blk_alloc ?_ _)); exact BK119.out) hb); have n3_ := Aside0.mk (below_step z17_ hb); clear BK109; clear BK118; clear BK119; clear HB; have BK109 := n0_; have BK118 := n1_; have BK119 := n2_; have HB := n3_; clear n0_ n1_ n2_ n3_; (try clear hb); (try clear hb2); (try clear hk); (try clear hi); have hcz26_0 : w25.cell? ⟨gb109, 0, none⟩ = some (.int .i64 t101) := (blk_cell BK109.out 0).trans rfl; have hcz26_1 : w25.cell? ⟨gb109, 1, none⟩ = some (.string t102) := (blk_cell BK109.out 1).trans rfl; have hcz26_2 : w25.cell? ⟨gb109, 2, none⟩ = some (.bool t103) := (blk_cell BK109.out 2).trans rfl; have hcz26_3 : w25.cell? ⟨gb109, 3, none⟩ = some (.string t104) := (blk_cell BK109.out 3).trans rfl; have hcz26_4 : w25.cell? ⟨gb109, 4, none⟩ = some (.int .i64 t105) := (blk_cell BK109.out 4).trans rfl; have hcz26_5 : w25.cell? ⟨gb109, 5, none⟩ = some (.string t106) := (blk_cell BK109.out 5).trans rfl; have hcz26_6 : w25.cell? ⟨gb109, 6, none⟩ = some (.string t107) := (blk_cell BK109.out 6).trans rfl; have hfz26_0 := blk_frozen BK109.out 0; have hfz26_1 := blk_frozen BK109.out 1; have hfz26_2 := blk_frozen BK109.out 2; have hfz26_3 := blk_frozen BK109.out 3; have hfz26_4 := blk_frozen BK109.out 4; have hfz26_5 := blk_frozen BK109.out 5; have hfz26_6 := blk_frozen BK109.out 6) | (go_at_call 5; (fail_if_success (have z_ := U_3)); have U_3 := trivial; (with_reducible refine (source_Good.calls k t101 t102 t103 t104 t105 t106 t107 t122 _ ?gw5_ A9.out).mono ?_); (case gw5_ => exact z3_); rintro e w27 ⟨rfl, hb⟩; have n0_ := Aside0.mk (blk_below (g := gb109) (o := .cells #[.int .i64 t101, .string t102, .bool t103, .string t104, .int .i64 t105, .string t106, .string t107] 23 (0, 0)) z54_ hb); have n1_ := Aside0.mk (blk_below (g := gb118) (o := .cells #[.int .i64 t110, .string t111, .bool t112, .string t113, .int .i64 t114, .string t115, .string t116] 23 (0, 0)) (by (with_reducible repeat (first | refine blk_drewN ?_ _ | refine blk_drew ?_ | refine blk_alloc ?_ _)); exact BK118.out) hb); have n2_ := Aside0.mk (blk_below (g := gb119) (o := .cells #[.string (⟨#[104, 116, 116, 112, 115]⟩ : ByteArray), .string (⟨#[]⟩ : ByteArray), .string (⟨#[97, 46, 101, 120, 97, 109, 112, 108, 101]⟩ : ByteArray), .int .i64 8, .string (⟨#[47, 97, 47, 98]⟩ : ByteArray), .bool false, .string (⟨#[]⟩ : ByteArray), .bool false, .string (⟨#[]⟩ : ByteArray)] 31 (0, 0)) (by (with_reducible repeat (first | refine blk_drewN ?_ _ | refine blk_drew ?_ | refine blk_alloc ?_ _)); exact BK119.out) hb); have n3_ := Aside0.mk (below_step z17_ hb); clear BK109; clear BK118; clear BK119; clear HB; have BK109 := n0_; have BK118 := n1_; have BK119 := n2_; have HB := n3_; clear n0_ n1_ n2_ n3_; (try clear hb); (try clear hb2); (try clear hk); (try clear hi)))
     go_ret
     exact ⟨z41_, z17_⟩
    ·replace c8 := Bool.eq_false_iff.mpr c8
     subst c8
     have H1 : (some false) = some r := by rw [if_neg (show ¬ (false = true) by decide)] at H; exact H
     clear H
     have H := H1
     clear H1
     exact absurd ((Option.some.inj H).trans hr_) Bool.false_ne_true
   ·rw [if_neg c6] at H
    have c6b0 : (t120.toList == ([104, 116, 116, 112, 115, 58, 47, 47, 42, 46, 101, 120, 97, 109, 112, 108, 101, 58, 42, 47, 97, 47] : List UInt8)) = false := beq_eq_false_iff_ne.mpr c6
    have c6b1 : (t120.toList != ([104, 116, 116, 112, 115, 58, 47, 47, 42, 46, 101, 120, 97, 109, 112, 108, 101, 58, 42, 47, 97, 47] : List UInt8)) = true := bne_iff_ne.mpr c6
    exact absurd ((Option.some.inj H).trans hr_) Bool.false_ne_true
 ·replace c3 := Bool.eq_false_iff.mpr c3
  subst c3
  have H1 : (some false) = some r := by rw [if_neg (show ¬ (false = true) by decide)] at H; exact H
  clear H
  have H := H1
  clear H1
  exact absurd ((Option.some.inj H).trans hr_) Bool.false_ne_true

def pursuivantlaw11_short.f (a0 : ByteArray) : Option (ByteArray) := if (a0.size : Int) > 1100 then (if 0 ≤ 1100 then (if 1100 ≤ (a0.size : Int) then (some (a0.extract 0 1100)) else (none)) else (none)) else (some a0)
set_option maxHeartbeats 8000000 in
set_option maxRecDepth 100000 in
theorem pursuivantlaw11_short.calls (a0 r : ByteArray) (w : World) (hG_ : GW w) (h : pursuivantlaw11_short.f a0 = some r) :
  Calls Tryd.prog 16 #[.string a0] w fun e w' => e = .returned (.string r) ∧ Drawn0 w w' := by
 have huX34 := Tryd.underlying34
 have huX31 := Tryd.underlying31
 have huX23 := Tryd.underlying23
 have H : (if (a0.size : Int) > 1100 then (if 0 ≤ 1100 then (if 1100 ≤ (a0.size : Int) then (some (a0.extract 0 1100)) else (none)) else (none)) else (some a0)) = some r := h
 clear h
 by_cases c2 : (a0.size : Int) > 1100
 ·rw [if_pos c2] at H
  have c2b0 : decide (1100 < (a0.size : Int)) = true := decide_eq_true c2
  have c2b1 : decide (1100 < a0.size) = true := decide_eq_true (by omega)
  clear c2
  by_cases c3 : 0 ≤ 1100
  ·rw [if_pos c3] at H
   have c3b0 := eq_true c3; have c3b1 : decide (0 ≤ 1100) = true := decide_eq_true c3; clear c3
   by_cases c4 : 1100 ≤ (a0.size : Int)
   ·rw [if_pos c4] at H
    have c4b0 := eq_true c4; have c4b1 : decide (1100 ≤ (a0.size : Int)) = true := decide_eq_true c4; clear c4
    obtain rfl := Option.some.inj H
    go_enter Tryd.func16, Tryd.ntmps16
    go_wp2
    go_ret
    exact ⟨z59_, z60_⟩
   ·rw [if_neg c4] at H
    exact absurd H (by simp)
  ·rw [if_neg c3] at H
   exact absurd H (by simp)
 ·rw [if_neg c2] at H
  have c2b0 : decide (1100 < (a0.size : Int)) = false := decide_eq_false c2
  have c2b1 : decide (1100 < a0.size) = false := decide_eq_false (by omega)
  clear c2
  obtain rfl := Option.some.inj H
  go_enter Tryd.func16, Tryd.ntmps16
  go_wp2
  go_ret
  exact ⟨z59_, z60_⟩

def pursuivantlaw11_cut.f (a0_0 : Int) (a0_1 : ByteArray) (a0_2 : Bool) (a0_3 : ByteArray) (a0_4 : Int) (a0_5 a0_6 : ByteArray) : Option (Int × ByteArray × Bool × ByteArray × Int × ByteArray × ByteArray) := (pursuivantlaw11_short.f a0_5).bind fun t125 => ((pursuivantlaw11_short.f a0_6).bind fun t126 => (some (a0_0, a0_1, a0_2, a0_3, a0_4, t125, t126)))
def pursuivantlaw11_cut.T1 : Bool × List (List Nat × List Nat) := (true, [([], []), ([0], [0]), ([1], [1]), ([], []), ([3], [3]), ([4, 2], [4]), ([0, 1, 2, 3, 4], []), ([6, 2, 5, 0, 1, 2, 3, 4], [2, 6]), ([0, 1, 2, 3, 4, 5, 6, 7], []), ([8, 5, 7, 0, 1, 2, 3, 4, 5, 6, 7], [5, 8])])
def pursuivantlaw11_cut.B1 : List Nat := [0, 1, 3, 0, 8, 31, 31, 127, 255, 511]
theorem pursuivantlaw11_cut.tab1 : rtab .any (opsOf Tryd.f6 1) = pursuivantlaw11_cut.T1 := by kernel_rfl
theorem pursuivantlaw11_cut.bits1 : waitsOk pursuivantlaw11_cut.T1.2 pursuivantlaw11_cut.B1 = true := by kernel_rfl
set_option maxHeartbeats 8000000 in
set_option maxRecDepth 100000 in
theorem pursuivantlaw11_cut.calls (a0_0 : Int) (a0_1 : ByteArray) (a0_2 : Bool) (a0_3 : ByteArray) (a0_4 : Int) (a0_5 a0_6 : ByteArray) (r1 : Int) (r2 : ByteArray) (r3 : Bool) (r4 : ByteArray) (r5 : Int) (r6 r7 : ByteArray) (w : World) (hG_ : GW w) (h : pursuivantlaw11_cut.f a0_0 a0_1 a0_2 a0_3 a0_4 a0_5 a0_6 = some (r1, r2, r3, r4, r5, r6, r7)) :
  Calls Tryd.prog 6 #[.agg #[.int .i64 a0_0, .string a0_1, .bool a0_2, .string a0_3, .int .i64 a0_4, .string a0_5, .string a0_6]] w fun e w' => e = .returned (.agg #[.int .i64 r1, .string r2, .bool r3, .string r4, .int .i64 r5, .string r6, .string r7]) ∧ Below w.heap.size w w' := by
 have huX34 := Tryd.underlying34
 have huX31 := Tryd.underlying31
 have hu23 := Tryd.underlying23
 have HB := Aside0.mk (Below.refl w.heap.size w)
 have H : ((pursuivantlaw11_short.f a0_5).bind fun t125 => ((pursuivantlaw11_short.f a0_6).bind fun t126 => (some (a0_0, a0_1, a0_2, a0_3, a0_4, t125, t126)))) = some (r1, r2, r3, r4, r5, r6, r7) := h
 clear h
 replace H := Option.bind_eq_some_iff.mp H
 obtain ⟨t125, A20, H⟩ := H
 replace H : ((pursuivantlaw11_short.f a0_6).bind fun t126 => (some (a0_0, a0_1, a0_2, a0_3, a0_4, t125, t126))) = some (r1, r2, r3, r4, r5, r6, r7) := H
 have A2 := Aside0.mk A20; clear A20
 replace H := Option.bind_eq_some_iff.mp H
 obtain ⟨t126, A30, H⟩ := H
 replace H : (some (a0_0, a0_1, a0_2, a0_3, a0_4, t125, t126)) = some (r1, r2, r3, r4, r5, r6, r7) := H
 have A3 := Aside0.mk A30; clear A30
 simp only [Option.some.injEq, Prod.mk.injEq] at H
 obtain ⟨rfl, rfl, rfl, rfl, rfl, rfl, rfl⟩ := H
 go_enter Tryd.func6, Tryd.ntmps6
 try go_wp2_with (first | ((with_reducible refine gate_dst (N := 1) rfl ?_); refine box_event ?hg (N := 1) ?hd (cs := #[.int .i64 a0_0, .string a0_1, .bool a0_2, .string a0_3, .int .i64 a0_4, .string a0_5, .string a0_6]) (t := 23) ?hr ?_; (case hd => rfl); (case hg => rfl); (case hr => first | (go_simp; done) | (go_simp; rfl)); intro gb123 hg w4 hbox hb; have n0_ := Aside0.mk (below_step z40_ hb); have n1_ := Aside0.mk (hbox); have n2_ := Aside0.mk ((by rw [hg]; exact (below_size z40_) : w.heap.size ≤ gb123)); have n3_ := Aside0.mk ((by rw [hg]; exact (below_size z40_) : w.heap.size ≤ gb123)); clear HB; have HB := n0_; have BK123 := n1_; have GW123 := n2_; have GE123 := n3_; clear n0_ n1_ n2_ n3_; clear hb hbox hg) | ((with_reducible refine gate_dst (N := 2) rfl ?_); refine box_event ?hg (N := 2) ?hd (cs := #[.int .i64 0, .string (⟨#[]⟩ : ByteArray), .bool false, .string (⟨#[]⟩ : ByteArray), .int .i64 0, .string (⟨#[]⟩ : ByteArray), .string (⟨#[]⟩ : ByteArray)]) (t := 23) ?hr ?_; (case hd => rfl); (case hg => rfl); (case hr => first | (go_simp; done) | (go_simp; rfl)); intro gb124 hg w5 hbox hb; have n0_ := Aside0.mk (blk_below (g := gb123) (o := .cells #[.int .i64 a0_0, .string a0_1, .bool a0_2, .string a0_3, .int .i64 a0_4, .string a0_5, .string a0_6] 23 (0, 0)) z55_ hb); have n1_ := Aside0.mk (below_step z34_ hb); have n2_ := Aside0.mk (hbox); have n3_ := Aside0.mk ((by rw [hg]; exact (below_size z34_) : w.heap.size ≤ gb124)); have n4_ := Aside0.mk ((by rw [hg]; exact (below_size z34_) : w.heap.size ≤ gb124)); have n5_ := Aside0.mk ((by rw [hg]; exact Nat.ne_of_lt (blk_lt (g := gb123) (o := .cells #[.int .i64 a0_0, .string a0_1, .bool a0_2, .string a0_3, .int .i64 a0_4, .string a0_5, .string a0_6] 23 (0, 0)) z55_) : gb123 ≠ gb124)); have n6_ := Aside0.mk ((by rw [hg]; exact Nat.ne_of_gt (blk_lt (g := gb123) (o := .cells #[.int .i64 a0_0, .string a0_1, .bool a0_2, .string a0_3, .int .i64 a0_4, .string a0_5, .string a0_6] 23 (0, 0)) z55_) : gb124 ≠ gb123)); clear BK123; clear HB; have BK123 := n0_; have HB := n1_; have BK124 := n2_; have GW124 := n3_; have GE124 := n4_; have NB123_124 := n5_; have NB124_123 := n6_; clear n0_ n1_ n2_ n3_ n4_ n5_ n6_; clear hb hbox hg))
 have n0_ := Aside0.mk (blk_drew BK123.out)
 have n1_ := Aside0.mk (blk_drew BK124.out)
 have n2_ := Aside0.mk (below_drew1 HB.out)
 clear BK123; clear BK124; clear HB
 have BK123 := n0_
 have BK124 := n1_
 have HB := n2_
 clear n0_ n1_ n2_
 refine start_ (n := 10) (S := fun w' => w'.cell? ⟨gb123, 0, none⟩ = some (.int .i64 a0_0) ∧ w'.cell? ⟨gb123, 1, none⟩ = some (.string a0_1) ∧ w'.cell? ⟨gb123, 2, none⟩ = some (.bool a0_2) ∧ w'.cell? ⟨gb123, 3, none⟩ = some (.string a0_3) ∧ w'.cell? ⟨gb123, 4, none⟩ = some (.int .i64 a0_4) ∧ w'.cell? ⟨gb123, 5, none⟩ = some (.string a0_5) ∧ w'.cell? ⟨gb123, 6, none⟩ = some (.string a0_6)) (ds := [7, 9]) #[false, false, false, false, false, false, false, false, false, false] (by kernel_rfl) rfl rfl ⟨(blk_cell BK123.out 0).trans rfl, (blk_cell BK123.out 1).trans rfl, (blk_cell BK123.out 2).trans rfl, (blk_cell BK123.out 3).trans rfl, (blk_cell BK123.out 4).trans rfl, (blk_cell BK123.out 5).trans rfl, (blk_cell BK123.out 6).trans rfl⟩ (fun hHeld => ?_); refine with_tabW pursuivantlaw11_cut.tab1 pursuivantlaw11_cut.bits1 (fun HT_ HW_ => ?_)
 generalize w5.drew = w6 at BK123 BK124 HB hHeld ⊢
 refine pure_ (i := 0) (N := some 3) (v := ?_) (a' := ?_) #[true, false, false, false, false, false, false, false, false, false] rfl rfl (any_of HT_.out (by kernel_rfl)) (fun _ _ _ h => h) (Or.inl ⟨by rfl, ?_⟩) ?_ ?_
 rotate_left
 ·intro w'
  go_simp
  with_reducible rfl
 rotate_left
 ·simp only [Act.put, List.setIfInBounds_toArray, List.set_cons_zero, List.set_cons_succ, i64_w, i32_w]
  rfl
 refine pure_ (i := 3) (N := some 6) (v := ?_) (a' := ?_) #[true, false, false, true, false, false, false, false, false, false] rfl rfl (any_of HT_.out (by kernel_rfl)) (fun _ _ _ h => h) (Or.inl ⟨by rfl, ?_⟩) ?_ ?_
 rotate_left
 ·intro w'
  go_simp
  with_reducible rfl
 rotate_left
 ·simp only [Act.put, List.setIfInBounds_toArray, List.set_cons_zero, List.set_cons_succ, i64_w, i32_w]
  rfl
 refine take_ (i := 1) (N := some 4) (v := ?_) (a' := ?_) #[true, true, false, true, false, false, false, false, false, false] rfl rfl (take_ofW HT_.out HW_.out (by kernel_rfl)) (fun _ _ _ h => h) (Or.inl ⟨by rfl, ?_⟩) hHeld ?_ ?_
 rotate_left
 ·rintro w' ⟨s0, s1, s2, s3, s4, s5, s6⟩
  go_simp
  with_reducible rfl
 rotate_left
 ·simp only [Act.put, List.setIfInBounds_toArray, List.set_cons_zero, List.set_cons_succ, i64_w, i32_w]
  rfl
 refine take_ (i := 4) (N := some 7) (v := ?_) (a' := ?_) #[true, true, false, true, true, false, false, false, false, false] rfl rfl (take_ofW HT_.out HW_.out (by kernel_rfl)) (fun _ _ _ h => h) (Or.inl ⟨by rfl, ?_⟩) hHeld ?_ ?_
 rotate_left
 ·rintro w' ⟨s0, s1, s2, s3, s4, s5, s6⟩
  go_simp
  with_reducible rfl
 rotate_left
 ·simp only [Act.put, List.setIfInBounds_toArray, List.set_cons_zero, List.set_cons_succ, i64_w, i32_w]
  rfl
 refine one_ (i := 2) (N := some 5) #[true, true, true, true, true, false, false, false, false, false] rfl rfl (one_of HT_.out (by kernel_rfl)) (by decide) (fun K hK => ?_)
 refine goes_ Tryd.func16 (by kernel_rfl) rfl #[.string a0_5] (by rfl) rfl rfl z39_ ?_
 with_reducible refine (pursuivantlaw11_short.calls a0_5 t125 _ ?gw14_ A2.out).mono ?_
 case gw14_ => first | (with_reducible exact hG_) | ((with_reducible refine GW.below hG_ ?_); (repeat (first | (with_reducible exact HB.out) | (with_reducible apply below_alloc) | (with_reducible apply pw_below_drewN) | (with_reducible apply below_drew1) | (with_reducible apply below_drew) | (with_reducible exact Below.refl _ _) | (with_reducible refine below_set ?_ GE123.out) | (with_reducible refine below_set ?_ GE124.out))); done) | exact hG_ | (refine GW.below hG_ ?_; first | (with_reducible exact HB.out) | (repeat (first | (with_reducible first | exact HB.out | apply below_alloc | apply pw_below_drewN | apply below_drew1 | apply below_drew | exact Below.refl _ _) | exact HB.out))) | (apply GW.drewN; exact hG_) | (apply GW.drew; exact hG_)
 rintro e w' ⟨rfl, ⟨nd, rfl⟩⟩
 refine ⟨_, rfl, ?_⟩
 refine hK.out _ _ ⟨(blk_cell BK123.out 0).trans rfl, (blk_cell BK123.out 1).trans rfl, (blk_cell BK123.out 2).trans rfl, (blk_cell BK123.out 3).trans rfl, (blk_cell BK123.out 4).trans rfl, (blk_cell BK123.out 5).trans rfl, (blk_cell BK123.out 6).trans rfl⟩ (fun hHeld => ?_)
 clear hK K
 refine norm_ (a' := ?_) ?_ ?_
 rotate_left
 ·show Act.put _ (some 5) _ = _
  simp only [Act.put, List.setIfInBounds_toArray, List.set_cons_zero, List.set_cons_succ, i64_w, i32_w]
  rfl
 refine pure_ (i := 6) (N := some 9) (v := ?_) (a' := ?_) #[true, true, true, true, true, false, true, false, false, false] rfl rfl (any_of HT_.out (by kernel_rfl)) (fun _ _ _ h => h) (Or.inl ⟨by rfl, ?_⟩) ?_ ?_
 rotate_left
 ·intro w'
  go_simp
  with_reducible rfl
 rotate_left
 ·simp only [Act.put, List.setIfInBounds_toArray, List.set_cons_zero, List.set_cons_succ, i64_w, i32_w]
  rfl
 refine one_ (i := 5) (N := some 8) #[true, true, true, true, true, true, true, false, false, false] rfl rfl (one_of HT_.out (by kernel_rfl)) (by decide) (fun K hK => ?_)
 refine goes_ Tryd.func16 (by kernel_rfl) rfl #[.string a0_6] (by rfl) rfl rfl z39_ ?_
 with_reducible refine (pursuivantlaw11_short.calls a0_6 t126 _ ?gw15_ A3.out).mono ?_
 case gw15_ => first | (with_reducible exact hG_) | ((with_reducible refine GW.below hG_ ?_); (repeat (first | (with_reducible exact HB.out) | (with_reducible apply below_alloc) | (with_reducible apply pw_below_drewN) | (with_reducible apply below_drew1) | (with_reducible apply below_drew) | (with_reducible exact Below.refl _ _) | (with_reducible refine below_set ?_ GE123.out) | (with_reducible refine below_set ?_ GE124.out))); done) | exact hG_ | (refine GW.below hG_ ?_; first | (with_reducible exact HB.out) | (repeat (first | (with_reducible first | exact HB.out | apply below_alloc | apply pw_below_drewN | apply below_drew1 | apply below_drew | exact Below.refl _ _) | exact HB.out))) | (apply GW.drewN; exact hG_) | (apply GW.drew; exact hG_)
 rintro e w' ⟨rfl, ⟨nd, rfl⟩⟩
 refine ⟨_, rfl, ?_⟩
 refine hK.out _ _ ⟨(blk_cell BK123.out 0).trans rfl, (blk_cell BK123.out 1).trans rfl, (blk_cell BK123.out 2).trans rfl, (blk_cell BK123.out 3).trans rfl, (blk_cell BK123.out 4).trans rfl, (blk_cell BK123.out 5).trans rfl, (blk_cell BK123.out 6).trans rfl⟩ (fun hHeld => ?_)
 clear hK K
 refine norm_ (a' := ?_) ?_ ?_
 rotate_left
 ·show Act.put _ (some 8) _ = _
  simp only [Act.put, List.setIfInBounds_toArray, List.set_cons_zero, List.set_cons_succ, i64_w, i32_w]
  rfl
 refine last_ (i := 7) (N := none) #[true, true, true, true, true, true, true, true, false, false] rfl rfl (one_of HT_.out (by kernel_rfl)) (by decide) (fun K hK => ?_)
 have hs7 : w6.cell? ⟨gb123, 5, none⟩ = some (.string a0_5) := (blk_cell BK123.out 5).trans rfl
 have hfs7 := blk_frozen BK123.out 5; have hns7_1 := NB124_123.out
 have hms7_1 := NB123_124.out
 refine skip_ (w1 := ?_) (by rfl) rfl ?_ ?_
 rotate_left
 ·go_simp
  rfl
 refine hK.out _ _ ?_
 clear hK K
 refine pure_ (i := 8) (N := some 10) (v := ?_) (a' := ?_) #[true, true, true, true, true, true, true, true, true, false] rfl rfl (any_of HT_.out (by kernel_rfl)) (fun _ _ _ h => h) (Or.inl ⟨by rfl, ?_⟩) ?_ ?_
 rotate_left
 ·intro w'
  go_simp
  with_reducible rfl
 rotate_left
 ·simp only [Act.put, List.setIfInBounds_toArray, List.set_cons_zero, List.set_cons_succ, i64_w, i32_w]
  rfl
 refine last_ (i := 9) (N := none) #[true, true, true, true, true, true, true, true, true, true] rfl rfl (one_of HT_.out (by kernel_rfl)) (by decide) (fun K hK => ?_)
 have hs8 : w6.cell? ⟨gb123, 6, none⟩ = some (.string a0_6) := (blk_cell BK123.out 6).trans rfl
 have hfs8 := blk_frozen BK123.out 6; have hns8_1 := NB124_123.out
 have hms8_1 := NB123_124.out
 refine skip_ (w1 := ?_) (by rfl) rfl ?_ ?_
 rotate_left
 ·go_simp
  rfl
 refine hK.out _ _ ?_
 clear hK K
 refine done_ (done_of HT_.out (by kernel_rfl)) ?_
 have hnb9 := NB123_124.out; have hnc9 := NB124_123.out; obtain ⟨hcz10_0, hcz10_1, hcz10_2, hcz10_3, hcz10_4, hcz10_5, hcz10_6⟩ := blkc7_ BK123.out; obtain ⟨hfz10_0, hfz10_1, hfz10_2, hfz10_3, hfz10_4, hfz10_5, hfz10_6⟩ := blkf7_ BK123.out; obtain ⟨hcz11_0, hcz11_1, hcz11_2, hcz11_3, hcz11_4, hcz11_5, hcz11_6⟩ := blkc7_ BK124.out; obtain ⟨hfz11_0, hfz11_1, hfz11_2, hfz11_3, hfz11_4, hfz11_5, hfz11_6⟩ := blkf7_ BK124.out
 try go_wp2
 refine bodyPost_ret (results_cell_row rfl _ _ gb124 23 #[.int .i64 a0_0, .string a0_1, .bool a0_2, .string a0_3, .int .i64 a0_4, .string t125, .string t126] (0, 0) _ rfl (by (with_reducible repeat (first | refine blk_drewN ?_ _ | refine blk_drew ?_ | refine blk_alloc ?_ _)); refine blk_put (cs := #[.int .i64 a0_0, .string a0_1, .bool a0_2, .string a0_3, .int .i64 a0_4, .string t125, .string (⟨#[]⟩ : ByteArray)]) ?_ 6 _ rfl; (with_reducible repeat (first | refine blk_drewN ?_ _ | refine blk_drew ?_ | refine blk_alloc ?_ _)); refine blk_put (cs := #[.int .i64 a0_0, .string a0_1, .bool a0_2, .string a0_3, .int .i64 a0_4, .string (⟨#[]⟩ : ByteArray), .string (⟨#[]⟩ : ByteArray)]) ?_ 5 _ rfl; (with_reducible repeat (first | refine blk_drewN ?_ _ | refine blk_drew ?_ | refine blk_alloc ?_ _)); refine blk_put (cs := #[.int .i64 a0_0, .string a0_1, .bool a0_2, .string a0_3, .int .i64 0, .string (⟨#[]⟩ : ByteArray), .string (⟨#[]⟩ : ByteArray)]) ?_ 4 _ rfl; (with_reducible repeat (first | refine blk_drewN ?_ _ | refine blk_drew ?_ | refine blk_alloc ?_ _)); refine blk_put (cs := #[.int .i64 a0_0, .string a0_1, .bool a0_2, .string (⟨#[]⟩ : ByteArray), .int .i64 0, .string (⟨#[]⟩ : ByteArray), .string (⟨#[]⟩ : ByteArray)]) ?_ 3 _ rfl; (with_reducible repeat (first | refine blk_drewN ?_ _ | refine blk_drew ?_ | refine blk_alloc ?_ _)); refine blk_put (cs := #[.int .i64 a0_0, .string a0_1, .bool false, .string (⟨#[]⟩ : ByteArray), .int .i64 0, .string (⟨#[]⟩ : ByteArray), .string (⟨#[]⟩ : ByteArray)]) ?_ 2 _ rfl; (with_reducible repeat (first | refine blk_drewN ?_ _ | refine blk_drew ?_ | refine blk_alloc ?_ _)); refine blk_put (cs := #[.int .i64 a0_0, .string (⟨#[]⟩ : ByteArray), .bool false, .string (⟨#[]⟩ : ByteArray), .int .i64 0, .string (⟨#[]⟩ : ByteArray), .string (⟨#[]⟩ : ByteArray)]) ?_ 1 _ rfl; (with_reducible repeat (first | refine blk_drewN ?_ _ | refine blk_drew ?_ | refine blk_alloc ?_ _)); refine blk_put (cs := #[.int .i64 0, .string (⟨#[]⟩ : ByteArray), .bool false, .string (⟨#[]⟩ : ByteArray), .int .i64 0, .string (⟨#[]⟩ : ByteArray), .string (⟨#[]⟩ : ByteArray)]) ?_ 0 _ rfl; (with_reducible repeat (first | refine blk_drewN ?_ _ | refine blk_drew ?_ | refine blk_alloc ?_ _)); refine blk_far ?_ NB124_123.out _; (with_reducible repeat (first | refine blk_drewN ?_ _ | refine blk_drew ?_ | refine blk_alloc ?_ _)); refine blk_far ?_ NB124_123.out _; (with_reducible repeat (first | refine blk_drewN ?_ _ | refine blk_drew ?_ | refine blk_alloc ?_ _)); exact BK124.out) Tryd.underlying23 rfl (by kernel_rfl)) rfl ?_
 exact ⟨z41_, by repeat (first | (with_reducible first | exact HB.out | apply below_alloc | apply pw_below_drewN | apply below_drew1 | refine below_set ?_ GE123.out | refine below_set ?_ GE124.out) | exact HB.out)⟩

mutual
def pursuivantref11_Text.j0 : Nat → ByteArray → Int → ByteArray → Bool → ByteArray → Int → ByteArray → ByteArray → Option (ByteArray)
 | 0, _, _, _, _, _, _, _, _ => none
 | k + 1, x3, x128000, x128001, x128002, x128003, x128004, x128005, x128006 => if x128001.toList = ([] : List UInt8) then (pursuivantref11_Text.j1 k x3 x128000 x128001 x128002 x128003 x128004 x128005 x128006) else (if x128001.size + 3 ≤ 9223372036854775807 then (if (x128001 ++ (⟨#[58, 47, 47]⟩ : ByteArray)).size + x3.size ≤ 9223372036854775807 then (pursuivantref11_Text.j1 k ((x128001 ++ (⟨#[58, 47, 47]⟩ : ByteArray)) ++ x3) x128000 x128001 x128002 x128003 x128004 x128005 x128006) else (none)) else (none))
def pursuivantref11_Text.j1 : Nat → ByteArray → Int → ByteArray → Bool → ByteArray → Int → ByteArray → ByteArray → Option (ByteArray)
 | 0, _, _, _, _, _, _, _, _ => none
 | k + 1, x3, x128000, x128001, x128002, x128003, x128004, x128005, x128006 => if x128004 > 0 then ((pursuivantref06_Digits.f k x128004).bind fun t129 => (if 1 + t129.size ≤ 9223372036854775807 then (if x3.size + ((⟨#[58]⟩ : ByteArray) ++ t129).size ≤ 9223372036854775807 then (if x128004 < 0 then (if (x3 ++ ((⟨#[58]⟩ : ByteArray) ++ t129)).size + 2 ≤ 9223372036854775807 then (if ((x3 ++ ((⟨#[58]⟩ : ByteArray) ++ t129)) ++ (⟨#[58, 42]⟩ : ByteArray)).size + x128005.size ≤ 9223372036854775807 then (some (((x3 ++ ((⟨#[58]⟩ : ByteArray) ++ t129)) ++ (⟨#[58, 42]⟩ : ByteArray)) ++ x128005)) else (none)) else (none)) else (if (x3 ++ ((⟨#[58]⟩ : ByteArray) ++ t129)).size + x128005.size ≤ 9223372036854775807 then (some ((x3 ++ ((⟨#[58]⟩ : ByteArray) ++ t129)) ++ x128005)) else (none))) else (none)) else (none))) else (if x128004 < 0 then (if x3.size + 2 ≤ 9223372036854775807 then (if (x3 ++ (⟨#[58, 42]⟩ : ByteArray)).size + x128005.size ≤ 9223372036854775807 then (some ((x3 ++ (⟨#[58, 42]⟩ : ByteArray)) ++ x128005)) else (none)) else (none)) else (if x3.size + x128005.size ≤ 9223372036854775807 then (some (x3 ++ x128005)) else (none)))
end
def pursuivantref11_Text.f (k : Nat) (a0_0 : Int) (a0_1 : ByteArray) (a0_2 : Bool) (a0_3 : ByteArray) (a0_4 : Int) (a0_5 a0_6 : ByteArray) : Option (ByteArray) := (pursuivantref11_Good.f k a0_0 a0_1 a0_2 a0_3 a0_4 a0_5 a0_6).bind fun t128 => (if t128 = true then (if a0_0 = 1 then (some (⟨#[39, 115, 101, 108, 102, 39]⟩ : ByteArray)) else (if a0_0 = 2 then (some (⟨#[42]⟩ : ByteArray)) else (if a0_0 = 3 then (if a0_1.size + 1 ≤ 9223372036854775807 then (some (a0_1 ++ (⟨#[58]⟩ : ByteArray))) else (none)) else (if a0_0 = 5 then (if 7 + a0_6.size ≤ 9223372036854775807 then (if ((⟨#[39, 110, 111, 110, 99, 101, 45]⟩ : ByteArray) ++ a0_6).size + 1 ≤ 9223372036854775807 then (some (((⟨#[39, 110, 111, 110, 99, 101, 45]⟩ : ByteArray) ++ a0_6) ++ (⟨#[39]⟩ : ByteArray))) else (none)) else (none)) else (if a0_2 = true then (if 2 + a0_3.size ≤ 9223372036854775807 then (pursuivantref11_Text.j0 k ((⟨#[42, 46]⟩ : ByteArray) ++ a0_3) a0_0 a0_1 a0_2 a0_3 a0_4 a0_5 a0_6) else (none)) else (pursuivantref11_Text.j0 k a0_3 a0_0 a0_1 a0_2 a0_3 a0_4 a0_5 a0_6)))))) else (some (⟨#[]⟩ : ByteArray)))
set_option maxHeartbeats 8000000 in
set_option maxRecDepth 100000 in
theorem pursuivantref11_Text.calls (k : Nat) (a0_0 : Int) (a0_1 : ByteArray) (a0_2 : Bool) (a0_3 : ByteArray) (a0_4 : Int) (a0_5 a0_6 r : ByteArray) (w : World) (hG_ : GW w) (h : pursuivantref11_Text.f k a0_0 a0_1 a0_2 a0_3 a0_4 a0_5 a0_6 = some r) :
  Calls Tryd.prog 9 #[.agg #[.int .i64 a0_0, .string a0_1, .bool a0_2, .string a0_3, .int .i64 a0_4, .string a0_5, .string a0_6]] w fun e w' => e = .returned (.string r) ∧ Below w.heap.size w w' := by
 have huX34 := Tryd.underlying34
 have huX31 := Tryd.underlying31
 have hu23 := Tryd.underlying23
 have HB := Aside0.mk (Below.refl w.heap.size w)
 have H : ((pursuivantref11_Good.f k a0_0 a0_1 a0_2 a0_3 a0_4 a0_5 a0_6).bind fun t128 => (if t128 = true then (if a0_0 = 1 then (some (⟨#[39, 115, 101, 108, 102, 39]⟩ : ByteArray)) else (if a0_0 = 2 then (some (⟨#[42]⟩ : ByteArray)) else (if a0_0 = 3 then (if a0_1.size + 1 ≤ 9223372036854775807 then (some (a0_1 ++ (⟨#[58]⟩ : ByteArray))) else (none)) else (if a0_0 = 5 then (if 7 + a0_6.size ≤ 9223372036854775807 then (if ((⟨#[39, 110, 111, 110, 99, 101, 45]⟩ : ByteArray) ++ a0_6).size + 1 ≤ 9223372036854775807 then (some (((⟨#[39, 110, 111, 110, 99, 101, 45]⟩ : ByteArray) ++ a0_6) ++ (⟨#[39]⟩ : ByteArray))) else (none)) else (none)) else (if a0_2 = true then (if 2 + a0_3.size ≤ 9223372036854775807 then (pursuivantref11_Text.j0 k ((⟨#[42, 46]⟩ : ByteArray) ++ a0_3) a0_0 a0_1 a0_2 a0_3 a0_4 a0_5 a0_6) else (none)) else (pursuivantref11_Text.j0 k a0_3 a0_0 a0_1 a0_2 a0_3 a0_4 a0_5 a0_6)))))) else (some (⟨#[]⟩ : ByteArray)))) = some r := h
 clear h
 replace H := Option.bind_eq_some_iff.mp H
 obtain ⟨t128, A20, H⟩ := H
 replace H : (if t128 = true then (if a0_0 = 1 then (some (⟨#[39, 115, 101, 108, 102, 39]⟩ : ByteArray)) else (if a0_0 = 2 then (some (⟨#[42]⟩ : ByteArray)) else (if a0_0 = 3 then (if a0_1.size + 1 ≤ 9223372036854775807 then (some (a0_1 ++ (⟨#[58]⟩ : ByteArray))) else (none)) else (if a0_0 = 5 then (if 7 + a0_6.size ≤ 9223372036854775807 then (if ((⟨#[39, 110, 111, 110, 99, 101, 45]⟩ : ByteArray) ++ a0_6).size + 1 ≤ 9223372036854775807 then (some (((⟨#[39, 110, 111, 110, 99, 101, 45]⟩ : ByteArray) ++ a0_6) ++ (⟨#[39]⟩ : ByteArray))) else (none)) else (none)) else (if a0_2 = true then (if 2 + a0_3.size ≤ 9223372036854775807 then (pursuivantref11_Text.j0 k ((⟨#[42, 46]⟩ : ByteArray) ++ a0_3) a0_0 a0_1 a0_2 a0_3 a0_4 a0_5 a0_6) else (none)) else (pursuivantref11_Text.j0 k a0_3 a0_0 a0_1 a0_2 a0_3 a0_4 a0_5 a0_6)))))) else (some (⟨#[]⟩ : ByteArray))) = some r := H
 have A2 := Aside0.mk A20; clear A20
 by_cases c3 : t128 = true
 ·subst c3
  have H1 : (if a0_0 = 1 then (some (⟨#[39, 115, 101, 108, 102, 39]⟩ : ByteArray)) else (if a0_0 = 2 then (some (⟨#[42]⟩ : ByteArray)) else (if a0_0 = 3 then (if a0_1.size + 1 ≤ 9223372036854775807 then (some (a0_1 ++ (⟨#[58]⟩ : ByteArray))) else (none)) else (if a0_0 = 5 then (if 7 + a0_6.size ≤ 9223372036854775807 then (if ((⟨#[39, 110, 111, 110, 99, 101, 45]⟩ : ByteArray) ++ a0_6).size + 1 ≤ 9223372036854775807 then (some (((⟨#[39, 110, 111, 110, 99, 101, 45]⟩ : ByteArray) ++ a0_6) ++ (⟨#[39]⟩ : ByteArray))) else (none)) else (none)) else (if a0_2 = true then (if 2 + a0_3.size ≤ 9223372036854775807 then (pursuivantref11_Text.j0 k ((⟨#[42, 46]⟩ : ByteArray) ++ a0_3) a0_0 a0_1 a0_2 a0_3 a0_4 a0_5 a0_6) else (none)) else (pursuivantref11_Text.j0 k a0_3 a0_0 a0_1 a0_2 a0_3 a0_4 a0_5 a0_6)))))) = some r := by rw [if_pos rfl] at H; exact H
  clear H
  have H := H1
  clear H1
  by_cases c4 : a0_0 = 1
  ·rw [if_pos c4] at H
   have c4b0 : (a0_0 == 1) = true := beq_iff_eq.mpr c4
   have c4b1 : (a0_0 != 1) = false := bne_eq_false_iff_eq.mpr c4
   clear c4
   obtain rfl := Option.some.inj H
   go_enter Tryd.func9, Tryd.ntmps9
   go_wp2_with (first | ((with_reducible refine gate_dst (N := 1) rfl ?_); refine box_event ?hg (N := 1) ?hd (cs := #[.int .i64 a0_0, .string a0_1, .bool a0_2, .string a0_3, .int .i64 a0_4, .string a0_5, .string a0_6]) (t := 23) ?hr ?_; (case hd => rfl); (case hg => rfl); (case hr => first | (go_simp; done) | (go_simp; rfl)); intro gb127 hg w5 hbox hb; have n0_ := Aside0.mk (below_step z40_ hb); have n1_ := Aside0.mk (hbox); have n2_ := Aside0.mk ((by rw [hg]; exact (below_size z40_) : w.heap.size ≤ gb127)); have n3_ := Aside0.mk ((by rw [hg]; exact (below_size z40_) : w.heap.size ≤ gb127)); clear HB; have HB := n0_; have BK127 := n1_; have GW127 := n2_; have GE127 := n3_; clear n0_ n1_ n2_ n3_; clear hb hbox hg; have hcz6_0 : w5.cell? ⟨gb127, 0, none⟩ = some (.int .i64 a0_0) := (blk_cell BK127.out 0).trans rfl; have hcz6_1 : w5.cell? ⟨gb127, 1, none⟩ = some (.string a0_1) := (blk_cell BK127.out 1).trans rfl; have hcz6_2 : w5.cell? ⟨gb127, 2, none⟩ = some (.bool a0_2) := (blk_cell BK127.out 2).trans rfl; have hcz6_3 : w5.cell? ⟨gb127, 3, none⟩ = some (.string a0_3) := (blk_cell BK127.out 3).trans rfl; have hcz6_4 : w5.cell? ⟨gb127, 4, none⟩ = some (.int .i64 a0_4) := (blk_cell BK127.out 4).trans rfl; have hcz6_5 : w5.cell? ⟨gb127, 5, none⟩ = some (.string a0_5) := (blk_cell BK127.out 5).trans rfl; have hcz6_6 : w5.cell? ⟨gb127, 6, none⟩ = some (.string a0_6) := (blk_cell BK127.out 6).trans rfl; have hfz6_0 := blk_frozen BK127.out 0; have hfz6_1 := blk_frozen BK127.out 1; have hfz6_2 := blk_frozen BK127.out 2; have hfz6_3 := blk_frozen BK127.out 3; have hfz6_4 := blk_frozen BK127.out 4; have hfz6_5 := blk_frozen BK127.out 5; have hfz6_6 := blk_frozen BK127.out 6) | ((with_reducible refine gate_callee (f := 7) rfl ?_); refine goesL_ (some 5) rfl rfl Tryd.func7 (by kernel_rfl) rfl #[.agg #[.int .i64 a0_0, .string a0_1, .bool a0_2, .string a0_3, .int .i64 a0_4, .string a0_5, .string a0_6]] rfl z39_ ?_; (with_reducible refine (pursuivantref11_Good.calls k a0_0 a0_1 a0_2 a0_3 a0_4 a0_5 a0_6 true _ ?gw6_ A2.out).mono ?_); (case gw6_ => exact z11_); rintro e w7 ⟨rfl, hb⟩; refine ⟨_, rfl, ?_⟩; have n0_ := Aside0.mk (blk_below (g := gb127) (o := .cells #[.int .i64 a0_0, .string a0_1, .bool a0_2, .string a0_3, .int .i64 a0_4, .string a0_5, .string a0_6] 23 (0, 0)) z56_ hb); have n1_ := Aside0.mk (below_step z35_ hb); clear BK127; clear HB; have BK127 := n0_; have HB := n1_; clear n0_ n1_; (try clear hb); (try clear hb2); (try clear hk); (try clear hi); have hcz8_0 : w7.cell? ⟨gb127, 0, none⟩ = some (.int .i64 a0_0) := (blk_cell BK127.out 0).trans rfl; have hcz8_1 : w7.cell? ⟨gb127, 1, none⟩ = some (.string a0_1) := (blk_cell BK127.out 1).trans rfl; have hcz8_2 : w7.cell? ⟨gb127, 2, none⟩ = some (.bool a0_2) := (blk_cell BK127.out 2).trans rfl; have hcz8_3 : w7.cell? ⟨gb127, 3, none⟩ = some (.string a0_3) := (blk_cell BK127.out 3).trans rfl; have hcz8_4 : w7.cell? ⟨gb127, 4, none⟩ = some (.int .i64 a0_4) := (blk_cell BK127.out 4).trans rfl; have hcz8_5 : w7.cell? ⟨gb127, 5, none⟩ = some (.string a0_5) := (blk_cell BK127.out 5).trans rfl; have hcz8_6 : w7.cell? ⟨gb127, 6, none⟩ = some (.string a0_6) := (blk_cell BK127.out 6).trans rfl; have hfz8_0 := blk_frozen BK127.out 0; have hfz8_1 := blk_frozen BK127.out 1; have hfz8_2 := blk_frozen BK127.out 2; have hfz8_3 := blk_frozen BK127.out 3; have hfz8_4 := blk_frozen BK127.out 4; have hfz8_5 := blk_frozen BK127.out 5; have hfz8_6 := blk_frozen BK127.out 6))
   go_ret
   exact ⟨z41_, z35_⟩
  ·rw [if_neg c4] at H
   have c4b0 : (a0_0 == 1) = false := beq_eq_false_iff_ne.mpr c4
   have c4b1 : (a0_0 != 1) = true := bne_iff_ne.mpr c4
   by_cases c9 : a0_0 = 2
   ·rw [if_pos c9] at H
    have c9b0 : (a0_0 == 2) = true := beq_iff_eq.mpr c9
    have c9b1 : (a0_0 != 2) = false := bne_eq_false_iff_eq.mpr c9
    clear c9
    obtain rfl := Option.some.inj H
    go_enter Tryd.func9, Tryd.ntmps9
    go_wp2_with (first | ((with_reducible refine gate_dst (N := 1) rfl ?_); refine box_event ?hg (N := 1) ?hd (cs := #[.int .i64 a0_0, .string a0_1, .bool a0_2, .string a0_3, .int .i64 a0_4, .string a0_5, .string a0_6]) (t := 23) ?hr ?_; (case hd => rfl); (case hg => rfl); (case hr => first | (go_simp; done) | (go_simp; rfl)); intro gb127 hg w10 hbox hb; have n0_ := Aside0.mk (below_step z40_ hb); have n1_ := Aside0.mk (hbox); have n2_ := Aside0.mk ((by rw [hg]; exact (below_size z40_) : w.heap.size ≤ gb127)); have n3_ := Aside0.mk ((by rw [hg]; exact (below_size z40_) : w.heap.size ≤ gb127)); clear HB; have HB := n0_; have BK127 := n1_; have GW127 := n2_; have GE127 := n3_; clear n0_ n1_ n2_ n3_; clear hb hbox hg; have hcz11_0 : w10.cell? ⟨gb127, 0, none⟩ = some (.int .i64 a0_0) := (blk_cell BK127.out 0).trans rfl; have hcz11_1 : w10.cell? ⟨gb127, 1, none⟩ = some (.string a0_1) := (blk_cell BK127.out 1).trans rfl; have hcz11_2 : w10.cell? ⟨gb127, 2, none⟩ = some (.bool a0_2) := (blk_cell BK127.out 2).trans rfl; have hcz11_3 : w10.cell? ⟨gb127, 3, none⟩ = some (.string a0_3) := (blk_cell BK127.out 3).trans rfl; have hcz11_4 : w10.cell? ⟨gb127, 4, none⟩ = some (.int .i64 a0_4) := (blk_cell BK127.out 4).trans rfl; have hcz11_5 : w10.cell? ⟨gb127, 5, none⟩ = some (.string a0_5) := (blk_cell BK127.out 5).trans rfl; have hcz11_6 : w10.cell? ⟨gb127, 6, none⟩ = some (.string a0_6) := (blk_cell BK127.out 6).trans rfl; have hfz11_0 := blk_frozen BK127.out 0; have hfz11_1 := blk_frozen BK127.out 1; have hfz11_2 := blk_frozen BK127.out 2; have hfz11_3 := blk_frozen BK127.out 3; have hfz11_4 := blk_frozen BK127.out 4; have hfz11_5 := blk_frozen BK127.out 5; have hfz11_6 := blk_frozen BK127.out 6) | ((with_reducible refine gate_callee (f := 7) rfl ?_); refine goesL_ (some 5) rfl rfl Tryd.func7 (by kernel_rfl) rfl #[.agg #[.int .i64 a0_0, .string a0_1, .bool a0_2, .string a0_3, .int .i64 a0_4, .string a0_5, .string a0_6]] rfl z39_ ?_; (with_reducible refine (pursuivantref11_Good.calls k a0_0 a0_1 a0_2 a0_3 a0_4 a0_5 a0_6 true _ ?gw7_ A2.out).mono ?_); (case gw7_ => exact z11_); rintro e w12 ⟨rfl, hb⟩; refine ⟨_, rfl, ?_⟩; have n0_ := Aside0.mk (blk_below (g := gb127) (o := .cells #[.int .i64 a0_0, .string a0_1, .bool a0_2, .string a0_3, .int .i64 a0_4, .string a0_5, .string a0_6] 23 (0, 0)) z56_ hb); have n1_ := Aside0.mk (below_step z35_ hb); clear BK127; clear HB; have BK127 := n0_; have HB := n1_; clear n0_ n1_; (try clear hb); (try clear hb2); (try clear hk); (try clear hi); have hcz13_0 : w12.cell? ⟨gb127, 0, none⟩ = some (.int .i64 a0_0) := (blk_cell BK127.out 0).trans rfl; have hcz13_1 : w12.cell? ⟨gb127, 1, none⟩ = some (.string a0_1) := (blk_cell BK127.out 1).trans rfl; have hcz13_2 : w12.cell? ⟨gb127, 2, none⟩ = some (.bool a0_2) := (blk_cell BK127.out 2).trans rfl; have hcz13_3 : w12.cell? ⟨gb127, 3, none⟩ = some (.string a0_3) := (blk_cell BK127.out 3).trans rfl; have hcz13_4 : w12.cell? ⟨gb127, 4, none⟩ = some (.int .i64 a0_4) := (blk_cell BK127.out 4).trans rfl; have hcz13_5 : w12.cell? ⟨gb127, 5, none⟩ = some (.string a0_5) := (blk_cell BK127.out 5).trans rfl; have hcz13_6 : w12.cell? ⟨gb127, 6, none⟩ = some (.string a0_6) := (blk_cell BK127.out 6).trans rfl; have hfz13_0 := blk_frozen BK127.out 0; have hfz13_1 := blk_frozen BK127.out 1; have hfz13_2 := blk_frozen BK127.out 2; have hfz13_3 := blk_frozen BK127.out 3; have hfz13_4 := blk_frozen BK127.out 4; have hfz13_5 := blk_frozen BK127.out 5; have hfz13_6 := blk_frozen BK127.out 6))
    go_ret
    exact ⟨z41_, z35_⟩
   ·rw [if_neg c9] at H
    have c9b0 : (a0_0 == 2) = false := beq_eq_false_iff_ne.mpr c9
    have c9b1 : (a0_0 != 2) = true := bne_iff_ne.mpr c9
    by_cases c14 : a0_0 = 3
    ·rw [if_pos c14] at H
     have c14b0 : (a0_0 == 3) = true := beq_iff_eq.mpr c14
     have c14b1 : (a0_0 != 3) = false := bne_eq_false_iff_eq.mpr c14
     clear c14
     by_cases c15 : a0_1.size + 1 ≤ 9223372036854775807
     ·rw [if_pos c15] at H
      have c15b0 := eq_true c15; have c15b1 : decide (a0_1.size + 1 ≤ 9223372036854775807) = true := decide_eq_true c15
      try have c15b2 : (9223372036854775807 < a0_1.size + 1) = False := eq_false (Nat.not_lt.2 c15)
      try have c15c0 : (9223372036854775807 ≤ a0_1.size) = False := eq_false (by omega)
      try have c15c1 : (a0_1.size < 9223372036854775807) = True := eq_true (by omega)
      obtain rfl := Option.some.inj H
      go_enter Tryd.func9, Tryd.ntmps9
      go_wp2_with (first | ((with_reducible refine gate_dst (N := 1) rfl ?_); refine box_event ?hg (N := 1) ?hd (cs := #[.int .i64 a0_0, .string a0_1, .bool a0_2, .string a0_3, .int .i64 a0_4, .string a0_5, .string a0_6]) (t := 23) ?hr ?_; (case hd => rfl); (case hg => rfl); (case hr => first | (go_simp; done) | (go_simp; rfl)); intro gb127 hg w16 hbox hb; have n0_ := Aside0.mk (below_step z40_ hb); have n1_ := Aside0.mk (hbox); have n2_ := Aside0.mk ((by rw [hg]; exact (below_size z40_) : w.heap.size ≤ gb127)); have n3_ := Aside0.mk ((by rw [hg]; exact (below_size z40_) : w.heap.size ≤ gb127)); clear HB; have HB := n0_; have BK127 := n1_; have GW127 := n2_; have GE127 := n3_; clear n0_ n1_ n2_ n3_; clear hb hbox hg; have hcz17_0 : w16.cell? ⟨gb127, 0, none⟩ = some (.int .i64 a0_0) := (blk_cell BK127.out 0).trans rfl; have hcz17_1 : w16.cell? ⟨gb127, 1, none⟩ = some (.string a0_1) := (blk_cell BK127.out 1).trans rfl; have hcz17_2 : w16.cell? ⟨gb127, 2, none⟩ = some (.bool a0_2) := (blk_cell BK127.out 2).trans rfl; have hcz17_3 : w16.cell? ⟨gb127, 3, none⟩ = some (.string a0_3) := (blk_cell BK127.out 3).trans rfl; have hcz17_4 : w16.cell? ⟨gb127, 4, none⟩ = some (.int .i64 a0_4) := (blk_cell BK127.out 4).trans rfl; have hcz17_5 : w16.cell? ⟨gb127, 5, none⟩ = some (.string a0_5) := (blk_cell BK127.out 5).trans rfl; have hcz17_6 : w16.cell? ⟨gb127, 6, none⟩ = some (.string a0_6) := (blk_cell BK127.out 6).trans rfl; have hfz17_0 := blk_frozen BK127.out 0; have hfz17_1 := blk_frozen BK127.out 1; have hfz17_2 := blk_frozen BK127.out 2; have hfz17_3 := blk_frozen BK127.out 3; have hfz17_4 := blk_frozen BK127.out 4; have hfz17_5 := blk_frozen BK127.out 5; have hfz17_6 := blk_frozen BK127.out 6) | ((with_reducible refine gate_callee (f := 7) rfl ?_); refine goesL_ (some 5) rfl rfl Tryd.func7 (by kernel_rfl) rfl #[.agg #[.int .i64 a0_0, .string a0_1, .bool a0_2, .string a0_3, .int .i64 a0_4, .string a0_5, .string a0_6]] rfl z39_ ?_; (with_reducible refine (pursuivantref11_Good.calls k a0_0 a0_1 a0_2 a0_3 a0_4 a0_5 a0_6 true _ ?gw8_ A2.out).mono ?_); (case gw8_ => exact z11_); rintro e w18 ⟨rfl, hb⟩; refine ⟨_, rfl, ?_⟩; have n0_ := Aside0.mk (blk_below (g := gb127) (o := .cells #[.int .i64 a0_0, .string a0_1, .bool a0_2, .string a0_3, .int .i64 a0_4, .string a0_5, .string a0_6] 23 (0, 0)) z56_ hb); have n1_ := Aside0.mk (below_step z35_ hb); clear BK127; clear HB; have BK127 := n0_; have HB := n1_; clear n0_ n1_; (try clear hb); (try clear hb2); (try clear hk); (try clear hi); have hcz19_0 : w18.cell? ⟨gb127, 0, none⟩ = some (.int .i64 a0_0) := (blk_cell BK127.out 0).trans rfl; have hcz19_1 : w18.cell? ⟨gb127, 1, none⟩ = some (.string a0_1) := (blk_cell BK127.out 1).trans rfl; have hcz19_2 : w18.cell? ⟨gb127, 2, none⟩ = some (.bool a0_2) := (blk_cell BK127.out 2).trans rfl; have hcz19_3 : w18.cell? ⟨gb127, 3, none⟩ = some (.string a0_3) := (blk_cell BK127.out 3).trans rfl; have hcz19_4 : w18.cell? ⟨gb127, 4, none⟩ = some (.int .i64 a0_4) := (blk_cell BK127.out 4).trans rfl; have hcz19_5 : w18.cell? ⟨gb127, 5, none⟩ = some (.string a0_5) := (blk_cell BK127.out 5).trans rfl; have hcz19_6 : w18.cell? ⟨gb127, 6, none⟩ = some (.string a0_6) := (blk_cell BK127.out 6).trans rfl; have hfz19_0 := blk_frozen BK127.out 0; have hfz19_1 := blk_frozen BK127.out 1; have hfz19_2 := blk_frozen BK127.out 2; have hfz19_3 := blk_frozen BK127.out 3; have hfz19_4 := blk_frozen BK127.out 4; have hfz19_5 := blk_frozen BK127.out 5; have hfz19_6 := blk_frozen BK127.out 6))
      go_ret
      exact ⟨z41_, z35_⟩
     ·rw [if_neg c15] at H
      exact absurd H (by simp)
    ·rw [if_neg c14] at H
     have c14b0 : (a0_0 == 3) = false := beq_eq_false_iff_ne.mpr c14
     have c14b1 : (a0_0 != 3) = true := bne_iff_ne.mpr c14
     by_cases c20 : a0_0 = 5
     ·rw [if_pos c20] at H
      have c20b0 : (a0_0 == 5) = true := beq_iff_eq.mpr c20
      have c20b1 : (a0_0 != 5) = false := bne_eq_false_iff_eq.mpr c20
      clear c20
      by_cases c21 : 7 + a0_6.size ≤ 9223372036854775807
      ·rw [if_pos c21] at H
       have c21b0 := eq_true c21; have c21b1 : decide (7 + a0_6.size ≤ 9223372036854775807) = true := decide_eq_true c21
       try have c21b2 : (9223372036854775807 < 7 + a0_6.size) = False := eq_false (Nat.not_lt.2 c21)
       by_cases c22 : ((⟨#[39, 110, 111, 110, 99, 101, 45]⟩ : ByteArray) ++ a0_6).size + 1 ≤ 9223372036854775807
       ·rw [if_pos c22] at H
        have c22b0 := eq_true c22
        try have c22m : ((7 + a0_6.size) + 1 ≤ 9223372036854775807) = True := by first | exact c22b0 | (have h_ := c22; simp only [ByteArray.size_append, Int.natCast_add] at h_; exact eq_true h_)
        have c22b1 : decide (((⟨#[39, 110, 111, 110, 99, 101, 45]⟩ : ByteArray) ++ a0_6).size + 1 ≤ 9223372036854775807) = true := decide_eq_true c22
        try have c22b1n : decide ((7 + a0_6.size) + 1 ≤ 9223372036854775807) = true := by first | exact c22b1 | (have h_ := c22b1; simp only [ByteArray.size_append, Int.natCast_add] at h_; exact h_)
        try have c22b2 : (9223372036854775807 < ((⟨#[39, 110, 111, 110, 99, 101, 45]⟩ : ByteArray) ++ a0_6).size + 1) = False := eq_false (Nat.not_lt.2 c22)
        try have c22c0 : (9223372036854775807 ≤ ((⟨#[39, 110, 111, 110, 99, 101, 45]⟩ : ByteArray) ++ a0_6).size) = False := eq_false (by omega)
        try have c22c1 : (((⟨#[39, 110, 111, 110, 99, 101, 45]⟩ : ByteArray) ++ a0_6).size < 9223372036854775807) = True := eq_true (by omega)
        try have c22b2n : (9223372036854775807 < (7 + a0_6.size) + 1) = False := by first | exact c22b2 | (have h_ := c22b2; simp only [ByteArray.size_append, Int.natCast_add] at h_; exact h_)
        obtain rfl := Option.some.inj H
        go_enter Tryd.func9, Tryd.ntmps9
        go_wp2_with (first | ((with_reducible refine gate_dst (N := 1) rfl ?_); refine box_event ?hg (N := 1) ?hd (cs := #[.int .i64 a0_0, .string a0_1, .bool a0_2, .string a0_3, .int .i64 a0_4, .string a0_5, .string a0_6]) (t := 23) ?hr ?_; (case hd => rfl); (case hg => rfl); (case hr => first | (go_simp; done) | (go_simp; rfl)); intro gb127 hg w23 hbox hb; have n0_ := Aside0.mk (below_step z40_ hb); have n1_ := Aside0.mk (hbox); have n2_ := Aside0.mk ((by rw [hg]; exact (below_size z40_) : w.heap.size ≤ gb127)); have n3_ := Aside0.mk ((by rw [hg]; exact (below_size z40_) : w.heap.size ≤ gb127)); clear HB; have HB := n0_; have BK127 := n1_; have GW127 := n2_; have GE127 := n3_; clear n0_ n1_ n2_ n3_; clear hb hbox hg; have hcz24_0 : w23.cell? ⟨gb127, 0, none⟩ = some (.int .i64 a0_0) := (blk_cell BK127.out 0).trans rfl; have hcz24_1 : w23.cell? ⟨gb127, 1, none⟩ = some (.string a0_1) := (blk_cell BK127.out 1).trans rfl; have hcz24_2 : w23.cell? ⟨gb127, 2, none⟩ = some (.bool a0_2) := (blk_cell BK127.out 2).trans rfl; have hcz24_3 : w23.cell? ⟨gb127, 3, none⟩ = some (.string a0_3) := (blk_cell BK127.out 3).trans rfl; have hcz24_4 : w23.cell? ⟨gb127, 4, none⟩ = some (.int .i64 a0_4) := (blk_cell BK127.out 4).trans rfl; have hcz24_5 : w23.cell? ⟨gb127, 5, none⟩ = some (.string a0_5) := (blk_cell BK127.out 5).trans rfl; have hcz24_6 : w23.cell? ⟨gb127, 6, none⟩ = some (.string a0_6) := (blk_cell BK127.out 6).trans rfl; have hfz24_0 := blk_frozen BK127.out 0; have hfz24_1 := blk_frozen BK127.out 1; have hfz24_2 := blk_frozen BK127.out 2; have hfz24_3 := blk_frozen BK127.out 3; have hfz24_4 := blk_frozen BK127.out 4; have hfz24_5 := blk_frozen BK127.out 5; have hfz24_6 := blk_frozen BK127.out 6) | ((with_reducible refine gate_callee (f := 7) rfl ?_); refine goesL_ (some 5) rfl rfl Tryd.func7 (by kernel_rfl) rfl #[.agg #[.int .i64 a0_0, .string a0_1, .bool a0_2, .string a0_3, .int .i64 a0_4, .string a0_5, .string a0_6]] rfl z39_ ?_; (with_reducible refine (pursuivantref11_Good.calls k a0_0 a0_1 a0_2 a0_3 a0_4 a0_5 a0_6 true _ ?gw9_ A2.out).mono ?_); (case gw9_ => exact z11_); rintro e w25 ⟨rfl, hb⟩; refine ⟨_, rfl, ?_⟩; have n0_ := Aside0.mk (blk_below (g := gb127) (o := .cells #[.int .i64 a0_0, .string a0_1, .bool a0_2, .string a0_3, .int .i64 a0_4, .string a0_5, .string a0_6] 23 (0, 0)) z56_ hb); have n1_ := Aside0.mk (below_step z35_ hb); clear BK127; clear HB; have BK127 := n0_; have HB := n1_; clear n0_ n1_; (try clear hb); (try clear hb2); (try clear hk); (try clear hi); have hcz26_0 : w25.cell? ⟨gb127, 0, none⟩ = some (.int .i64 a0_0) := (blk_cell BK127.out 0).trans rfl; have hcz26_1 : w25.cell? ⟨gb127, 1, none⟩ = some (.string a0_1) := (blk_cell BK127.out 1).trans rfl; have hcz26_2 : w25.cell? ⟨gb127, 2, none⟩ = some (.bool a0_2) := (blk_cell BK127.out 2).trans rfl; have hcz26_3 : w25.cell? ⟨gb127, 3, none⟩ = some (.string a0_3) := (blk_cell BK127.out 3).trans rfl; have hcz26_4 : w25.cell? ⟨gb127, 4, none⟩ = some (.int .i64 a0_4) := (blk_cell BK127.out 4).trans rfl; have hcz26_5 : w25.cell? ⟨gb127, 5, none⟩ = some (.string a0_5) := (blk_cell BK127.out 5).trans rfl; have hcz26_6 : w25.cell? ⟨gb127, 6, none⟩ = some (.string a0_6) := (blk_cell BK127.out 6).trans rfl; have hfz26_0 := blk_frozen BK127.out 0; have hfz26_1 := blk_frozen BK127.out 1; have hfz26_2 := blk_frozen BK127.out 2; have hfz26_3 := blk_frozen BK127.out 3; have hfz26_4 := blk_frozen BK127.out 4; have hfz26_5 := blk_frozen BK127.out 5; have hfz26_6 := blk_frozen BK127.out 6))
        go_ret
        exact ⟨z41_, z35_⟩
       ·rw [if_neg c22] at H
        exact absurd H (by simp)
      ·rw [if_neg c21] at H
       exact absurd H (by simp)
     ·rw [if_neg c20] at H
      have c20b0 : (a0_0 == 5) = false := beq_eq_false_iff_ne.mpr c20
      have c20b1 : (a0_0 != 5) = true := bne_iff_ne.mpr c20
      have HC27 := Aside0.mk H; clear H
      go_enter Tryd.func9, Tryd.ntmps9
      go_upto_if 27 with (first | ((with_reducible refine gate_dst (N := 1) rfl ?_); refine box_event ?hg (N := 1) ?hd (cs := #[.int .i64 a0_0, .string a0_1, .bool a0_2, .string a0_3, .int .i64 a0_4, .string a0_5, .string a0_6]) (t := 23) ?hr ?_; (case hd => rfl); (case hg => rfl); (case hr => first | (go_simp; done) | (go_simp; rfl)); intro gb127 hg w28 hbox hb; have n0_ := Aside0.mk (below_step z40_ hb); have n1_ := Aside0.mk (hbox); have n2_ := Aside0.mk ((by rw [hg]; exact (below_size z40_) : w.heap.size ≤ gb127)); have n3_ := Aside0.mk ((by rw [hg]; exact (below_size z40_) : w.heap.size ≤ gb127)); clear HB; have HB := n0_; have BK127 := n1_; have GW127 := n2_; have GE127 := n3_; clear n0_ n1_ n2_ n3_; clear hb hbox hg; have hcz29_0 : w28.cell? ⟨gb127, 0, none⟩ = some (.int .i64 a0_0) := (blk_cell BK127.out 0).trans rfl; have hcz29_1 : w28.cell? ⟨gb127, 1, none⟩ = some (.string a0_1) := (blk_cell BK127.out 1).trans rfl; have hcz29_2 : w28.cell? ⟨gb127, 2, none⟩ = some (.bool a0_2) := (blk_cell BK127.out 2).trans rfl; have hcz29_3 : w28.cell? ⟨gb127, 3, none⟩ = some (.string a0_3) := (blk_cell BK127.out 3).trans rfl; have hcz29_4 : w28.cell? ⟨gb127, 4, none⟩ = some (.int .i64 a0_4) := (blk_cell BK127.out 4).trans rfl; have hcz29_5 : w28.cell? ⟨gb127, 5, none⟩ = some (.string a0_5) := (blk_cell BK127.out 5).trans rfl; have hcz29_6 : w28.cell? ⟨gb127, 6, none⟩ = some (.string a0_6) := (blk_cell BK127.out 6).trans rfl; have hfz29_0 := blk_frozen BK127.out 0; have hfz29_1 := blk_frozen BK127.out 1; have hfz29_2 := blk_frozen BK127.out 2; have hfz29_3 := blk_frozen BK127.out 3; have hfz29_4 := blk_frozen BK127.out 4; have hfz29_5 := blk_frozen BK127.out 5; have hfz29_6 := blk_frozen BK127.out 6) | ((with_reducible refine gate_callee (f := 7) rfl ?_); refine goesL_ (some 5) rfl rfl Tryd.func7 (by kernel_rfl) rfl #[.agg #[.int .i64 a0_0, .string a0_1, .bool a0_2, .string a0_3, .int .i64 a0_4, .string a0_5, .string a0_6]] rfl z39_ ?_; (with_reducible refine (pursuivantref11_Good.calls k a0_0 a0_1 a0_2 a0_3 a0_4 a0_5 a0_6 true _ ?gw10_ A2.out).mono ?_); (case gw10_ => exact z11_); rintro e w30 ⟨rfl, hb⟩; refine ⟨_, rfl, ?_⟩; have n0_ := Aside0.mk (blk_below (g := gb127) (o := .cells #[.int .i64 a0_0, .string a0_1, .bool a0_2, .string a0_3, .int .i64 a0_4, .string a0_5, .string a0_6] 23 (0, 0)) z56_ hb); have n1_ := Aside0.mk (below_step z35_ hb); clear BK127; clear HB; have BK127 := n0_; have HB := n1_; clear n0_ n1_; (try clear hb); (try clear hb2); (try clear hk); (try clear hi); have hcz31_0 : w30.cell? ⟨gb127, 0, none⟩ = some (.int .i64 a0_0) := (blk_cell BK127.out 0).trans rfl; have hcz31_1 : w30.cell? ⟨gb127, 1, none⟩ = some (.string a0_1) := (blk_cell BK127.out 1).trans rfl; have hcz31_2 : w30.cell? ⟨gb127, 2, none⟩ = some (.bool a0_2) := (blk_cell BK127.out 2).trans rfl; have hcz31_3 : w30.cell? ⟨gb127, 3, none⟩ = some (.string a0_3) := (blk_cell BK127.out 3).trans rfl; have hcz31_4 : w30.cell? ⟨gb127, 4, none⟩ = some (.int .i64 a0_4) := (blk_cell BK127.out 4).trans rfl; have hcz31_5 : w30.cell? ⟨gb127, 5, none⟩ = some (.string a0_5) := (blk_cell BK127.out 5).trans rfl; have hcz31_6 : w30.cell? ⟨gb127, 6, none⟩ = some (.string a0_6) := (blk_cell BK127.out 6).trans rfl; have hfz31_0 := blk_frozen BK127.out 0; have hfz31_1 := blk_frozen BK127.out 1; have hfz31_2 := blk_frozen BK127.out 2; have hfz31_3 := blk_frozen BK127.out 3; have hfz31_4 := blk_frozen BK127.out 4; have hfz31_5 := blk_frozen BK127.out 5; have hfz31_6 := blk_frozen BK127.out 6))
      (try simp only [Act.put, List.setIfInBounds_toArray, List.set_cons_zero, List.set_cons_succ])
      go_cut [3] (fun v3 wc => ∃ (kq : Nat) (x3_26 : ByteArray), v3 = .string x3_26 ∧ Aside0 (pursuivantref11_Text.j0 kq x3_26 a0_0 a0_1 a0_2 a0_3 a0_4 a0_5 a0_6 = some r) ∧ Aside0 (kq ≤ k) ∧ Aside0 (wc.heap[gb127]? = some (.cells #[.int .i64 a0_0, .string a0_1, .bool a0_2, .string a0_3, .int .i64 a0_4, .string a0_5, .string a0_6] 23 (0, 0))) ∧ Aside0 (Below w.heap.size w wc))
      case first =>
       have H := HC27.out
       clear HC27
       by_cases c32 : a0_2 = true
       ·subst c32
        have H1 : (if 2 + a0_3.size ≤ 9223372036854775807 then (pursuivantref11_Text.j0 k ((⟨#[42, 46]⟩ : ByteArray) ++ a0_3) a0_0 a0_1 true a0_3 a0_4 a0_5 a0_6) else (none)) = some r := by rw [if_pos rfl] at H; exact H
        clear H
        have H := H1
        clear H1
        by_cases c33 : 2 + a0_3.size ≤ 9223372036854775807
        ·rw [if_pos c33] at H
         have c33b0 := eq_true c33; have c33b1 : decide (2 + a0_3.size ≤ 9223372036854775807) = true := decide_eq_true c33
         try have c33b2 : (9223372036854775807 < 2 + a0_3.size) = False := eq_false (Nat.not_lt.2 c33)
         have H' := Aside0.mk H
         clear H; go_wp2; go_meet
         case rel => exact ⟨_, ((⟨#[42, 46]⟩ : ByteArray) ++ a0_3), z59_, H', ⟨z65_⟩, ⟨z56_⟩, ⟨z35_⟩⟩
        ·rw [if_neg c33] at H
         exact absurd H (by simp)
       ·replace c32 := Bool.eq_false_iff.mpr c32
        subst c32
        have H1 : (pursuivantref11_Text.j0 k a0_3 a0_0 a0_1 false a0_3 a0_4 a0_5 a0_6) = some r := by rw [if_neg (show ¬ (false = true) by decide)] at H; exact H
        clear H
        have H := H1
        clear H1
        have H' := Aside0.mk H
        clear H; go_wp2; go_meet
        case rel => exact ⟨_, (a0_3), z59_, H', ⟨z65_⟩, ⟨z56_⟩, ⟨z35_⟩⟩
      case rest =>
       clear HC27; (try clear c3); (try clear c4); (try clear c4b0); (try clear c4b1); (try clear c9); (try clear c9b0); (try clear c9b1); (try clear c14); (try clear c14b0); (try clear c14b1); (try clear c20); (try clear c20b0); (try clear c20b1); (try clear hcz29_0 hcz29_1 hcz29_2 hcz29_3 hcz29_4 hcz29_5 hcz29_6); (try clear hcz31_0 hcz31_1 hcz31_2 hcz31_3 hcz31_4 hcz31_5 hcz31_6); (try clear hfz29_0 hfz29_1 hfz29_2 hfz29_3 hfz29_4 hfz29_5 hfz29_6); (try clear hfz31_0 hfz31_1 hfz31_2 hfz31_3 hfz31_4 hfz31_5 hfz31_6)
       obtain ⟨kq, x3_26, rfl, HA, HJ26, BK127, HB⟩ := hcut
       cases kq with
       | zero => exact absurd HA.out (by simp [pursuivantref11_Text.j0])
       | succ kj26 =>
        have H := HA.out
        clear HA
        simp only [pursuivantref11_Text.j0] at H
        have HC34 := Aside0.mk H; clear H; obtain ⟨hcz35_0, hcz35_1, hcz35_2, hcz35_3, hcz35_4, hcz35_5, hcz35_6⟩ := blkc7_ BK127.out; obtain ⟨hfz35_0, hfz35_1, hfz35_2, hfz35_3, hfz35_4, hfz35_5, hfz35_6⟩ := blkf7_ BK127.out
        go_upto_if 32 with (fail)
        go_cut [3] (fun v3 wc => ∃ (kq : Nat) (x3_33 : ByteArray), v3 = .string x3_33 ∧ Aside0 (pursuivantref11_Text.j1 kq x3_33 a0_0 a0_1 a0_2 a0_3 a0_4 a0_5 a0_6 = some r) ∧ Aside0 (kq ≤ kj26) ∧ Aside0 (wc.heap[gb127]? = some (.cells #[.int .i64 a0_0, .string a0_1, .bool a0_2, .string a0_3, .int .i64 a0_4, .string a0_5, .string a0_6] 23 (0, 0))) ∧ Aside0 (Below w.heap.size w wc))
        case first =>
         have H := HC34.out
         clear HC34
         by_cases c36 : a0_1.toList = ([] : List UInt8)
         ·rw [if_pos c36] at H
          have c36b0 : (a0_1.toList == ([] : List UInt8)) = true := beq_iff_eq.mpr c36
          try have c36e0 : a0_1.toList.isEmpty = true := by rw [← nil_beq]; exact c36b0
          have c36b1 : (a0_1.toList != ([] : List UInt8)) = false := bne_eq_false_iff_eq.mpr c36
          clear c36
          (first | rw [c36b0] | (simp only [i64_w, i32_w]; rw [c36b0]) | rw [c36e0] | skip)
          have H' := Aside0.mk H
          clear H; go_wp2; go_meet
          case rel => exact ⟨_, (x3_26), z59_, H', ⟨z61_⟩, ⟨z56_⟩, ⟨z35_⟩⟩
         ·rw [if_neg c36] at H
          have c36b0 : (a0_1.toList == ([] : List UInt8)) = false := beq_eq_false_iff_ne.mpr c36
          try have c36e0 : a0_1.toList.isEmpty = false := by rw [← nil_beq]; exact c36b0
          have c36b1 : (a0_1.toList != ([] : List UInt8)) = true := bne_iff_ne.mpr c36
          (first | rw [c36b0] | (simp only [i64_w, i32_w]; rw [c36b0]) | rw [c36e0] | skip)
          by_cases c37 : a0_1.size + 3 ≤ 9223372036854775807
          ·rw [if_pos c37] at H
           have c37b0 := eq_true c37; have c37b1 : decide (a0_1.size + 3 ≤ 9223372036854775807) = true := decide_eq_true c37
           try have c37b2 : (9223372036854775807 < a0_1.size + 3) = False := eq_false (Nat.not_lt.2 c37)
           by_cases c38 : (a0_1 ++ (⟨#[58, 47, 47]⟩ : ByteArray)).size + x3_26.size ≤ 9223372036854775807
           ·rw [if_pos c38] at H
            have c38b0 := eq_true c38
            try have c38m : ((a0_1.size + 3) + x3_26.size ≤ 9223372036854775807) = True := by first | exact c38b0 | (have h_ := c38; simp only [ByteArray.size_append, Int.natCast_add] at h_; exact eq_true h_)
            have c38b1 : decide ((a0_1 ++ (⟨#[58, 47, 47]⟩ : ByteArray)).size + x3_26.size ≤ 9223372036854775807) = true := decide_eq_true c38
            try have c38b1n : decide ((a0_1.size + 3) + x3_26.size ≤ 9223372036854775807) = true := by first | exact c38b1 | (have h_ := c38b1; simp only [ByteArray.size_append, Int.natCast_add] at h_; exact h_)
            try have c38b2 : (9223372036854775807 < (a0_1 ++ (⟨#[58, 47, 47]⟩ : ByteArray)).size + x3_26.size) = False := eq_false (Nat.not_lt.2 c38)
            try have c38b2n : (9223372036854775807 < (a0_1.size + 3) + x3_26.size) = False := by first | exact c38b2 | (have h_ := c38b2; simp only [ByteArray.size_append, Int.natCast_add] at h_; exact h_)
            have H' := Aside0.mk H
            clear H; obtain ⟨hcz39_0, hcz39_1, hcz39_2, hcz39_3, hcz39_4, hcz39_5, hcz39_6⟩ := blkc7_ BK127.out; obtain ⟨hfz39_0, hfz39_1, hfz39_2, hfz39_3, hfz39_4, hfz39_5, hfz39_6⟩ := blkf7_ BK127.out; go_wp2; go_meet
            case rel => exact ⟨_, ((a0_1 ++ (⟨#[58, 47, 47]⟩ : ByteArray)) ++ x3_26), z59_, H', ⟨z61_⟩, ⟨z56_⟩, ⟨z35_⟩⟩
           ·rw [if_neg c38] at H
            exact absurd H (by simp)
          ·rw [if_neg c37] at H
           exact absurd H (by simp)
        case rest =>
         clear HC34; (try clear c3); (try clear c4); (try clear c4b0); (try clear c4b1); (try clear c9); (try clear c9b0); (try clear c9b1); (try clear c14); (try clear c14b0); (try clear c14b1); (try clear c20); (try clear c20b0); (try clear c20b1); (try clear hcz29_0 hcz29_1 hcz29_2 hcz29_3 hcz29_4 hcz29_5 hcz29_6); (try clear hcz31_0 hcz31_1 hcz31_2 hcz31_3 hcz31_4 hcz31_5 hcz31_6); (try clear hcz35_0 hcz35_1 hcz35_2 hcz35_3 hcz35_4 hcz35_5 hcz35_6); (try clear hfz29_0 hfz29_1 hfz29_2 hfz29_3 hfz29_4 hfz29_5 hfz29_6); (try clear hfz31_0 hfz31_1 hfz31_2 hfz31_3 hfz31_4 hfz31_5 hfz31_6); (try clear hfz35_0 hfz35_1 hfz35_2 hfz35_3 hfz35_4 hfz35_5 hfz35_6)
         obtain ⟨kq, x3_33, rfl, HA, HJ33, BK127, HB⟩ := hcut
         cases kq with
         | zero => exact absurd HA.out (by simp [pursuivantref11_Text.j1])
         | succ kj33 =>
          have H := HA.out
          clear HA
          simp only [pursuivantref11_Text.j1] at H
          by_cases c40 : a0_4 > 0
          ·rw [if_pos c40] at H
           have c40b0 : decide (0 < a0_4) = true := decide_eq_true c40; clear c40
           replace H := Option.bind_eq_some_iff.mp H
           obtain ⟨t129, A410, H⟩ := H
           replace H : (if 1 + t129.size ≤ 9223372036854775807 then (if x3_33.size + ((⟨#[58]⟩ : ByteArray) ++ t129).size ≤ 9223372036854775807 then (if a0_4 < 0 then (if (x3_33 ++ ((⟨#[58]⟩ : ByteArray) ++ t129)).size + 2 ≤ 9223372036854775807 then (if ((x3_33 ++ ((⟨#[58]⟩ : ByteArray) ++ t129)) ++ (⟨#[58, 42]⟩ : ByteArray)).size + a0_5.size ≤ 9223372036854775807 then (some (((x3_33 ++ ((⟨#[58]⟩ : ByteArray) ++ t129)) ++ (⟨#[58, 42]⟩ : ByteArray)) ++ a0_5)) else (none)) else (none)) else (if (x3_33 ++ ((⟨#[58]⟩ : ByteArray) ++ t129)).size + a0_5.size ≤ 9223372036854775807 then (some ((x3_33 ++ ((⟨#[58]⟩ : ByteArray) ++ t129)) ++ a0_5)) else (none))) else (none)) else (none)) = some r := H
           have A41 := Aside0.mk A410; clear A410
           by_cases c42 : 1 + t129.size ≤ 9223372036854775807
           ·rw [if_pos c42] at H
            have c42b0 := eq_true c42; have c42b1 : decide (1 + t129.size ≤ 9223372036854775807) = true := decide_eq_true c42
            try have c42b2 : (9223372036854775807 < 1 + t129.size) = False := eq_false (Nat.not_lt.2 c42)
            try have c42c0 : (9223372036854775807 ≤ t129.size) = False := eq_false (by omega)
            try have c42c1 : (t129.size < 9223372036854775807) = True := eq_true (by omega)
            by_cases c43 : x3_33.size + ((⟨#[58]⟩ : ByteArray) ++ t129).size ≤ 9223372036854775807
            ·rw [if_pos c43] at H
             have c43b0 := eq_true c43
             try have c43m : (x3_33.size + (1 + t129.size) ≤ 9223372036854775807) = True := by first | exact c43b0 | (have h_ := c43; simp only [ByteArray.size_append, Int.natCast_add] at h_; exact eq_true h_)
             have c43b1 : decide (x3_33.size + ((⟨#[58]⟩ : ByteArray) ++ t129).size ≤ 9223372036854775807) = true := decide_eq_true c43
             try have c43b1n : decide (x3_33.size + (1 + t129.size) ≤ 9223372036854775807) = true := by first | exact c43b1 | (have h_ := c43b1; simp only [ByteArray.size_append, Int.natCast_add] at h_; exact h_)
             try have c43b2 : (9223372036854775807 < x3_33.size + ((⟨#[58]⟩ : ByteArray) ++ t129).size) = False := eq_false (Nat.not_lt.2 c43)
             try have c43b2n : (9223372036854775807 < x3_33.size + (1 + t129.size)) = False := by first | exact c43b2 | (have h_ := c43b2; simp only [ByteArray.size_append, Int.natCast_add] at h_; exact h_)
             by_cases c44 : a0_4 < 0
             ·rw [if_pos c44] at H
              have c44b0 : decide (a0_4 < 0) = true := decide_eq_true c44; clear c44
              by_cases c45 : (x3_33 ++ ((⟨#[58]⟩ : ByteArray) ++ t129)).size + 2 ≤ 9223372036854775807
              ·rw [if_pos c45] at H
               have c45b0 := eq_true c45
               try have c45m : ((x3_33.size + (1 + t129.size)) + 2 ≤ 9223372036854775807) = True := by first | exact c45b0 | (have h_ := c45; simp only [ByteArray.size_append, Int.natCast_add] at h_; exact eq_true h_)
               have c45b1 : decide ((x3_33 ++ ((⟨#[58]⟩ : ByteArray) ++ t129)).size + 2 ≤ 9223372036854775807) = true := decide_eq_true c45
               try have c45b1n : decide ((x3_33.size + (1 + t129.size)) + 2 ≤ 9223372036854775807) = true := by first | exact c45b1 | (have h_ := c45b1; simp only [ByteArray.size_append, Int.natCast_add] at h_; exact h_)
               try have c45b2 : (9223372036854775807 < (x3_33 ++ ((⟨#[58]⟩ : ByteArray) ++ t129)).size + 2) = False := eq_false (Nat.not_lt.2 c45)
               try have c45b2n : (9223372036854775807 < (x3_33.size + (1 + t129.size)) + 2) = False := by first | exact c45b2 | (have h_ := c45b2; simp only [ByteArray.size_append, Int.natCast_add] at h_; exact h_)
               by_cases c46 : ((x3_33 ++ ((⟨#[58]⟩ : ByteArray) ++ t129)) ++ (⟨#[58, 42]⟩ : ByteArray)).size + a0_5.size ≤ 9223372036854775807
               ·rw [if_pos c46] at H
                have c46b0 := eq_true c46
                try have c46m : ((x3_33.size + (1 + t129.size) + 2) + a0_5.size ≤ 9223372036854775807) = True := by first | exact c46b0 | (have h_ := c46; simp only [ByteArray.size_append, Int.natCast_add] at h_; exact eq_true h_)
                have c46b1 : decide (((x3_33 ++ ((⟨#[58]⟩ : ByteArray) ++ t129)) ++ (⟨#[58, 42]⟩ : ByteArray)).size + a0_5.size ≤ 9223372036854775807) = true := decide_eq_true c46
                try have c46b1n : decide ((x3_33.size + (1 + t129.size) + 2) + a0_5.size ≤ 9223372036854775807) = true := by first | exact c46b1 | (have h_ := c46b1; simp only [ByteArray.size_append, Int.natCast_add] at h_; exact h_)
                try have c46b2 : (9223372036854775807 < ((x3_33 ++ ((⟨#[58]⟩ : ByteArray) ++ t129)) ++ (⟨#[58, 42]⟩ : ByteArray)).size + a0_5.size) = False := eq_false (Nat.not_lt.2 c46)
                try have c46b2n : (9223372036854775807 < (x3_33.size + (1 + t129.size) + 2) + a0_5.size) = False := by first | exact c46b2 | (have h_ := c46b2; simp only [ByteArray.size_append, Int.natCast_add] at h_; exact h_)
                obtain rfl := Option.some.inj H
                obtain ⟨hcz47_0, hcz47_1, hcz47_2, hcz47_3, hcz47_4, hcz47_5, hcz47_6⟩ := blkc7_ BK127.out; obtain ⟨hfz47_0, hfz47_1, hfz47_2, hfz47_3, hfz47_4, hfz47_5, hfz47_6⟩ := blkf7_ BK127.out
                go_wp2_with (first | ((with_reducible refine gate_callee (f := 22) rfl ?_); refine goesL_ (some 44) rfl rfl Tryd.func22 (by kernel_rfl) rfl #[.int .i64 a0_4] rfl z39_ ?_; (with_reducible refine (pursuivantref06_Digits.calls kj33 a0_4 t129 _ ?gw11_ A41.out).mono ?_); (case gw11_ => exact z11_); rintro e w48 ⟨rfl, hb⟩; refine ⟨_, rfl, ?_⟩; have n0_ := Aside0.mk (blk_below (g := gb127) (o := .cells #[.int .i64 a0_0, .string a0_1, .bool a0_2, .string a0_3, .int .i64 a0_4, .string a0_5, .string a0_6] 23 (0, 0)) z56_ hb); have n1_ := Aside0.mk (below_step z35_ hb); clear BK127; clear HB; have BK127 := n0_; have HB := n1_; clear n0_ n1_; (try clear hb); (try clear hb2); (try clear hk); (try clear hi); have hcz49_0 : w48.cell? ⟨gb127, 0, none⟩ = some (.int .i64 a0_0) := (blk_cell BK127.out 0).trans rfl; have hcz49_1 : w48.cell? ⟨gb127, 1, none⟩ = some (.string a0_1) := (blk_cell BK127.out 1).trans rfl; have hcz49_2 : w48.cell? ⟨gb127, 2, none⟩ = some (.bool a0_2) := (blk_cell BK127.out 2).trans rfl; have hcz49_3 : w48.cell? ⟨gb127, 3, none⟩ = some (.string a0_3) := (blk_cell BK127.out 3).trans rfl; have hcz49_4 : w48.cell? ⟨gb127, 4, none⟩ = some (.int .i64 a0_4) := (blk_cell BK127.out 4).trans rfl; have hcz49_5 : w48.cell? ⟨gb127, 5, none⟩ = some (.string a0_5) := (blk_cell BK127.out 5).trans rfl; have hcz49_6 : w48.cell? ⟨gb127, 6, none⟩ = some (.string a0_6) := (blk_cell BK127.out 6).trans rfl; have hfz49_0 := blk_frozen BK127.out 0; have hfz49_1 := blk_frozen BK127.out 1; have hfz49_2 := blk_frozen BK127.out 2; have hfz49_3 := blk_frozen BK127.out 3; have hfz49_4 := blk_frozen BK127.out 4; have hfz49_5 := blk_frozen BK127.out 5; have hfz49_6 := blk_frozen BK127.out 6))
                go_ret
                exact ⟨z41_, z35_⟩
               ·rw [if_neg c46] at H
                exact absurd H (by simp)
              ·rw [if_neg c45] at H
               exact absurd H (by simp)
             ·rw [if_neg c44] at H
              have c44b0 : decide (a0_4 < 0) = false := decide_eq_false c44; clear c44
              by_cases c50 : (x3_33 ++ ((⟨#[58]⟩ : ByteArray) ++ t129)).size + a0_5.size ≤ 9223372036854775807
              ·rw [if_pos c50] at H
               have c50b0 := eq_true c50
               try have c50m : ((x3_33.size + (1 + t129.size)) + a0_5.size ≤ 9223372036854775807) = True := by first | exact c50b0 | (have h_ := c50; simp only [ByteArray.size_append, Int.natCast_add] at h_; exact eq_true h_)
               have c50b1 : decide ((x3_33 ++ ((⟨#[58]⟩ : ByteArray) ++ t129)).size + a0_5.size ≤ 9223372036854775807) = true := decide_eq_true c50
               try have c50b1n : decide ((x3_33.size + (1 + t129.size)) + a0_5.size ≤ 9223372036854775807) = true := by first | exact c50b1 | (have h_ := c50b1; simp only [ByteArray.size_append, Int.natCast_add] at h_; exact h_)
               try have c50b2 : (9223372036854775807 < (x3_33 ++ ((⟨#[58]⟩ : ByteArray) ++ t129)).size + a0_5.size) = False := eq_false (Nat.not_lt.2 c50)
               try have c50b2n : (9223372036854775807 < (x3_33.size + (1 + t129.size)) + a0_5.size) = False := by first | exact c50b2 | (have h_ := c50b2; simp only [ByteArray.size_append, Int.natCast_add] at h_; exact h_)
               obtain rfl := Option.some.inj H
               obtain ⟨hcz51_0, hcz51_1, hcz51_2, hcz51_3, hcz51_4, hcz51_5, hcz51_6⟩ := blkc7_ BK127.out; obtain ⟨hfz51_0, hfz51_1, hfz51_2, hfz51_3, hfz51_4, hfz51_5, hfz51_6⟩ := blkf7_ BK127.out
               go_wp2_with (first | ((with_reducible refine gate_callee (f := 22) rfl ?_); refine goesL_ (some 44) rfl rfl Tryd.func22 (by kernel_rfl) rfl #[.int .i64 a0_4] rfl z39_ ?_; (with_reducible refine (pursuivantref06_Digits.calls kj33 a0_4 t129 _ ?gw12_ A41.out).mono ?_); (case gw12_ => exact z11_); rintro e w52 ⟨rfl, hb⟩; refine ⟨_, rfl, ?_⟩; have n0_ := Aside0.mk (blk_below (g := gb127) (o := .cells #[.int .i64 a0_0, .string a0_1, .bool a0_2, .string a0_3, .int .i64 a0_4, .string a0_5, .string a0_6] 23 (0, 0)) z56_ hb); have n1_ := Aside0.mk (below_step z35_ hb); clear BK127; clear HB; have BK127 := n0_; have HB := n1_; clear n0_ n1_; (try clear hb); (try clear hb2); (try clear hk); (try clear hi); have hcz53_0 : w52.cell? ⟨gb127, 0, none⟩ = some (.int .i64 a0_0) := (blk_cell BK127.out 0).trans rfl; have hcz53_1 : w52.cell? ⟨gb127, 1, none⟩ = some (.string a0_1) := (blk_cell BK127.out 1).trans rfl; have hcz53_2 : w52.cell? ⟨gb127, 2, none⟩ = some (.bool a0_2) := (blk_cell BK127.out 2).trans rfl; have hcz53_3 : w52.cell? ⟨gb127, 3, none⟩ = some (.string a0_3) := (blk_cell BK127.out 3).trans rfl; have hcz53_4 : w52.cell? ⟨gb127, 4, none⟩ = some (.int .i64 a0_4) := (blk_cell BK127.out 4).trans rfl; have hcz53_5 : w52.cell? ⟨gb127, 5, none⟩ = some (.string a0_5) := (blk_cell BK127.out 5).trans rfl; have hcz53_6 : w52.cell? ⟨gb127, 6, none⟩ = some (.string a0_6) := (blk_cell BK127.out 6).trans rfl; have hfz53_0 := blk_frozen BK127.out 0; have hfz53_1 := blk_frozen BK127.out 1; have hfz53_2 := blk_frozen BK127.out 2; have hfz53_3 := blk_frozen BK127.out 3; have hfz53_4 := blk_frozen BK127.out 4; have hfz53_5 := blk_frozen BK127.out 5; have hfz53_6 := blk_frozen BK127.out 6))
               go_ret
               exact ⟨z41_, z35_⟩
              ·rw [if_neg c50] at H
               exact absurd H (by simp)
            ·rw [if_neg c43] at H
             exact absurd H (by simp)
           ·rw [if_neg c42] at H
            exact absurd H (by simp)
          ·rw [if_neg c40] at H
           have c40b0 : decide (0 < a0_4) = false := decide_eq_false c40; clear c40
           by_cases c54 : a0_4 < 0
           ·rw [if_pos c54] at H
            have c54b0 : decide (a0_4 < 0) = true := decide_eq_true c54; clear c54
            by_cases c55 : x3_33.size + 2 ≤ 9223372036854775807
            ·rw [if_pos c55] at H
             have c55b0 := eq_true c55; have c55b1 : decide (x3_33.size + 2 ≤ 9223372036854775807) = true := decide_eq_true c55
             try have c55b2 : (9223372036854775807 < x3_33.size + 2) = False := eq_false (Nat.not_lt.2 c55)
             by_cases c56 : (x3_33 ++ (⟨#[58, 42]⟩ : ByteArray)).size + a0_5.size ≤ 9223372036854775807
             ·rw [if_pos c56] at H
              have c56b0 := eq_true c56
              try have c56m : ((x3_33.size + 2) + a0_5.size ≤ 9223372036854775807) = True := by first | exact c56b0 | (have h_ := c56; simp only [ByteArray.size_append, Int.natCast_add] at h_; exact eq_true h_)
              have c56b1 : decide ((x3_33 ++ (⟨#[58, 42]⟩ : ByteArray)).size + a0_5.size ≤ 9223372036854775807) = true := decide_eq_true c56
              try have c56b1n : decide ((x3_33.size + 2) + a0_5.size ≤ 9223372036854775807) = true := by first | exact c56b1 | (have h_ := c56b1; simp only [ByteArray.size_append, Int.natCast_add] at h_; exact h_)
              try have c56b2 : (9223372036854775807 < (x3_33 ++ (⟨#[58, 42]⟩ : ByteArray)).size + a0_5.size) = False := eq_false (Nat.not_lt.2 c56)
              try have c56b2n : (9223372036854775807 < (x3_33.size + 2) + a0_5.size) = False := by first | exact c56b2 | (have h_ := c56b2; simp only [ByteArray.size_append, Int.natCast_add] at h_; exact h_)
              obtain rfl := Option.some.inj H
              obtain ⟨hcz57_0, hcz57_1, hcz57_2, hcz57_3, hcz57_4, hcz57_5, hcz57_6⟩ := blkc7_ BK127.out; obtain ⟨hfz57_0, hfz57_1, hfz57_2, hfz57_3, hfz57_4, hfz57_5, hfz57_6⟩ := blkf7_ BK127.out; go_wp2
              go_ret
              exact ⟨z41_, z35_⟩
             ·rw [if_neg c56] at H
              exact absurd H (by simp)
            ·rw [if_neg c55] at H
             exact absurd H (by simp)
           ·rw [if_neg c54] at H
            have c54b0 : decide (a0_4 < 0) = false := decide_eq_false c54; clear c54
            by_cases c58 : x3_33.size + a0_5.size ≤ 9223372036854775807
            ·rw [if_pos c58] at H
             have c58b0 := eq_true c58; have c58b1 : decide (x3_33.size + a0_5.size ≤ 9223372036854775807) = true := decide_eq_true c58
             try have c58b2 : (9223372036854775807 < x3_33.size + a0_5.size) = False := eq_false (Nat.not_lt.2 c58)
             obtain rfl := Option.some.inj H
             obtain ⟨hcz59_0, hcz59_1, hcz59_2, hcz59_3, hcz59_4, hcz59_5, hcz59_6⟩ := blkc7_ BK127.out; obtain ⟨hfz59_0, hfz59_1, hfz59_2, hfz59_3, hfz59_4, hfz59_5, hfz59_6⟩ := blkf7_ BK127.out; go_wp2
             go_ret
             exact ⟨z41_, z35_⟩
            ·rw [if_neg c58] at H
             exact absurd H (by simp)
 ·replace c3 := Bool.eq_false_iff.mpr c3
  subst c3
  have H1 : (some (⟨#[]⟩ : ByteArray)) = some r := by rw [if_neg (show ¬ (false = true) by decide)] at H; exact H
  clear H
  have H := H1
  clear H1
  obtain rfl := Option.some.inj H
  go_enter Tryd.func9, Tryd.ntmps9
  go_wp2_with (first | ((with_reducible refine gate_dst (N := 1) rfl ?_); refine box_event ?hg (N := 1) ?hd (cs := #[.int .i64 a0_0, .string a0_1, .bool a0_2, .string a0_3, .int .i64 a0_4, .string a0_5, .string a0_6]) (t := 23) ?hr ?_; (case hd => rfl); (case hg => rfl); (case hr => first | (go_simp; done) | (go_simp; rfl)); intro gb127 hg w60 hbox hb; have n0_ := Aside0.mk (below_step z40_ hb); have n1_ := Aside0.mk (hbox); have n2_ := Aside0.mk ((by rw [hg]; exact (below_size z40_) : w.heap.size ≤ gb127)); have n3_ := Aside0.mk ((by rw [hg]; exact (below_size z40_) : w.heap.size ≤ gb127)); clear HB; have HB := n0_; have BK127 := n1_; have GW127 := n2_; have GE127 := n3_; clear n0_ n1_ n2_ n3_; clear hb hbox hg; have hcz61_0 : w60.cell? ⟨gb127, 0, none⟩ = some (.int .i64 a0_0) := (blk_cell BK127.out 0).trans rfl; have hcz61_1 : w60.cell? ⟨gb127, 1, none⟩ = some (.string a0_1) := (blk_cell BK127.out 1).trans rfl; have hcz61_2 : w60.cell? ⟨gb127, 2, none⟩ = some (.bool a0_2) := (blk_cell BK127.out 2).trans rfl; have hcz61_3 : w60.cell? ⟨gb127, 3, none⟩ = some (.string a0_3) := (blk_cell BK127.out 3).trans rfl; have hcz61_4 : w60.cell? ⟨gb127, 4, none⟩ = some (.int .i64 a0_4) := (blk_cell BK127.out 4).trans rfl; have hcz61_5 : w60.cell? ⟨gb127, 5, none⟩ = some (.string a0_5) := (blk_cell BK127.out 5).trans rfl; have hcz61_6 : w60.cell? ⟨gb127, 6, none⟩ = some (.string a0_6) := (blk_cell BK127.out 6).trans rfl; have hfz61_0 := blk_frozen BK127.out 0; have hfz61_1 := blk_frozen BK127.out 1; have hfz61_2 := blk_frozen BK127.out 2; have hfz61_3 := blk_frozen BK127.out 3; have hfz61_4 := blk_frozen BK127.out 4; have hfz61_5 := blk_frozen BK127.out 5; have hfz61_6 := blk_frozen BK127.out 6) | ((with_reducible refine gate_callee (f := 7) rfl ?_); refine goesL_ (some 5) rfl rfl Tryd.func7 (by kernel_rfl) rfl #[.agg #[.int .i64 a0_0, .string a0_1, .bool a0_2, .string a0_3, .int .i64 a0_4, .string a0_5, .string a0_6]] rfl z39_ ?_; (with_reducible refine (pursuivantref11_Good.calls k a0_0 a0_1 a0_2 a0_3 a0_4 a0_5 a0_6 false _ ?gw13_ A2.out).mono ?_); (case gw13_ => exact z11_); rintro e w62 ⟨rfl, hb⟩; refine ⟨_, rfl, ?_⟩; have n0_ := Aside0.mk (blk_below (g := gb127) (o := .cells #[.int .i64 a0_0, .string a0_1, .bool a0_2, .string a0_3, .int .i64 a0_4, .string a0_5, .string a0_6] 23 (0, 0)) z56_ hb); have n1_ := Aside0.mk (below_step z35_ hb); clear BK127; clear HB; have BK127 := n0_; have HB := n1_; clear n0_ n1_; (try clear hb); (try clear hb2); (try clear hk); (try clear hi)))
  go_ret
  exact ⟨z41_, z35_⟩

def pursuivantlaw11_SourceTexts.f (k : Nat) (a0_0 : Int) (a0_1 : ByteArray) (a0_2 : Bool) (a0_3 : ByteArray) (a0_4 : Int) (a0_5 a0_6 : ByteArray) : Option (Bool) := (pursuivantlaw11_awake.f k).bind fun t131 => (if t131 = true then ((pursuivantlaw11_cut.f a0_0 a0_1 a0_2 a0_3 a0_4 a0_5 a0_6).bind fun bt132 => ((source_Good.f k bt132.1 bt132.2.1 bt132.2.2.1 bt132.2.2.2.1 bt132.2.2.2.2.1 bt132.2.2.2.2.2.1 bt132.2.2.2.2.2.2).bind fun t139 => ((pursuivantlaw11_cut.f a0_0 a0_1 a0_2 a0_3 a0_4 a0_5 a0_6).bind fun bt140 => ((pursuivantref11_Good.f k bt140.1 bt140.2.1 bt140.2.2.1 bt140.2.2.2.1 bt140.2.2.2.2.1 bt140.2.2.2.2.2.1 bt140.2.2.2.2.2.2).bind fun t147 => (if (t139 == t147) = true then ((pursuivantlaw11_cut.f a0_0 a0_1 a0_2 a0_3 a0_4 a0_5 a0_6).bind fun bt148 => ((source_Text.f k bt148.1 bt148.2.1 bt148.2.2.1 bt148.2.2.2.1 bt148.2.2.2.2.1 bt148.2.2.2.2.2.1 bt148.2.2.2.2.2.2).bind fun t155 => ((pursuivantlaw11_cut.f a0_0 a0_1 a0_2 a0_3 a0_4 a0_5 a0_6).bind fun bt156 => ((pursuivantref11_Text.f k bt156.1 bt156.2.1 bt156.2.2.1 bt156.2.2.2.1 bt156.2.2.2.2.1 bt156.2.2.2.2.2.1 bt156.2.2.2.2.2.2).bind fun t163 => (some (t155.toList == t163.toList)))))) else (some false)))))) else (some false))
def pursuivantlaw11_SourceTexts.T1 : Bool × List (List Nat × List Nat) := (true, [([], []), ([0, 0], [0]), ([1], [1]), ([2, 1, 1], [1, 2]), ([3, 3, 1], [1, 3]), ([1], [1]), ([5, 4, 1], [1, 5]), ([6, 6, 1], [1, 6]), ([4, 7, 1], [1, 4, 7]), ([1, 8], [1, 8]), ([9, 7], [9]), ([10], [10]), ([11, 10, 10], [10, 11]), ([12, 12, 10], [10, 12]), ([10], [10]), ([14, 13, 10], [10, 14]), ([15, 15, 10], [10, 15]), ([13, 16, 10], [10, 13, 16]), ([10, 17], [10, 17]), ([18, 16, 0, 1, 2, 3, 4, 5, 6, 7, 8, 9, 10, 11, 12, 13, 14, 15, 16, 17, 18], [18])])
def pursuivantlaw11_SourceTexts.B1 : List Nat := [0, 1, 3, 7, 15, 3, 63, 127, 255, 511, 1023, 2047, 4095, 8191, 2047, 32767, 65535, 131071, 262143, 524287]
theorem pursuivantlaw11_SourceTexts.tab1 : rtab .any (opsOf Tryd.f3 1) = pursuivantlaw11_SourceTexts.T1 := by kernel_rfl
theorem pursuivantlaw11_SourceTexts.bits1 : waitsOk pursuivantlaw11_SourceTexts.T1.2 pursuivantlaw11_SourceTexts.B1 = true := by kernel_rfl
set_option maxHeartbeats 8000000 in
set_option maxRecDepth 100000 in
theorem pursuivantlaw11_SourceTexts.calls (k : Nat) (a0_0 : Int) (a0_1 : ByteArray) (a0_2 : Bool) (a0_3 : ByteArray) (a0_4 : Int) (a0_5 a0_6 : ByteArray) (r : Bool) (w : World) (hG_ : GW w) (h : pursuivantlaw11_SourceTexts.f k a0_0 a0_1 a0_2 a0_3 a0_4 a0_5 a0_6 = some r) (hr_ : r = true) :
  Calls Tryd.prog 3 #[.agg #[.int .i64 a0_0, .string a0_1, .bool a0_2, .string a0_3, .int .i64 a0_4, .string a0_5, .string a0_6]] w fun e w' => e = .returned (.bool r) ∧ Below w.heap.size w w' := by
 have huX34 := Tryd.underlying34
 have huX31 := Tryd.underlying31
 have hu23 := Tryd.underlying23
 have HB := Aside0.mk (Below.refl w.heap.size w)
 have H : ((pursuivantlaw11_awake.f k).bind fun t131 => (if t131 = true then ((pursuivantlaw11_cut.f a0_0 a0_1 a0_2 a0_3 a0_4 a0_5 a0_6).bind fun bt132 => ((source_Good.f k bt132.1 bt132.2.1 bt132.2.2.1 bt132.2.2.2.1 bt132.2.2.2.2.1 bt132.2.2.2.2.2.1 bt132.2.2.2.2.2.2).bind fun t139 => ((pursuivantlaw11_cut.f a0_0 a0_1 a0_2 a0_3 a0_4 a0_5 a0_6).bind fun bt140 => ((pursuivantref11_Good.f k bt140.1 bt140.2.1 bt140.2.2.1 bt140.2.2.2.1 bt140.2.2.2.2.1 bt140.2.2.2.2.2.1 bt140.2.2.2.2.2.2).bind fun t147 => (if (t139 == t147) = true then ((pursuivantlaw11_cut.f a0_0 a0_1 a0_2 a0_3 a0_4 a0_5 a0_6).bind fun bt148 => ((source_Text.f k bt148.1 bt148.2.1 bt148.2.2.1 bt148.2.2.2.1 bt148.2.2.2.2.1 bt148.2.2.2.2.2.1 bt148.2.2.2.2.2.2).bind fun t155 => ((pursuivantlaw11_cut.f a0_0 a0_1 a0_2 a0_3 a0_4 a0_5 a0_6).bind fun bt156 => ((pursuivantref11_Text.f k bt156.1 bt156.2.1 bt156.2.2.1 bt156.2.2.2.1 bt156.2.2.2.2.1 bt156.2.2.2.2.2.1 bt156.2.2.2.2.2.2).bind fun t163 => (some (t155.toList == t163.toList)))))) else (some false)))))) else (some false))) = some r := h
 clear h
 replace H := Option.bind_eq_some_iff.mp H
 obtain ⟨t131, A20, H⟩ := H
 replace H : (if t131 = true then ((pursuivantlaw11_cut.f a0_0 a0_1 a0_2 a0_3 a0_4 a0_5 a0_6).bind fun bt132 => ((source_Good.f k bt132.1 bt132.2.1 bt132.2.2.1 bt132.2.2.2.1 bt132.2.2.2.2.1 bt132.2.2.2.2.2.1 bt132.2.2.2.2.2.2).bind fun t139 => ((pursuivantlaw11_cut.f a0_0 a0_1 a0_2 a0_3 a0_4 a0_5 a0_6).bind fun bt140 => ((pursuivantref11_Good.f k bt140.1 bt140.2.1 bt140.2.2.1 bt140.2.2.2.1 bt140.2.2.2.2.1 bt140.2.2.2.2.2.1 bt140.2.2.2.2.2.2).bind fun t147 => (if (t139 == t147) = true then ((pursuivantlaw11_cut.f a0_0 a0_1 a0_2 a0_3 a0_4 a0_5 a0_6).bind fun bt148 => ((source_Text.f k bt148.1 bt148.2.1 bt148.2.2.1 bt148.2.2.2.1 bt148.2.2.2.2.1 bt148.2.2.2.2.2.1 bt148.2.2.2.2.2.2).bind fun t155 => ((pursuivantlaw11_cut.f a0_0 a0_1 a0_2 a0_3 a0_4 a0_5 a0_6).bind fun bt156 => ((pursuivantref11_Text.f k bt156.1 bt156.2.1 bt156.2.2.1 bt156.2.2.2.1 bt156.2.2.2.2.1 bt156.2.2.2.2.2.1 bt156.2.2.2.2.2.2).bind fun t163 => (some (t155.toList == t163.toList)))))) else (some false)))))) else (some false)) = some r := H
 have A2 := Aside0.mk A20; clear A20
 by_cases c3 : t131 = true
 ·subst c3
  have H1 : ((pursuivantlaw11_cut.f a0_0 a0_1 a0_2 a0_3 a0_4 a0_5 a0_6).bind fun bt132 => ((source_Good.f k bt132.1 bt132.2.1 bt132.2.2.1 bt132.2.2.2.1 bt132.2.2.2.2.1 bt132.2.2.2.2.2.1 bt132.2.2.2.2.2.2).bind fun t139 => ((pursuivantlaw11_cut.f a0_0 a0_1 a0_2 a0_3 a0_4 a0_5 a0_6).bind fun bt140 => ((pursuivantref11_Good.f k bt140.1 bt140.2.1 bt140.2.2.1 bt140.2.2.2.1 bt140.2.2.2.2.1 bt140.2.2.2.2.2.1 bt140.2.2.2.2.2.2).bind fun t147 => (if (t139 == t147) = true then ((pursuivantlaw11_cut.f a0_0 a0_1 a0_2 a0_3 a0_4 a0_5 a0_6).bind fun bt148 => ((source_Text.f k bt148.1 bt148.2.1 bt148.2.2.1 bt148.2.2.2.1 bt148.2.2.2.2.1 bt148.2.2.2.2.2.1 bt148.2.2.2.2.2.2).bind fun t155 => ((pursuivantlaw11_cut.f a0_0 a0_1 a0_2 a0_3 a0_4 a0_5 a0_6).bind fun bt156 => ((pursuivantref11_Text.f k bt156.1 bt156.2.1 bt156.2.2.1 bt156.2.2.2.1 bt156.2.2.2.2.1 bt156.2.2.2.2.2.1 bt156.2.2.2.2.2.2).bind fun t163 => (some (t155.toList == t163.toList)))))) else (some false)))))) = some r := by rw [if_pos rfl] at H; exact H
  clear H
  have H := H1
  clear H1
  replace H := Option.bind_eq_some_iff.mp H
  obtain ⟨⟨t132, t133, t134, t135, t136, t137, t138⟩, A40, H⟩ := H
  replace H : ((source_Good.f k t132 t133 t134 t135 t136 t137 t138).bind fun t139 => ((pursuivantlaw11_cut.f a0_0 a0_1 a0_2 a0_3 a0_4 a0_5 a0_6).bind fun bt140 => ((pursuivantref11_Good.f k bt140.1 bt140.2.1 bt140.2.2.1 bt140.2.2.2.1 bt140.2.2.2.2.1 bt140.2.2.2.2.2.1 bt140.2.2.2.2.2.2).bind fun t147 => (if (t139 == t147) = true then ((pursuivantlaw11_cut.f a0_0 a0_1 a0_2 a0_3 a0_4 a0_5 a0_6).bind fun bt148 => ((source_Text.f k bt148.1 bt148.2.1 bt148.2.2.1 bt148.2.2.2.1 bt148.2.2.2.2.1 bt148.2.2.2.2.2.1 bt148.2.2.2.2.2.2).bind fun t155 => ((pursuivantlaw11_cut.f a0_0 a0_1 a0_2 a0_3 a0_4 a0_5 a0_6).bind fun bt156 => ((pursuivantref11_Text.f k bt156.1 bt156.2.1 bt156.2.2.1 bt156.2.2.2.1 bt156.2.2.2.2.1 bt156.2.2.2.2.2.1 bt156.2.2.2.2.2.2).bind fun t163 => (some (t155.toList == t163.toList)))))) else (some false))))) = some r := H
  have A4 := Aside0.mk A40; clear A40
  replace H := Option.bind_eq_some_iff.mp H
  obtain ⟨t139, A50, H⟩ := H
  replace H : ((pursuivantlaw11_cut.f a0_0 a0_1 a0_2 a0_3 a0_4 a0_5 a0_6).bind fun bt140 => ((pursuivantref11_Good.f k bt140.1 bt140.2.1 bt140.2.2.1 bt140.2.2.2.1 bt140.2.2.2.2.1 bt140.2.2.2.2.2.1 bt140.2.2.2.2.2.2).bind fun t147 => (if (t139 == t147) = true then ((pursuivantlaw11_cut.f a0_0 a0_1 a0_2 a0_3 a0_4 a0_5 a0_6).bind fun bt148 => ((source_Text.f k bt148.1 bt148.2.1 bt148.2.2.1 bt148.2.2.2.1 bt148.2.2.2.2.1 bt148.2.2.2.2.2.1 bt148.2.2.2.2.2.2).bind fun t155 => ((pursuivantlaw11_cut.f a0_0 a0_1 a0_2 a0_3 a0_4 a0_5 a0_6).bind fun bt156 => ((pursuivantref11_Text.f k bt156.1 bt156.2.1 bt156.2.2.1 bt156.2.2.2.1 bt156.2.2.2.2.1 bt156.2.2.2.2.2.1 bt156.2.2.2.2.2.2).bind fun t163 => (some (t155.toList == t163.toList)))))) else (some false)))) = some r := H
  have A5 := Aside0.mk A50; clear A50
  replace H := Option.bind_eq_some_iff.mp H
  obtain ⟨⟨t140, t141, t142, t143, t144, t145, t146⟩, A60, H⟩ := H
  replace H : ((pursuivantref11_Good.f k t140 t141 t142 t143 t144 t145 t146).bind fun t147 => (if (t139 == t147) = true then ((pursuivantlaw11_cut.f a0_0 a0_1 a0_2 a0_3 a0_4 a0_5 a0_6).bind fun bt148 => ((source_Text.f k bt148.1 bt148.2.1 bt148.2.2.1 bt148.2.2.2.1 bt148.2.2.2.2.1 bt148.2.2.2.2.2.1 bt148.2.2.2.2.2.2).bind fun t155 => ((pursuivantlaw11_cut.f a0_0 a0_1 a0_2 a0_3 a0_4 a0_5 a0_6).bind fun bt156 => ((pursuivantref11_Text.f k bt156.1 bt156.2.1 bt156.2.2.1 bt156.2.2.2.1 bt156.2.2.2.2.1 bt156.2.2.2.2.2.1 bt156.2.2.2.2.2.2).bind fun t163 => (some (t155.toList == t163.toList)))))) else (some false))) = some r := H
  have A6 := Aside0.mk A60; clear A60
  replace H := Option.bind_eq_some_iff.mp H
  obtain ⟨t147, A70, H⟩ := H
  replace H : (if (t139 == t147) = true then ((pursuivantlaw11_cut.f a0_0 a0_1 a0_2 a0_3 a0_4 a0_5 a0_6).bind fun bt148 => ((source_Text.f k bt148.1 bt148.2.1 bt148.2.2.1 bt148.2.2.2.1 bt148.2.2.2.2.1 bt148.2.2.2.2.2.1 bt148.2.2.2.2.2.2).bind fun t155 => ((pursuivantlaw11_cut.f a0_0 a0_1 a0_2 a0_3 a0_4 a0_5 a0_6).bind fun bt156 => ((pursuivantref11_Text.f k bt156.1 bt156.2.1 bt156.2.2.1 bt156.2.2.2.1 bt156.2.2.2.2.1 bt156.2.2.2.2.2.1 bt156.2.2.2.2.2.2).bind fun t163 => (some (t155.toList == t163.toList)))))) else (some false)) = some r := H
  have A7 := Aside0.mk A70; clear A70
  by_cases c8 : (t139 == t147) = true
  ·rw [if_pos c8] at H
   have c8b0 : (t139 == t147) = true := c8
   (try (have c8b1 : decide (t139 = t147) = true := by simpa using c8))
   (try (have c8b2 : (t139 == t147) = true := by simpa using c8))
   clear c8
   replace H := Option.bind_eq_some_iff.mp H
   obtain ⟨⟨t148, t149, t150, t151, t152, t153, t154⟩, A90, H⟩ := H
   replace H : ((source_Text.f k t148 t149 t150 t151 t152 t153 t154).bind fun t155 => ((pursuivantlaw11_cut.f a0_0 a0_1 a0_2 a0_3 a0_4 a0_5 a0_6).bind fun bt156 => ((pursuivantref11_Text.f k bt156.1 bt156.2.1 bt156.2.2.1 bt156.2.2.2.1 bt156.2.2.2.2.1 bt156.2.2.2.2.2.1 bt156.2.2.2.2.2.2).bind fun t163 => (some (t155.toList == t163.toList))))) = some r := H
   have A9 := Aside0.mk A90; clear A90
   replace H := Option.bind_eq_some_iff.mp H
   obtain ⟨t155, A100, H⟩ := H
   replace H : ((pursuivantlaw11_cut.f a0_0 a0_1 a0_2 a0_3 a0_4 a0_5 a0_6).bind fun bt156 => ((pursuivantref11_Text.f k bt156.1 bt156.2.1 bt156.2.2.1 bt156.2.2.2.1 bt156.2.2.2.2.1 bt156.2.2.2.2.2.1 bt156.2.2.2.2.2.2).bind fun t163 => (some (t155.toList == t163.toList)))) = some r := H
   have A10 := Aside0.mk A100; clear A100
   replace H := Option.bind_eq_some_iff.mp H
   obtain ⟨⟨t156, t157, t158, t159, t160, t161, t162⟩, A110, H⟩ := H
   replace H : ((pursuivantref11_Text.f k t156 t157 t158 t159 t160 t161 t162).bind fun t163 => (some (t155.toList == t163.toList))) = some r := H
   have A11 := Aside0.mk A110; clear A110
   replace H := Option.bind_eq_some_iff.mp H
   obtain ⟨t163, A120, H⟩ := H
   replace H : (some (t155.toList == t163.toList)) = some r := H
   have A12 := Aside0.mk A120; clear A120
   obtain rfl := Option.some.inj H
   go_enter Tryd.func3, Tryd.ntmps3
   try go_wp2_with (first | ((with_reducible refine gate_dst (N := 1) rfl ?_); refine box_event ?hg (N := 1) ?hd (cs := #[.int .i64 a0_0, .string a0_1, .bool a0_2, .string a0_3, .int .i64 a0_4, .string a0_5, .string a0_6]) (t := 23) ?hr ?_; (case hd => rfl); (case hg => rfl); (case hr => first | (go_simp; done) | (go_simp; rfl)); intro gb130 hg w13 hbox hb; have n0_ := Aside0.mk (below_step z40_ hb); have n1_ := Aside0.mk (hbox); have n2_ := Aside0.mk ((by rw [hg]; exact (below_size z40_) : w.heap.size ≤ gb130)); have n3_ := Aside0.mk ((by rw [hg]; exact (below_size z40_) : w.heap.size ≤ gb130)); clear HB; have HB := n0_; have BK130 := n1_; have GW130 := n2_; have GE130 := n3_; clear n0_ n1_ n2_ n3_; clear hb hbox hg))
   have n0_ := Aside0.mk (blk_drew BK130.out)
   have n1_ := Aside0.mk (below_drew1 HB.out)
   clear BK130; clear HB
   have BK130 := n0_
   have HB := n1_
   clear n0_ n1_
   refine start_ (n := 20) (S := fun w' => w'.cell? ⟨gb130, 0, none⟩ = some (.int .i64 a0_0) ∧ w'.cell? ⟨gb130, 1, none⟩ = some (.string a0_1) ∧ w'.cell? ⟨gb130, 2, none⟩ = some (.bool a0_2) ∧ w'.cell? ⟨gb130, 3, none⟩ = some (.string a0_3) ∧ w'.cell? ⟨gb130, 4, none⟩ = some (.int .i64 a0_4) ∧ w'.cell? ⟨gb130, 5, none⟩ = some (.string a0_5) ∧ w'.cell? ⟨gb130, 6, none⟩ = some (.string a0_6)) (ds := []) #[false, false, false, false, false, false, false, false, false, false, false, false, false, false, false, false, false, false, false, false] (by kernel_rfl) rfl rfl ⟨(blk_cell BK130.out 0).trans rfl, (blk_cell BK130.out 1).trans rfl, (blk_cell BK130.out 2).trans rfl, (blk_cell BK130.out 3).trans rfl, (blk_cell BK130.out 4).trans rfl, (blk_cell BK130.out 5).trans rfl, (blk_cell BK130.out 6).trans rfl⟩ (fun hHeld => ?_); refine with_tabW pursuivantlaw11_SourceTexts.tab1 pursuivantlaw11_SourceTexts.bits1 (fun HT_ HW_ => ?_)
   generalize w13.drew = w14 at BK130 HB hHeld ⊢
   refine one_ (i := 0) (N := some 3) #[true, false, false, false, false, false, false, false, false, false, false, false, false, false, false, false, false, false, false, false] rfl rfl (one_of HT_.out (by kernel_rfl)) (by decide) (fun K hK => ?_)
   refine goes_ Tryd.func4 (by kernel_rfl) rfl #[] (by rfl) rfl rfl z39_ ?_
   with_reducible refine (pursuivantlaw11_awake.calls k  true _ ?gw16_ A2.out (by first | rfl | assumption)).mono ?_
   case gw16_ => exact z12_
   rintro e w15 ⟨rfl, hb⟩
   refine ⟨_, rfl, ?_⟩
   have n0_ := Aside0.mk (blk_below (g := gb130) (o := .cells #[.int .i64 a0_0, .string a0_1, .bool a0_2, .string a0_3, .int .i64 a0_4, .string a0_5, .string a0_6] 23 (0, 0)) z53_ hb)
   have n1_ := Aside0.mk (below_step z36_ hb)
   clear BK130; clear HB
   have BK130 := n0_
   have HB := n1_
   clear n0_ n1_
   (try clear hb)
   (try clear hb2)
   (try clear hk)
   (try clear hi)
   refine hK.out _ _ ⟨(blk_cell BK130.out 0).trans rfl, (blk_cell BK130.out 1).trans rfl, (blk_cell BK130.out 2).trans rfl, (blk_cell BK130.out 3).trans rfl, (blk_cell BK130.out 4).trans rfl, (blk_cell BK130.out 5).trans rfl, (blk_cell BK130.out 6).trans rfl⟩ (fun hHeld => ?_)
   clear hK K
   refine norm_ (a' := ?_) ?_ ?_
   rotate_left
   ·show Act.put _ (some 3) _ = _
    simp only [Act.put, List.setIfInBounds_toArray, List.set_cons_zero, List.set_cons_succ, i64_w, i32_w]
    rfl
   refine pure_ (i := 1) (N := some 4) (v := ?_) (a' := ?_) #[true, true, false, false, false, false, false, false, false, false, false, false, false, false, false, false, false, false, false, false] rfl rfl (any_of HT_.out (by kernel_rfl)) (fun _ _ _ h => h) (Or.inl ⟨by rfl, ?_⟩) ?_ ?_
   rotate_left
   ·intro w'
    go_simp
    with_reducible rfl
   rotate_left
   ·simp only [Act.put, List.setIfInBounds_toArray, List.set_cons_zero, List.set_cons_succ, i64_w, i32_w]
    rfl
   refine take_ (i := 2) (N := some 5) (v := ?_) (a' := ?_) #[true, true, true, false, false, false, false, false, false, false, false, false, false, false, false, false, false, false, false, false] rfl rfl (take_ofW HT_.out HW_.out (by kernel_rfl)) (fun _ _ _ h => h) (Or.inl ⟨by rfl, ?_⟩) hHeld ?_ ?_
   rotate_left
   ·rintro w' ⟨s0, s1, s2, s3, s4, s5, s6⟩
    go_simp
    with_reducible rfl
   rotate_left
   ·simp only [Act.put, List.setIfInBounds_toArray, List.set_cons_zero, List.set_cons_succ, i64_w, i32_w]
    rfl
   refine take_ (i := 5) (N := some 8) (v := ?_) (a' := ?_) #[true, true, true, false, false, true, false, false, false, false, false, false, false, false, false, false, false, false, false, false] rfl rfl (take_ofW HT_.out HW_.out (by kernel_rfl)) (fun _ _ _ h => h) (Or.inl ⟨by rfl, ?_⟩) hHeld ?_ ?_
   rotate_left
   ·rintro w' ⟨s0, s1, s2, s3, s4, s5, s6⟩
    go_simp
    with_reducible rfl
   rotate_left
   ·simp only [Act.put, List.setIfInBounds_toArray, List.set_cons_zero, List.set_cons_succ, i64_w, i32_w]
    rfl
   refine one_ (i := 3) (N := some 6) #[true, true, true, true, false, true, false, false, false, false, false, false, false, false, false, false, false, false, false, false] rfl rfl (one_of HT_.out (by kernel_rfl)) (by decide) (fun K hK => ?_)
   refine goes_ Tryd.func6 (by kernel_rfl) rfl #[.agg #[.int .i64 a0_0, .string a0_1, .bool a0_2, .string a0_3, .int .i64 a0_4, .string a0_5, .string a0_6]] (by rfl) rfl rfl z39_ ?_
   with_reducible refine (pursuivantlaw11_cut.calls a0_0 a0_1 a0_2 a0_3 a0_4 a0_5 a0_6 t132 t133 t134 t135 t136 t137 t138 _ ?gw17_ A4.out).mono ?_
   case gw17_ => exact z12_
   rintro e w16 ⟨rfl, hb⟩
   refine ⟨_, rfl, ?_⟩
   have n0_ := Aside0.mk (blk_below (g := gb130) (o := .cells #[.int .i64 a0_0, .string a0_1, .bool a0_2, .string a0_3, .int .i64 a0_4, .string a0_5, .string a0_6] 23 (0, 0)) z53_ hb)
   have n1_ := Aside0.mk (below_step z36_ hb)
   clear BK130; clear HB
   have BK130 := n0_
   have HB := n1_
   clear n0_ n1_
   (try clear hb)
   (try clear hb2)
   (try clear hk)
   (try clear hi)
   refine hK.out _ _ ⟨(blk_cell BK130.out 0).trans rfl, (blk_cell BK130.out 1).trans rfl, (blk_cell BK130.out 2).trans rfl, (blk_cell BK130.out 3).trans rfl, (blk_cell BK130.out 4).trans rfl, (blk_cell BK130.out 5).trans rfl, (blk_cell BK130.out 6).trans rfl⟩ (fun hHeld => ?_)
   clear hK K
   refine norm_ (a' := ?_) ?_ ?_
   rotate_left
   ·show Act.put _ (some 6) _ = _
    simp only [Act.put, List.setIfInBounds_toArray, List.set_cons_zero, List.set_cons_succ, i64_w, i32_w]
    rfl
   refine one_ (i := 4) (N := some 7) #[true, true, true, true, true, true, false, false, false, false, false, false, false, false, false, false, false, false, false, false] rfl rfl (one_of HT_.out (by kernel_rfl)) (by decide) (fun K hK => ?_)
   refine goes_ Tryd.func5 (by kernel_rfl) rfl #[.agg #[.int .i64 t132, .string t133, .bool t134, .string t135, .int .i64 t136, .string t137, .string t138]] (by rfl) rfl rfl z39_ ?_
   with_reducible refine (source_Good.calls k t132 t133 t134 t135 t136 t137 t138 t139 _ ?gw18_ A5.out).mono ?_
   case gw18_ => exact z12_
   rintro e w17 ⟨rfl, hb⟩
   refine ⟨_, rfl, ?_⟩
   have n0_ := Aside0.mk (blk_below (g := gb130) (o := .cells #[.int .i64 a0_0, .string a0_1, .bool a0_2, .string a0_3, .int .i64 a0_4, .string a0_5, .string a0_6] 23 (0, 0)) z53_ hb)
   have n1_ := Aside0.mk (below_step z36_ hb)
   clear BK130; clear HB
   have BK130 := n0_
   have HB := n1_
   clear n0_ n1_
   (try clear hb)
   (try clear hb2)
   (try clear hk)
   (try clear hi)
   refine hK.out _ _ ⟨(blk_cell BK130.out 0).trans rfl, (blk_cell BK130.out 1).trans rfl, (blk_cell BK130.out 2).trans rfl, (blk_cell BK130.out 3).trans rfl, (blk_cell BK130.out 4).trans rfl, (blk_cell BK130.out 5).trans rfl, (blk_cell BK130.out 6).trans rfl⟩ (fun hHeld => ?_)
   clear hK K
   refine norm_ (a' := ?_) ?_ ?_
   rotate_left
   ·show Act.put _ (some 7) _ = _
    simp only [Act.put, List.setIfInBounds_toArray, List.set_cons_zero, List.set_cons_succ, i64_w, i32_w]
    rfl
   refine one_ (i := 6) (N := some 9) #[true, true, true, true, true, true, true, false, false, false, false, false, false, false, false, false, false, false, false, false] rfl rfl (one_of HT_.out (by kernel_rfl)) (by decide) (fun K hK => ?_)
   refine goes_ Tryd.func6 (by kernel_rfl) rfl #[.agg #[.int .i64 a0_0, .string a0_1, .bool a0_2, .string a0_3, .int .i64 a0_4, .string a0_5, .string a0_6]] (by rfl) rfl rfl z39_ ?_
   with_reducible refine (pursuivantlaw11_cut.calls a0_0 a0_1 a0_2 a0_3 a0_4 a0_5 a0_6 t140 t141 t142 t143 t144 t145 t146 _ ?gw19_ A6.out).mono ?_
   case gw19_ => exact z12_
   rintro e w18 ⟨rfl, hb⟩
   refine ⟨_, rfl, ?_⟩
   have n0_ := Aside0.mk (blk_below (g := gb130) (o := .cells #[.int .i64 a0_0, .string a0_1, .bool a0_2, .string a0_3, .int .i64 a0_4, .string a0_5, .string a0_6] 23 (0, 0)) z53_ hb)
   have n1_ := Aside0.mk (below_step z36_ hb)
   clear BK130; clear HB
   have BK130 := n0_
   have HB := n1_
   clear n0_ n1_
   (try clear hb)
   (try clear hb2)
   (try clear hk)
   (try clear hi)
   refine hK.out _ _ ⟨(blk_cell BK130.out 0).trans rfl, (blk_cell BK130.out 1).trans rfl, (blk_cell BK130.out 2).trans rfl, (blk_cell BK130.out 3).trans rfl, (blk_cell BK130.out 4).trans rfl, (blk_cell BK130.out 5).trans rfl, (blk_cell BK130.out 6).trans rfl⟩ (fun hHeld => ?_)
   clear hK K
   refine norm_ (a' := ?_) ?_ ?_
   rotate_left
   ·show Act.put _ (some 9) _ = _
    simp only [Act.put, List.setIfInBounds_toArray, List.set_cons_zero, List.set_cons_succ, i64_w, i32_w]
    rfl
   refine one_ (i := 7) (N := some 10) #[true, true, true, true, true, true, true, true, false, false, false, false, false, false, false, false, false, false, false, false] rfl rfl (one_of HT_.out (by kernel_rfl)) (by decide) (fun K hK => ?_)
   refine goes_ Tryd.func7 (by kernel_rfl) rfl #[.agg #[.int .i64 t140, .string t141, .bool t142, .string t143, .int .i64 t144, .string t145, .string t146]] (by rfl) rfl rfl z39_ ?_
   with_reducible refine (pursuivantref11_Good.calls k t140 t141 t142 t143 t144 t145 t146 t147 _ ?gw20_ A7.out).mono ?_
   case gw20_ => exact z12_
   rintro e w19 ⟨rfl, hb⟩
   refine ⟨_, rfl, ?_⟩
   have n0_ := Aside0.mk (blk_below (g := gb130) (o := .cells #[.int .i64 a0_0, .string a0_1, .bool a0_2, .string a0_3, .int .i64 a0_4, .string a0_5, .string a0_6] 23 (0, 0)) z53_ hb)
   have n1_ := Aside0.mk (below_step z36_ hb)
   clear BK130; clear HB
   have BK130 := n0_
   have HB := n1_
   clear n0_ n1_
   (try clear hb)
   (try clear hb2)
   (try clear hk)
   (try clear hi)
   refine hK.out _ _ ⟨(blk_cell BK130.out 0).trans rfl, (blk_cell BK130.out 1).trans rfl, (blk_cell BK130.out 2).trans rfl, (blk_cell BK130.out 3).trans rfl, (blk_cell BK130.out 4).trans rfl, (blk_cell BK130.out 5).trans rfl, (blk_cell BK130.out 6).trans rfl⟩ (fun hHeld => ?_)
   clear hK K
   refine norm_ (a' := ?_) ?_ ?_
   rotate_left
   ·show Act.put _ (some 10) _ = _
    simp only [Act.put, List.setIfInBounds_toArray, List.set_cons_zero, List.set_cons_succ, i64_w, i32_w]
    rfl
   refine pure_ (i := 8) (N := some 11) (v := ?_) (a' := ?_) #[true, true, true, true, true, true, true, true, true, false, false, false, false, false, false, false, false, false, false, false] rfl rfl (any_of HT_.out (by kernel_rfl)) (fun _ _ _ h => h) (Or.inl ⟨by rfl, ?_⟩) ?_ ?_
   rotate_left
   ·intro w'
    go_simp
    with_reducible rfl
   rotate_left
   ·simp only [Act.put, List.setIfInBounds_toArray, List.set_cons_zero, List.set_cons_succ, i64_w, i32_w]
    rfl
   refine pure_ (i := 9) (N := some 12) (v := ?_) (a' := ?_) #[true, true, true, true, true, true, true, true, true, true, false, false, false, false, false, false, false, false, false, false] rfl rfl (any_of HT_.out (by kernel_rfl)) (fun _ _ _ h => h) (Or.inl ⟨by rfl, ?_⟩) ?_ ?_
   rotate_left
   ·intro w'
    go_simp
    with_reducible rfl
   rotate_left
   ·simp only [Act.put, List.setIfInBounds_toArray, List.set_cons_zero, List.set_cons_succ, i64_w, i32_w]
    rfl
   refine pure_ (i := 10) (N := some 13) (v := ?_) (a' := ?_) #[true, true, true, true, true, true, true, true, true, true, true, false, false, false, false, false, false, false, false, false] rfl rfl (any_of HT_.out (by kernel_rfl)) (fun _ _ _ h => h) (Or.inl ⟨by rfl, ?_⟩) ?_ ?_
   rotate_left
   ·intro w'
    go_simp
    with_reducible rfl
   rotate_left
   ·simp only [Act.put, List.setIfInBounds_toArray, List.set_cons_zero, List.set_cons_succ, i64_w, i32_w]
    rfl
   refine take_ (i := 11) (N := some 14) (v := ?_) (a' := ?_) #[true, true, true, true, true, true, true, true, true, true, true, true, false, false, false, false, false, false, false, false] rfl rfl (take_ofW HT_.out HW_.out (by kernel_rfl)) (fun _ _ _ h => h) (Or.inl ⟨by rfl, ?_⟩) hHeld ?_ ?_
   rotate_left
   ·rintro w' ⟨s0, s1, s2, s3, s4, s5, s6⟩
    go_simp
    with_reducible rfl
   rotate_left
   ·simp only [Act.put, List.setIfInBounds_toArray, List.set_cons_zero, List.set_cons_succ, i64_w, i32_w]
    rfl
   refine take_ (i := 14) (N := some 17) (v := ?_) (a' := ?_) #[true, true, true, true, true, true, true, true, true, true, true, true, false, false, true, false, false, false, false, false] rfl rfl (take_ofW HT_.out HW_.out (by kernel_rfl)) (fun _ _ _ h => h) (Or.inl ⟨by rfl, ?_⟩) hHeld ?_ ?_
   rotate_left
   ·rintro w' ⟨s0, s1, s2, s3, s4, s5, s6⟩
    go_simp
    with_reducible rfl
   rotate_left
   ·simp only [Act.put, List.setIfInBounds_toArray, List.set_cons_zero, List.set_cons_succ, i64_w, i32_w]
    rfl
   refine one_ (i := 12) (N := some 15) #[true, true, true, true, true, true, true, true, true, true, true, true, true, false, true, false, false, false, false, false] rfl rfl (one_of HT_.out (by kernel_rfl)) (by decide) (fun K hK => ?_)
   refine goes_ Tryd.func6 (by kernel_rfl) rfl #[.agg #[.int .i64 a0_0, .string a0_1, .bool a0_2, .string a0_3, .int .i64 a0_4, .string a0_5, .string a0_6]] (by rfl) rfl rfl z39_ ?_
   with_reducible refine (pursuivantlaw11_cut.calls a0_0 a0_1 a0_2 a0_3 a0_4 a0_5 a0_6 t148 t149 t150 t151 t152 t153 t154 _ ?gw21_ A9.out).mono ?_
   case gw21_ => exact z12_
   rintro e w20 ⟨rfl, hb⟩
   refine ⟨_, rfl, ?_⟩
   have n0_ := Aside0.mk (blk_below (g := gb130) (o := .cells #[.int .i64 a0_0, .string a0_1, .bool a0_2, .string a0_3, .int .i64 a0_4, .string a0_5, .string a0_6] 23 (0, 0)) z53_ hb)
   have n1_ := Aside0.mk (below_step z36_ hb)
   clear BK130; clear HB
   have BK130 := n0_
   have HB := n1_
   clear n0_ n1_
   (try clear hb)
   (try clear hb2)
   (try clear hk)
   (try clear hi)
   refine hK.out _ _ ⟨(blk_cell BK130.out 0).trans rfl, (blk_cell BK130.out 1).trans rfl, (blk_cell BK130.out 2).trans rfl, (blk_cell BK130.out 3).trans rfl, (blk_cell BK130.out 4).trans rfl, (blk_cell BK130.out 5).trans rfl, (blk_cell BK130.out 6).trans rfl⟩ (fun hHeld => ?_)
   clear hK K
   refine norm_ (a' := ?_) ?_ ?_
   rotate_left
   ·show Act.put _ (some 15) _ = _
    simp only [Act.put, List.setIfInBounds_toArray, List.set_cons_zero, List.set_cons_succ, i64_w, i32_w]
    rfl
   refine one_ (i := 13) (N := some 16) #[true, true, true, true, true, true, true, true, true, true, true, true, true, true, true, false, false, false, false, false] rfl rfl (one_of HT_.out (by kernel_rfl)) (by decide) (fun K hK => ?_)
   refine goes_ Tryd.func8 (by kernel_rfl) rfl #[.agg #[.int .i64 t148, .string t149, .bool t150, .string t151, .int .i64 t152, .string t153, .string t154]] (by rfl) rfl rfl z39_ ?_
   with_reducible refine (source_Text.calls k t148 t149 t150 t151 t152 t153 t154 t155 _ ?gw22_ A10.out).mono ?_
   case gw22_ => exact z12_
   rintro e w21 ⟨rfl, hb⟩
   refine ⟨_, rfl, ?_⟩
   have n0_ := Aside0.mk (blk_below (g := gb130) (o := .cells #[.int .i64 a0_0, .string a0_1, .bool a0_2, .string a0_3, .int .i64 a0_4, .string a0_5, .string a0_6] 23 (0, 0)) z53_ hb)
   have n1_ := Aside0.mk (below_step z36_ hb)
   clear BK130; clear HB
   have BK130 := n0_
   have HB := n1_
   clear n0_ n1_
   (try clear hb)
   (try clear hb2)
   (try clear hk)
   (try clear hi)
   refine hK.out _ _ ⟨(blk_cell BK130.out 0).trans rfl, (blk_cell BK130.out 1).trans rfl, (blk_cell BK130.out 2).trans rfl, (blk_cell BK130.out 3).trans rfl, (blk_cell BK130.out 4).trans rfl, (blk_cell BK130.out 5).trans rfl, (blk_cell BK130.out 6).trans rfl⟩ (fun hHeld => ?_)
   clear hK K
   refine norm_ (a' := ?_) ?_ ?_
   rotate_left
   ·show Act.put _ (some 16) _ = _
    simp only [Act.put, List.setIfInBounds_toArray, List.set_cons_zero, List.set_cons_succ, i64_w, i32_w]
    rfl
   refine one_ (i := 15) (N := some 18) #[true, true, true, true, true, true, true, true, true, true, true, true, true, true, true, true, false, false, false, false] rfl rfl (one_of HT_.out (by kernel_rfl)) (by decide) (fun K hK => ?_)
   refine goes_ Tryd.func6 (by kernel_rfl) rfl #[.agg #[.int .i64 a0_0, .string a0_1, .bool a0_2, .string a0_3, .int .i64 a0_4, .string a0_5, .string a0_6]] (by rfl) rfl rfl z39_ ?_
   with_reducible refine (pursuivantlaw11_cut.calls a0_0 a0_1 a0_2 a0_3 a0_4 a0_5 a0_6 t156 t157 t158 t159 t160 t161 t162 _ ?gw23_ A11.out).mono ?_
   case gw23_ => exact z12_
   rintro e w22 ⟨rfl, hb⟩
   refine ⟨_, rfl, ?_⟩
   have n0_ := Aside0.mk (blk_below (g := gb130) (o := .cells #[.int .i64 a0_0, .string a0_1, .bool a0_2, .string a0_3, .int .i64 a0_4, .string a0_5, .string a0_6] 23 (0, 0)) z53_ hb)
   have n1_ := Aside0.mk (below_step z36_ hb)
   clear BK130; clear HB
   have BK130 := n0_
   have HB := n1_
   clear n0_ n1_
   (try clear hb)
   (try clear hb2)
   (try clear hk)
   (try clear hi)
   refine hK.out _ _ ⟨(blk_cell BK130.out 0).trans rfl, (blk_cell BK130.out 1).trans rfl, (blk_cell BK130.out 2).trans rfl, (blk_cell BK130.out 3).trans rfl, (blk_cell BK130.out 4).trans rfl, (blk_cell BK130.out 5).trans rfl, (blk_cell BK130.out 6).trans rfl⟩ (fun hHeld => ?_)
   clear hK K
   refine norm_ (a' := ?_) ?_ ?_
   rotate_left
   ·show Act.put _ (some 18) _ = _
    simp only [Act.put, List.setIfInBounds_toArray, List.set_cons_zero, List.set_cons_succ, i64_w, i32_w]
    rfl
   refine one_ (i := 16) (N := some 19) #[true, true, true, true, true, true, true, true, true, true, true, true, true, true, true, true, true, false, false, false] rfl rfl (one_of HT_.out (by kernel_rfl)) (by decide) (fun K hK => ?_)
   refine goes_ Tryd.func9 (by kernel_rfl) rfl #[.agg #[.int .i64 t156, .string t157, .bool t158, .string t159, .int .i64 t160, .string t161, .string t162]] (by rfl) rfl rfl z39_ ?_
   with_reducible refine (pursuivantref11_Text.calls k t156 t157 t158 t159 t160 t161 t162 t163 _ ?gw24_ A12.out).mono ?_
   case gw24_ => exact z12_
   rintro e w23 ⟨rfl, hb⟩
   refine ⟨_, rfl, ?_⟩
   have n0_ := Aside0.mk (blk_below (g := gb130) (o := .cells #[.int .i64 a0_0, .string a0_1, .bool a0_2, .string a0_3, .int .i64 a0_4, .string a0_5, .string a0_6] 23 (0, 0)) z53_ hb)
   have n1_ := Aside0.mk (below_step z36_ hb)
   clear BK130; clear HB
   have BK130 := n0_
   have HB := n1_
   clear n0_ n1_
   (try clear hb)
   (try clear hb2)
   (try clear hk)
   (try clear hi)
   refine hK.out _ _ ⟨(blk_cell BK130.out 0).trans rfl, (blk_cell BK130.out 1).trans rfl, (blk_cell BK130.out 2).trans rfl, (blk_cell BK130.out 3).trans rfl, (blk_cell BK130.out 4).trans rfl, (blk_cell BK130.out 5).trans rfl, (blk_cell BK130.out 6).trans rfl⟩ (fun hHeld => ?_)
   clear hK K
   refine norm_ (a' := ?_) ?_ ?_
   rotate_left
   ·show Act.put _ (some 19) _ = _
    simp only [Act.put, List.setIfInBounds_toArray, List.set_cons_zero, List.set_cons_succ, i64_w, i32_w]
    rfl
   refine pure_ (i := 17) (N := some 20) (v := ?_) (a' := ?_) #[true, true, true, true, true, true, true, true, true, true, true, true, true, true, true, true, true, true, false, false] rfl rfl (any_of HT_.out (by kernel_rfl)) (fun _ _ _ h => h) (Or.inl ⟨by rfl, ?_⟩) ?_ ?_
   rotate_left
   ·intro w'
    go_simp
    with_reducible rfl
   rotate_left
   ·simp only [Act.put, List.setIfInBounds_toArray, List.set_cons_zero, List.set_cons_succ, i64_w, i32_w]
    rfl
   refine pure_ (i := 18) (N := some 21) (v := ?_) (a' := ?_) #[true, true, true, true, true, true, true, true, true, true, true, true, true, true, true, true, true, true, true, false] rfl rfl (any_of HT_.out (by kernel_rfl)) (fun _ _ _ h => h) (Or.inl ⟨by rfl, ?_⟩) ?_ ?_
   rotate_left
   ·intro w'
    go_simp
    with_reducible rfl
   rotate_left
   ·simp only [Act.put, List.setIfInBounds_toArray, List.set_cons_zero, List.set_cons_succ, i64_w, i32_w]
    rfl
   refine pure_ (i := 19) (N := some 2) (v := ?_) (a' := ?_) #[true, true, true, true, true, true, true, true, true, true, true, true, true, true, true, true, true, true, true, true] rfl rfl (any_of HT_.out (by kernel_rfl)) (fun _ _ _ h => h) (Or.inl ⟨by rfl, ?_⟩) ?_ ?_
   rotate_left
   ·intro w'
    go_simp
    with_reducible rfl
   rotate_left
   ·simp only [Act.put, List.setIfInBounds_toArray, List.set_cons_zero, List.set_cons_succ, i64_w, i32_w]
    rfl
   refine done_ (done_of HT_.out (by kernel_rfl)) ?_
   try go_wp2
   go_ret
   exact ⟨z41_, z36_⟩
  ·rw [if_neg c8] at H
   have c8b0 : (t139 == t147) = false := by simpa using c8
   (try (have c8b1 : decide (t139 = t147) = false := by simpa using c8))
   (try (have c8b2 : (t139 == t147) = false := by simpa using c8))
   (try (have c8b3 : ¬ (t139 = t147) := by simpa using c8))
   clear c8
   exact absurd ((Option.some.inj H).trans hr_) Bool.false_ne_true
 ·replace c3 := Bool.eq_false_iff.mpr c3
  subst c3
  have H1 : (some false) = some r := by rw [if_neg (show ¬ (false = true) by decide)] at H; exact H
  clear H
  have H := H1
  clear H1
  exact absurd ((Option.some.inj H).trans hr_) Bool.false_ne_true

end Go.Proofs.YtfibkgmbgdaeoaaDoor.Hand
