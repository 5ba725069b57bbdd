/- What each Go function here computes, and that its call computes it, over contracts proved by hand (written by this project's xprint.py, which drives the kit's print). -/
import Derived.Test.YtoaleclnilbjcaaGreatDoorZ
import Derived.Test.YtoaleclnilbjcaaGreatDoorK
import Derived.Test.YtoaleclnilbjcaaGreatDoorPz
import Derived.Test.YtoaleclnilbjcaaGreatDoorRdN
import Derived.Test.YtoaleclnilbjcaaGreatDoorFA1
import Derived.Test.YtoaleclnilbjcaaGreatDoorFU1
import Derived.Test.YtoaleclnilbjcaaGreatDoorFP2
import Derived.Test.YtoaleclnilbjcaaGreatDoorFQ1
import Derived.Test.YtoaleclnilbjcaaGreatDoorFZ1
namespace Go.Proofs.YtoaleclnilbjcaaGreatDoor.Hand
open Go.RowKit Go.Proofs.YtoaleclnilbjcaaGreatDoorW.PrintWords Go.Proofs.YtoaleclnilbjcaaGreatDoorW.PrintLast Go.Proofs.YtoaleclnilbjcaaGreatDoorW.PrintMore
attribute [local go_sem] Instr.field asAgg max2_int min2_int max_two min_two max_three min_three max_four min_four   -- for this text's walks alone
set_option linter.unusedVariables false
set_option linter.unusedSimpArgs false

def pursuivantlaw27_awake.f (k : Nat)  : Option (Bool) := (redact_Headers.f k (([(⟨(⟨#[67, 111, 111, 107, 105, 101]⟩ : ByteArray), (⟨#[120]⟩ : ByteArray)⟩ : S58), (⟨(⟨#[76, 111, 99, 97, 116, 105, 111, 110]⟩ : ByteArray), (⟨#[47, 47, 109, 101, 64, 97, 47]⟩ : ByteArray)⟩ : S58), (⟨(⟨#[97]⟩ : ByteArray), (⟨#[109, 101, 64]⟩ : ByteArray)⟩ : S58)] : List (S58)))).bind fun t104 => (if (t104.length : Int) = 3 then ((redact_Redact.f ([] : List Int)).bind fun bt107 => ((redact_URL.f k (⟨#[72, 84, 84, 80, 58, 47, 47, 109, 101, 58, 120, 64, 97, 47, 64]⟩ : ByteArray)).bind fun t111 => (if t111.toList = ([72, 84, 84, 80, 58, 47, 47, 42, 64, 97, 47, 64] : List UInt8) then ((redact_URL.f k (⟨#[104, 116, 116, 112, 58, 47, 47, 97, 47, 109, 101, 64, 98]⟩ : ByteArray)).bind fun t112 => (if t112.toList = ([104, 116, 116, 112, 58, 47, 47, 97, 47, 109, 101, 64, 98] : List UInt8) then (if 0 < (t104.length : Int) then (if ((rd_T58 t104 0).f1).toList = ([42] : List UInt8) then (if 1 < (t104.length : Int) then (if ((rd_T58 t104 1).f1).toList = ([47, 47, 42, 64, 97, 47] : List UInt8) then (if 2 < (t104.length : Int) then (if ((rd_T58 t104 2).f1).toList = ([109, 101, 64] : List UInt8) then (some (bt107.2 == 7)) else (some false)) else (none)) else (some false)) else (none)) else (some false)) else (none)) else (some false))) else (some false)))) else (some false))
set_option maxHeartbeats 8000000 in
set_option maxRecDepth 100000 in
theorem pursuivantlaw27_awake.calls (k : Nat)  (r : Bool) (w : World) (hG_ : GW w) (h : pursuivantlaw27_awake.f k  = some r) (hr_ : r = true) :
  Calls Tryz.prog 9 #[] w fun e w' => e = .returned (.bool r) ∧ Below w.heap.size w w' := by
 have hu58 := Tryz.underlying58
 have HB := Aside0.mk (Below.refl w.heap.size w)
 have H : ((redact_Headers.f k (([(⟨(⟨#[67, 111, 111, 107, 105, 101]⟩ : ByteArray), (⟨#[120]⟩ : ByteArray)⟩ : S58), (⟨(⟨#[76, 111, 99, 97, 116, 105, 111, 110]⟩ : ByteArray), (⟨#[47, 47, 109, 101, 64, 97, 47]⟩ : ByteArray)⟩ : S58), (⟨(⟨#[97]⟩ : ByteArray), (⟨#[109, 101, 64]⟩ : ByteArray)⟩ : S58)] : List (S58)))).bind fun t104 => (if (t104.length : Int) = 3 then ((redact_Redact.f ([] : List Int)).bind fun bt107 => ((redact_URL.f k (⟨#[72, 84, 84, 80, 58, 47, 47, 109, 101, 58, 120, 64, 97, 47, 64]⟩ : ByteArray)).bind fun t111 => (if t111.toList = ([72, 84, 84, 80, 58, 47, 47, 42, 64, 97, 47, 64] : List UInt8) then ((redact_URL.f k (⟨#[104, 116, 116, 112, 58, 47, 47, 97, 47, 109, 101, 64, 98]⟩ : ByteArray)).bind fun t112 => (if t112.toList = ([104, 116, 116, 112, 58, 47, 47, 97, 47, 109, 101, 64, 98] : List UInt8) then (if 0 < (t104.length : Int) then (if ((rd_T58 t104 0).f1).toList = ([42] : List UInt8) then (if 1 < (t104.length : Int) then (if ((rd_T58 t104 1).f1).toList = ([47, 47, 42, 64, 97, 47] : List UInt8) then (if 2 < (t104.length : Int) then (if ((rd_T58 t104 2).f1).toList = ([109, 101, 64] : List UInt8) then (some (bt107.2 == 7)) else (some false)) else (none)) else (some false)) else (none)) else (some false)) else (none)) else (some false))) else (some false)))) else (some false))) = some r := h
 clear h
 obtain ⟨y101, hy101⟩ : ∃ y_ : List (S58), y_ = (([(⟨(⟨#[67, 111, 111, 107, 105, 101]⟩ : ByteArray), (⟨#[120]⟩ : ByteArray)⟩ : S58), (⟨(⟨#[76, 111, 99, 97, 116, 105, 111, 110]⟩ : ByteArray), (⟨#[47, 47, 109, 101, 64, 97, 47]⟩ : ByteArray)⟩ : S58), (⟨(⟨#[97]⟩ : ByteArray), (⟨#[109, 101, 64]⟩ : ByteArray)⟩ : S58)] : List (S58))) := ⟨_, rfl⟩
 replace H : ((redact_Headers.f k y101).bind fun t104 => (if (t104.length : Int) = 3 then ((redact_Redact.f ([] : List Int)).bind fun bt107 => ((redact_URL.f k (⟨#[72, 84, 84, 80, 58, 47, 47, 109, 101, 58, 120, 64, 97, 47, 64]⟩ : ByteArray)).bind fun t111 => (if t111.toList = ([72, 84, 84, 80, 58, 47, 47, 42, 64, 97, 47, 64] : List UInt8) then ((redact_URL.f k (⟨#[104, 116, 116, 112, 58, 47, 47, 97, 47, 109, 101, 64, 98]⟩ : ByteArray)).bind fun t112 => (if t112.toList = ([104, 116, 116, 112, 58, 47, 47, 97, 47, 109, 101, 64, 98] : List UInt8) then (if 0 < (t104.length : Int) then (if ((rd_T58 t104 0).f1).toList = ([42] : List UInt8) then (if 1 < (t104.length : Int) then (if ((rd_T58 t104 1).f1).toList = ([47, 47, 42, 64, 97, 47] : List UInt8) then (if 2 < (t104.length : Int) then (if ((rd_T58 t104 2).f1).toList = ([109, 101, 64] : List UInt8) then (some (bt107.2 == 7)) else (some false)) else (none)) else (some false)) else (none)) else (some false)) else (none)) else (some false))) else (some false)))) else (some false))) = some r := by first | (rw [hy101]; with_reducible exact H) | (have H2_ := (Option.bind_some _ _).symm.trans H; rw [hy101]; with_reducible exact H2_) | (have H2_ := (Option.bind_some _ _).symm.trans H; with_reducible exact H2_) | with_reducible exact H | (rw [hy101]; exact H) | exact H
 have Ny101 := Aside0.mk hy101; clear hy101
 replace H := Option.bind_eq_some_iff.mp H
 obtain ⟨t104, A10, H⟩ := H
 replace H : (if (t104.length : Int) = 3 then ((redact_Redact.f ([] : List Int)).bind fun bt107 => ((redact_URL.f k (⟨#[72, 84, 84, 80, 58, 47, 47, 109, 101, 58, 120, 64, 97, 47, 64]⟩ : ByteArray)).bind fun t111 => (if t111.toList = ([72, 84, 84, 80, 58, 47, 47, 42, 64, 97, 47, 64] : List UInt8) then ((redact_URL.f k (⟨#[104, 116, 116, 112, 58, 47, 47, 97, 47, 109, 101, 64, 98]⟩ : ByteArray)).bind fun t112 => (if t112.toList = ([104, 116, 116, 112, 58, 47, 47, 97, 47, 109, 101, 64, 98] : List UInt8) then (if 0 < (t104.length : Int) then (if ((rd_T58 t104 0).f1).toList = ([42] : List UInt8) then (if 1 < (t104.length : Int) then (if ((rd_T58 t104 1).f1).toList = ([47, 47, 42, 64, 97, 47] : List UInt8) then (if 2 < (t104.length : Int) then (if ((rd_T58 t104 2).f1).toList = ([109, 101, 64] : List UInt8) then (some (bt107.2 == 7)) else (some false)) else (none)) else (some false)) else (none)) else (some false)) else (none)) else (some false))) else (some false)))) else (some false)) = some r := H
 have A1 := Aside0.mk A10; clear A10
 by_cases c2 : (t104.length : Int) = 3
 ·rw [if_pos c2] at H
  have c2b0 : ((t104.length : Int) == 3) = true := beq_iff_eq.mpr c2
  have c2b1 : ((t104.length : Int) != 3) = false := bne_eq_false_iff_eq.mpr c2
  clear c2
  replace H := Option.bind_eq_some_iff.mp H
  obtain ⟨⟨t107, t108⟩, A30, H⟩ := H
  replace H : ((redact_URL.f k (⟨#[72, 84, 84, 80, 58, 47, 47, 109, 101, 58, 120, 64, 97, 47, 64]⟩ : ByteArray)).bind fun t111 => (if t111.toList = ([72, 84, 84, 80, 58, 47, 47, 42, 64, 97, 47, 64] : List UInt8) then ((redact_URL.f k (⟨#[104, 116, 116, 112, 58, 47, 47, 97, 47, 109, 101, 64, 98]⟩ : ByteArray)).bind fun t112 => (if t112.toList = ([104, 116, 116, 112, 58, 47, 47, 97, 47, 109, 101, 64, 98] : List UInt8) then (if 0 < (t104.length : Int) then (if ((rd_T58 t104 0).f1).toList = ([42] : List UInt8) then (if 1 < (t104.length : Int) then (if ((rd_T58 t104 1).f1).toList = ([47, 47, 42, 64, 97, 47] : List UInt8) then (if 2 < (t104.length : Int) then (if ((rd_T58 t104 2).f1).toList = ([109, 101, 64] : List UInt8) then (some (t108 == 7)) else (some false)) else (none)) else (some false)) else (none)) else (some false)) else (none)) else (some false))) else (some false))) = some r := H
  have A3 := Aside0.mk A30; clear A30
  replace H := Option.bind_eq_some_iff.mp H
  obtain ⟨t111, A40, H⟩ := H
  replace H : (if t111.toList = ([72, 84, 84, 80, 58, 47, 47, 42, 64, 97, 47, 64] : List UInt8) then ((redact_URL.f k (⟨#[104, 116, 116, 112, 58, 47, 47, 97, 47, 109, 101, 64, 98]⟩ : ByteArray)).bind fun t112 => (if t112.toList = ([104, 116, 116, 112, 58, 47, 47, 97, 47, 109, 101, 64, 98] : List UInt8) then (if 0 < (t104.length : Int) then (if ((rd_T58 t104 0).f1).toList = ([42] : List UInt8) then (if 1 < (t104.length : Int) then (if ((rd_T58 t104 1).f1).toList = ([47, 47, 42, 64, 97, 47] : List UInt8) then (if 2 < (t104.length : Int) then (if ((rd_T58 t104 2).f1).toList = ([109, 101, 64] : List UInt8) then (some (t108 == 7)) else (some false)) else (none)) else (some false)) else (none)) else (some false)) else (none)) else (some false))) else (some false)) = some r := H
  have A4 := Aside0.mk A40; clear A40
  by_cases c5 : t111.toList = ([72, 84, 84, 80, 58, 47, 47, 42, 64, 97, 47, 64] : List UInt8)
  ·rw [if_pos c5] at H
   have c5b0 : (t111.toList == ([72, 84, 84, 80, 58, 47, 47, 42, 64, 97, 47, 64] : List UInt8)) = true := beq_iff_eq.mpr c5
   have c5b1 : (t111.toList != ([72, 84, 84, 80, 58, 47, 47, 42, 64, 97, 47, 64] : List UInt8)) = false := bne_eq_false_iff_eq.mpr c5
   clear c5
   replace H := Option.bind_eq_some_iff.mp H
   obtain ⟨t112, A60, H⟩ := H
   replace H : (if t112.toList = ([104, 116, 116, 112, 58, 47, 47, 97, 47, 109, 101, 64, 98] : List UInt8) then (if 0 < (t104.length : Int) then (if ((rd_T58 t104 0).f1).toList = ([42] : List UInt8) then (if 1 < (t104.length : Int) then (if ((rd_T58 t104 1).f1).toList = ([47, 47, 42, 64, 97, 47] : List UInt8) then (if 2 < (t104.length : Int) then (if ((rd_T58 t104 2).f1).toList = ([109, 101, 64] : List UInt8) then (some (t108 == 7)) else (some false)) else (none)) else (some false)) else (none)) else (some false)) else (none)) else (some false)) = some r := H
   have A6 := Aside0.mk A60; clear A60
   by_cases c7 : t112.toList = ([104, 116, 116, 112, 58, 47, 47, 97, 47, 109, 101, 64, 98] : List UInt8)
   ·rw [if_pos c7] at H
    have c7b0 : (t112.toList == ([104, 116, 116, 112, 58, 47, 47, 97, 47, 109, 101, 64, 98] : List UInt8)) = true := beq_iff_eq.mpr c7
    have c7b1 : (t112.toList != ([104, 116, 116, 112, 58, 47, 47, 97, 47, 109, 101, 64, 98] : List UInt8)) = false := bne_eq_false_iff_eq.mpr c7
    clear c7
    by_cases c8 : 0 < (t104.length : Int)
    ·rw [if_pos c8] at H
     have c8b0 : decide (0 < (t104.length : Int)) = true := decide_eq_true c8
     have c8b1 : decide (0 < t104.length) = true := decide_eq_true (by omega)
     clear c8
     by_cases c9 : ((rd_T58 t104 0).f1).toList = ([42] : List UInt8)
     ·rw [if_pos c9] at H
      have c9b0 : (((rd_T58 t104 0).f1).toList == ([42] : List UInt8)) = true := beq_iff_eq.mpr c9
      have c9b1 : (((rd_T58 t104 0).f1).toList != ([42] : List UInt8)) = false := bne_eq_false_iff_eq.mpr c9
      clear c9
      by_cases c10 : 1 < (t104.length : Int)
      ·rw [if_pos c10] at H
       have c10b0 : decide (1 < (t104.length : Int)) = true := decide_eq_true c10
       have c10b1 : decide (1 < t104.length) = true := decide_eq_true (by omega)
       clear c10
       by_cases c11 : ((rd_T58 t104 1).f1).toList = ([47, 47, 42, 64, 97, 47] : List UInt8)
       ·rw [if_pos c11] at H
        have c11b0 : (((rd_T58 t104 1).f1).toList == ([47, 47, 42, 64, 97, 47] : List UInt8)) = true := beq_iff_eq.mpr c11
        have c11b1 : (((rd_T58 t104 1).f1).toList != ([47, 47, 42, 64, 97, 47] : List UInt8)) = false := bne_eq_false_iff_eq.mpr c11
        clear c11
        by_cases c12 : 2 < (t104.length : Int)
        ·rw [if_pos c12] at H
         have c12b0 : decide (2 < (t104.length : Int)) = true := decide_eq_true c12
         have c12b1 : decide (2 < t104.length) = true := decide_eq_true (by omega)
         clear c12
         by_cases c13 : ((rd_T58 t104 2).f1).toList = ([109, 101, 64] : List UInt8)
         ·rw [if_pos c13] at H
          have c13b0 : (((rd_T58 t104 2).f1).toList == ([109, 101, 64] : List UInt8)) = true := beq_iff_eq.mpr c13
          have c13b1 : (((rd_T58 t104 2).f1).toList != ([109, 101, 64] : List UInt8)) = false := bne_eq_false_iff_eq.mpr c13
          clear c13
          obtain rfl := Option.some.inj H
          go_enter Tryz.func9, Tryz.ntmps9
          go_wp2_with (first | ((with_reducible refine gate_dst (N := 7) rfl ?_); refine Kd.R_lit k58 _ 58 ?hg (N := 7) ?hd (xs := ([(⟨(⟨#[67, 111, 111, 107, 105, 101]⟩ : ByteArray), (⟨#[120]⟩ : ByteArray)⟩ : S58), (⟨(⟨#[76, 111, 99, 97, 116, 105, 111, 110]⟩ : ByteArray), (⟨#[47, 47, 109, 101, 64, 97, 47]⟩ : ByteArray)⟩ : S58), (⟨(⟨#[97]⟩ : ByteArray), (⟨#[109, 101, 64]⟩ : ByteArray)⟩ : S58)] : List (S58))) (inner := [.string (⟨#[67, 111, 111, 107, 105, 101]⟩ : ByteArray), .string (⟨#[120]⟩ : ByteArray), .string (⟨#[76, 111, 99, 97, 116, 105, 111, 110]⟩ : ByteArray), .string (⟨#[47, 47, 109, 101, 64, 97, 47]⟩ : ByteArray), .string (⟨#[97]⟩ : ByteArray), .string (⟨#[109, 101, 64]⟩ : ByteArray)]) (ok := fun _ => True) (okp := fun _ => True) ?hr ?hp (fun _ hk => hk) trivial (Below.refl _ _) (Nat.le_refl _) (by simp) ?_; (case hd => rfl); (case hg => rfl); (case hr => first | (go_simp; done) | (go_simp; rfl)); (case hp => exact (Reps.c2 (show Kd.M k58 _ _ _ (⟨(⟨#[67, 111, 111, 107, 105, 101]⟩ : ByteArray), (⟨#[120]⟩ : ByteArray)⟩ : S58) [.string (⟨#[67, 111, 111, 107, 105, 101]⟩ : ByteArray), .string (⟨#[120]⟩ : ByteArray)] from (k58_mkM _ _ _ (⟨(⟨#[67, 111, 111, 107, 105, 101]⟩ : ByteArray), (⟨#[120]⟩ : ByteArray)⟩ : S58) )) (Reps.c2 (show Kd.M k58 _ _ _ (⟨(⟨#[76, 111, 99, 97, 116, 105, 111, 110]⟩ : ByteArray), (⟨#[47, 47, 109, 101, 64, 97, 47]⟩ : ByteArray)⟩ : S58) [.string (⟨#[76, 111, 99, 97, 116, 105, 111, 110]⟩ : ByteArray), .string (⟨#[47, 47, 109, 101, 64, 97, 47]⟩ : ByteArray)] from (k58_mkM _ _ _ (⟨(⟨#[76, 111, 99, 97, 116, 105, 111, 110]⟩ : ByteArray), (⟨#[47, 47, 109, 101, 64, 97, 47]⟩ : ByteArray)⟩ : S58) )) (Reps.c2 (show Kd.M k58 _ _ _ (⟨(⟨#[97]⟩ : ByteArray), (⟨#[109, 101, 64]⟩ : ByteArray)⟩ : S58) [.string (⟨#[97]⟩ : ByteArray), .string (⟨#[109, 101, 64]⟩ : ByteArray)] from (k58_mkM _ _ _ (⟨(⟨#[97]⟩ : ByteArray), (⟨#[109, 101, 64]⟩ : ByteArray)⟩ : S58) )) (Reps.none _ _))))); intro v102 w14 ho15 hb hg_ hnew_; clear hg_ hnew_; (first | rw [← Ny101.out] at ho15 | (simp only [Int.reduceToNat] at ho15; rw [← Ny101.out] at ho15)); have n0_ := Aside0.mk (Kd.R_lower ho15 (below_size z23_)); have n1_ := Aside0.mk (below_step z23_ hb); clear HB; have HO103 := n0_; have HB := n1_; clear n0_ n1_; clear hb ho15; obtain ⟨Ao16, co16, eo16⟩ := Kd.R_slice HO103.out; subst eo16) | ((with_reducible refine gate_callee (f := 15) rfl ?_); refine goesL_ (some 8) rfl rfl Tryz.func15 (by kernel_rfl) rfl #[.slice Ao16 y101.length co16] rfl z22_ ?_; (with_reducible refine (redact_Headers.calls k _ _ y101 t104 _ ?gw1_ ?side1 ?side2 A1.out).mono ?_); (case gw1_ => exact z5_); (case side1 => repeat (first | exact (Kd.R_reads' HO103.out).2.2 | (with_reducible refine Kd.C_alloc ?_ _) | (with_reducible refine Kd.C_drewN ?_ _) | (with_reducible refine Kd.C_drew ?_))); (case side2 => exact (Kd.R_reads' HO103.out).2.1); rintro e w17 ⟨v105, rfl, ho0, hb⟩; refine ⟨_, rfl, ?_⟩; have n0_ := Aside0.mk (Kd.R_below z43_ hb); have n1_ := Aside0.mk (Kd.V_lower (Kd.V_mono (ok' := fun k_ => some k_ ≠ (.slice Ao16 y101.length co16 : Value).ownBlock) ho0 (fun k_ hk_ => (Kd.fresh' (Kd.R_lt z43_) k_ hk_))) (below_size z23_)); have n2_ := Aside0.mk (below_step z23_ hb); clear HO103; clear HB; have HO103 := n0_; have HO106 := n1_; have HB := n2_; clear n0_ n1_ n2_; (try clear hb); (try clear hb2); (try clear hk); (try clear hi); (try clear ho0); obtain ⟨Ao18, co18, eo18⟩ := Kd.V_slice HO106.out; subst eo18) | ((with_reducible refine gate_callee (f := 6) rfl ?_); refine goesL_ (some 13) rfl rfl Tryz.func6 (by kernel_rfl) rfl #[.slice none 0 0] rfl z22_ ?_; (refine (redact_Redact.calls _ _ ([] : List Int) t107 t108 _ ?gw2_ ?side1 ?side2 A3.out).mono ?_); (case gw2_ => exact z5_); (case side1 => exact Kd.C_nil _ _); (case side2 => exact Nat.le_refl _); rintro e w19 ⟨v109, rfl, ho0, hb⟩; refine ⟨_, rfl, ?_⟩; have n0_ := Aside0.mk (Kd.R_below z43_ hb); have n1_ := Aside0.mk (Kd.V_elder' z44_ (Kd.R_base ho0) hb); have n2_ := Aside0.mk (Kd.R_lower ho0 (below_size z23_)); have n3_ := Aside0.mk (below_step z23_ hb); clear HO103; clear HO106; clear HB; have HO103 := n0_; have HO106 := n1_; have HO110 := n2_; have HB := n3_; clear n0_ n1_ n2_ n3_; (try clear hb); (try clear hb2); (try clear hk); (try clear hi); (try clear ho0)) | ((with_reducible refine gate_callee (f := 10) rfl ?_); refine goesL_ (some 16) rfl rfl Tryz.func10 (by kernel_rfl) rfl #[.string (⟨#[72, 84, 84, 80, 58, 47, 47, 109, 101, 58, 120, 64, 97, 47, 64]⟩ : ByteArray)] rfl z22_ ?_; (with_reducible refine (redact_URL.calls k (⟨#[72, 84, 84, 80, 58, 47, 47, 109, 101, 58, 120, 64, 97, 47, 64]⟩ : ByteArray) t111 _ ?gw3_ A4.out).mono ?_); (case gw3_ => exact z5_); rintro e w20 ⟨rfl, hb⟩; refine ⟨_, rfl, ?_⟩; have n0_ := Aside0.mk (Kd.R_below z43_ hb); have n1_ := Aside0.mk (Kd.V_below z44_ hb); have n2_ := Aside0.mk (Kd.R_below z41_ hb); have n3_ := Aside0.mk (below_step z23_ hb); clear HO103; clear HO106; clear HO110; clear HB; have HO103 := n0_; have HO106 := n1_; have HO110 := n2_; have HB := n3_; clear n0_ n1_ n2_ n3_; (try clear hb); (try clear hb2); (try clear hk); (try clear hi)) | (go_at_call 10; (fail_if_success (have z_ := U_1)); have U_1 := trivial; (with_reducible refine (redact_URL.calls k (⟨#[104, 116, 116, 112, 58, 47, 47, 97, 47, 109, 101, 64, 98]⟩ : ByteArray) t112 _ ?gw4_ A6.out).mono ?_); (case gw4_ => exact z5_); rintro e w21 ⟨rfl, hb⟩; have n0_ := Aside0.mk (Kd.R_below z43_ hb); have n1_ := Aside0.mk (Kd.V_below z44_ hb); have n2_ := Aside0.mk (Kd.R_below z41_ hb); have n3_ := Aside0.mk (below_step z23_ hb); clear HO103; clear HO106; clear HO110; clear HB; have HO103 := n0_; have HO106 := n1_; have HO110 := n2_; have HB := n3_; clear n0_ n1_ n2_ n3_; (try clear hb); (try clear hb2); (try clear hk); (try clear hi); have p113 : 0 ≤ (0 : Int) := (by omega); have q113 : 0 < (t104.length : Int) := of_decide_eq_true z61_; obtain ⟨ad113, e113, hx113_0, hx113_1⟩ := at_T58 (Kd.V_reads' HO106.out).2.2 0 p113 q113; cases e113; have qi113 : (0 < t104.length) = True := eq_true (by omega); (try rw [show ((0 : Int)).toNat = 0 from rfl] at hx113_0); (try rw [show 0 * 2 = 0 from rfl] at hx113_0); (try rw [Addr.add_zero'] at hx113_0); (try rw [show ((0 : Int)).toNat = 0 from rfl] at hx113_1); (try rw [show 0 * 2 = 0 from rfl] at hx113_1); (try rw [Addr.add_zero'] at hx113_1); replace p113 := eq_true p113; replace q113 := eq_true q113; have p114 : 0 ≤ (1 : Int) := (by omega); have q114 : 1 < (t104.length : Int) := of_decide_eq_true z61_; obtain ⟨ad114, e114, hx114_0, hx114_1⟩ := at_T58 (Kd.V_reads' HO106.out).2.2 1 p114 q114; obtain rfl : ad113 = ad114 := (by injection e114); (try simp only [show (1 : Int).toNat = 1 from rfl, Nat.reduceMul, Nat.reduceEqDiff, Go.Addr.add, ↓reduceIte] at hx114_0); (try simp only [show (1 : Int).toNat = 1 from rfl, Nat.reduceMul, Nat.reduceEqDiff, Go.Addr.add, ↓reduceIte] at hx114_1); have qi114 : (1 < t104.length) = True := eq_true (by omega); (try rw [show ((1 : Int)).toNat = 1 from rfl] at hx114_0); (try rw [show 1 * 2 = 2 from rfl] at hx114_0); (try rw [show ((1 : Int)).toNat = 1 from rfl] at hx114_1); (try rw [show 1 * 2 = 2 from rfl] at hx114_1); replace p114 := eq_true p114; replace q114 := eq_true q114; have p115 : 0 ≤ (2 : Int) := (by omega); have q115 : 2 < (t104.length : Int) := of_decide_eq_true z61_; obtain ⟨ad115, e115, hx115_0, hx115_1⟩ := at_T58 (Kd.V_reads' HO106.out).2.2 2 p115 q115; obtain rfl : ad113 = ad115 := (by injection e115); (try simp only [show (2 : Int).toNat = 2 from rfl, Nat.reduceMul, Nat.reduceEqDiff, Go.Addr.add, ↓reduceIte] at hx115_0); (try simp only [show (2 : Int).toNat = 2 from rfl, Nat.reduceMul, Nat.reduceEqDiff, Go.Addr.add, ↓reduceIte] at hx115_1); have qi115 : (2 < t104.length) = True := eq_true (by omega); (try rw [show ((2 : Int)).toNat = 2 from rfl] at hx115_0); (try rw [show 2 * 2 = 4 from rfl] at hx115_0); (try rw [show ((2 : Int)).toNat = 2 from rfl] at hx115_1); (try rw [show 2 * 2 = 4 from rfl] at hx115_1); replace p115 := eq_true p115; replace q115 := eq_true q115))
          go_ret
          exact ⟨z25_, z23_⟩
         ·rw [if_neg c13] at H
          have c13b0 : (((rd_T58 t104 2).f1).toList == ([109, 101, 64] : List UInt8)) = false := beq_eq_false_iff_ne.mpr c13
          have c13b1 : (((rd_T58 t104 2).f1).toList != ([109, 101, 64] : List UInt8)) = true := bne_iff_ne.mpr c13
          exact absurd ((Option.some.inj H).trans hr_) Bool.false_ne_true
        ·rw [if_neg c12] at H
         exact absurd H (by simp)
       ·rw [if_neg c11] at H
        have c11b0 : (((rd_T58 t104 1).f1).toList == ([47, 47, 42, 64, 97, 47] : List UInt8)) = false := beq_eq_false_iff_ne.mpr c11
        have c11b1 : (((rd_T58 t104 1).f1).toList != ([47, 47, 42, 64, 97, 47] : List UInt8)) = true := bne_iff_ne.mpr c11
        exact absurd ((Option.some.inj H).trans hr_) Bool.false_ne_true
      ·rw [if_neg c10] at H
       exact absurd H (by simp)
     ·rw [if_neg c9] at H
      have c9b0 : (((rd_T58 t104 0).f1).toList == ([42] : List UInt8)) = false := beq_eq_false_iff_ne.mpr c9
      have c9b1 : (((rd_T58 t104 0).f1).toList != ([42] : List UInt8)) = true := bne_iff_ne.mpr c9
      exact absurd ((Option.some.inj H).trans hr_) Bool.false_ne_true
    ·rw [if_neg c8] at H
     exact absurd H (by simp)
   ·rw [if_neg c7] at H
    have c7b0 : (t112.toList == ([104, 116, 116, 112, 58, 47, 47, 97, 47, 109, 101, 64, 98] : List UInt8)) = false := beq_eq_false_iff_ne.mpr c7
    have c7b1 : (t112.toList != ([104, 116, 116, 112, 58, 47, 47, 97, 47, 109, 101, 64, 98] : List UInt8)) = true := bne_iff_ne.mpr c7
    exact absurd ((Option.some.inj H).trans hr_) Bool.false_ne_true
  ·rw [if_neg c5] at H
   have c5b0 : (t111.toList == ([72, 84, 84, 80, 58, 47, 47, 42, 64, 97, 47, 64] : List UInt8)) = false := beq_eq_false_iff_ne.mpr c5
   have c5b1 : (t111.toList != ([72, 84, 84, 80, 58, 47, 47, 42, 64, 97, 47, 64] : List UInt8)) = true := bne_iff_ne.mpr c5
   exact absurd ((Option.some.inj H).trans hr_) Bool.false_ne_true
 ·rw [if_neg c2] at H
  have c2b0 : ((t104.length : Int) == 3) = false := beq_eq_false_iff_ne.mpr c2
  have c2b1 : ((t104.length : Int) != 3) = true := bne_iff_ne.mpr c2
  exact absurd ((Option.some.inj H).trans hr_) Bool.false_ne_true

def pursuivantlaw27_RedactParts.f (k : Nat) (a0 : ByteArray) (l1 : List (S58)) (a2_0 : Int) (a2_1 : Int) (a2_2 : Int) (a2_3 : ByteArray) (a2_4 : ByteArray) (l2_5 : List (S58)) (a2_6 : ByteArray) (a2_7 : Int) (a2_8 : Int) (a2_9 : Bool) (a2_10 : ByteArray) (a2_11 : Int) (a3_0 : Int) (a3_1 : Int) (a3_2 : ByteArray) (a3_3 : ByteArray) (a3_4 : Int) (a3_5 : Int) (a3_6 : Int) (a3_7 : Int) (a3_8 : ByteArray) (l3_9 : List (S58)) (a3_10 : ByteArray) (a3_11 : Int) (l3_12 : List (S58)) (a3_13 : ByteArray) (a3_14 : Int) : Option (Bool) := (pursuivantlaw27_few.f l2_5).bind fun t118 => ((pursuivantlaw27_few.f l3_9).bind fun t121 => ((pursuivantlaw27_few.f l3_12).bind fun t124 => ((pursuivantlaw27_short.f a2_4).bind fun t127 => ((pursuivantlaw27_short.f a3_3).bind fun t128 => ((pursuivantlaw27_awake.f k).bind fun t129 => (if t129 = true then ((pursuivantlaw27_short.f a0).bind fun t130 => ((redact_URL.f k t130).bind fun t131 => ((pursuivantlaw27_short.f a0).bind fun t132 => ((pursuivantref27_URL.f k t132).bind fun t133 => (if t131.toList = t133.toList then ((pursuivantlaw27_few.f l1).bind fun t134 => ((redact_Headers.f k t134).bind fun t137 => ((pursuivantlaw27_few.f l1).bind fun t140 => ((pursuivantref27_Headers.f k t140).bind fun t143 => ((pursuivantref09_Same.f k t137 t143).bind fun t146 => (if t146 = true then ((redact_Event.f k a2_0 a2_1 a2_2 a2_3 t127 t118 a2_6 a2_7 a2_8 a2_9 a2_10 a2_11).bind fun bt147 => ((pursuivantref27_Event.f k a2_0 a2_1 a2_2 a2_3 t127 t118 a2_6 a2_7 a2_8 a2_9 a2_10 a2_11).bind fun bt161 => ((pursuivantref18_SameEvent.f k bt147.1 bt147.2.1 bt147.2.2.1 bt147.2.2.2.1 bt147.2.2.2.2.1 bt147.2.2.2.2.2.1 bt147.2.2.2.2.2.2.1 bt147.2.2.2.2.2.2.2.1 bt147.2.2.2.2.2.2.2.2.1 bt147.2.2.2.2.2.2.2.2.2.1 bt147.2.2.2.2.2.2.2.2.2.2.1 bt147.2.2.2.2.2.2.2.2.2.2.2 bt161.1 bt161.2.1 bt161.2.2.1 bt161.2.2.2.1 bt161.2.2.2.2.1 bt161.2.2.2.2.2.1 bt161.2.2.2.2.2.2.1 bt161.2.2.2.2.2.2.2.1 bt161.2.2.2.2.2.2.2.2.1 bt161.2.2.2.2.2.2.2.2.2.1 bt161.2.2.2.2.2.2.2.2.2.2.1 bt161.2.2.2.2.2.2.2.2.2.2.2).bind fun t175 => (if t175 = true then ((redact_Input.f k a3_0 a3_1 a3_2 t128 a3_4 a3_5 a3_6 a3_7 a3_8 t121 a3_10 a3_11 t124 a3_13 a3_14).bind fun bt176 => ((pursuivantref27_Input.f k a3_0 a3_1 a3_2 t128 a3_4 a3_5 a3_6 a3_7 a3_8 t121 a3_10 a3_11 t124 a3_13 a3_14).bind fun bt195 => ((pursuivantref21_SameInput.f k bt176.1 bt176.2.1 bt176.2.2.1 bt176.2.2.2.1 bt176.2.2.2.2.1 bt176.2.2.2.2.2.1 bt176.2.2.2.2.2.2.1 bt176.2.2.2.2.2.2.2.1 bt176.2.2.2.2.2.2.2.2.1 bt176.2.2.2.2.2.2.2.2.2.1 bt176.2.2.2.2.2.2.2.2.2.2.1 bt176.2.2.2.2.2.2.2.2.2.2.2.1 bt176.2.2.2.2.2.2.2.2.2.2.2.2.1 bt176.2.2.2.2.2.2.2.2.2.2.2.2.2.1 bt176.2.2.2.2.2.2.2.2.2.2.2.2.2.2 bt195.1 bt195.2.1 bt195.2.2.1 bt195.2.2.2.1 bt195.2.2.2.2.1 bt195.2.2.2.2.2.1 bt195.2.2.2.2.2.2.1 bt195.2.2.2.2.2.2.2.1 bt195.2.2.2.2.2.2.2.2.1 bt195.2.2.2.2.2.2.2.2.2.1 bt195.2.2.2.2.2.2.2.2.2.2.1 bt195.2.2.2.2.2.2.2.2.2.2.2.1 bt195.2.2.2.2.2.2.2.2.2.2.2.2.1 bt195.2.2.2.2.2.2.2.2.2.2.2.2.2.1 bt195.2.2.2.2.2.2.2.2.2.2.2.2.2.2).bind fun t214 => (some t214)))) else (some false))))) else (some false))))))) else (some false)))))) else (some false)))))))
def pursuivantlaw27_RedactParts.T1 : Bool × List (List Nat × List Nat) := (true, [([], []), ([0], [0]), ([1], [1]), ([], []), ([3], [3]), ([4], [4]), ([5, 2], [5]), ([], []), ([7], [7]), ([8], [8]), ([9, 6], [9]), ([0, 1, 2, 7, 8, 9], []), ([11, 2, 10, 0, 1, 2, 7, 8, 9], [2, 11]), ([0, 1, 2, 3, 4, 5, 6, 7, 8, 9, 11, 12], []), ([13, 0, 1, 2, 3, 4, 5, 6, 7, 8, 9, 11, 12], [13]), ([14, 6, 12, 0, 1, 2, 3, 4, 5, 6, 7, 8, 9, 11, 12], [6, 14]), ([0, 1, 2, 3, 4, 5, 6, 7, 8, 9, 10, 11, 12, 13, 14, 15], []), ([16, 0, 1, 2, 3, 4, 5, 6, 7, 8, 9, 10, 11, 12, 13, 14, 15], [16]), ([17, 10, 15, 0, 1, 2, 3, 4, 5, 6, 7, 8, 9, 10, 11, 12, 13, 14, 15], [10, 17])])
def pursuivantlaw27_RedactParts.B1 : List Nat := [0, 1, 3, 0, 8, 24, 63, 0, 128, 384, 1023, 903, 4095, 8191, 16383, 32767, 65535, 131071, 262143]
theorem pursuivantlaw27_RedactParts.tab1 : rtab .any (opsOf Tryz.f5 1) = pursuivantlaw27_RedactParts.T1 := by kernel_rfl
theorem pursuivantlaw27_RedactParts.bits1 : waitsOk pursuivantlaw27_RedactParts.T1.2 pursuivantlaw27_RedactParts.B1 = true := by kernel_rfl
def pursuivantlaw27_RedactParts.T2 : Bool × List (List Nat × List Nat) := (true, [([], []), ([0], [0]), ([1], [1]), ([], []), ([3], [3]), ([4], [4]), ([5, 2], [5]), ([0, 1, 2], []), ([7, 2, 6, 0, 1, 2], [2, 7]), ([0, 1, 2, 3, 4, 5, 6, 7, 8], []), ([9, 0, 1, 2, 3, 4, 5, 6, 7, 8], [9]), ([10, 6, 8, 0, 1, 2, 3, 4, 5, 6, 7, 8], [6, 10])])
def pursuivantlaw27_RedactParts.B2 : List Nat := [0, 1, 3, 0, 8, 24, 63, 7, 255, 511, 1023, 2047]
theorem pursuivantlaw27_RedactParts.tab2 : rtab .any (opsOf Tryz.f5 2) = pursuivantlaw27_RedactParts.T2 := by kernel_rfl
theorem pursuivantlaw27_RedactParts.bits2 : waitsOk pursuivantlaw27_RedactParts.T2.2 pursuivantlaw27_RedactParts.B2 = true := by kernel_rfl
def pursuivantlaw27_RedactParts.T3 : Bool × List (List Nat × List Nat) := (true, [([], []), ([0, 0], [0]), ([1], [1]), ([2, 1, 1], [1, 2]), ([3, 3, 1], [1, 3]), ([1], [1]), ([5, 4, 1], [1, 5]), ([6, 6, 1], [1, 6]), ([4, 7, 1], [1, 4, 7]), ([1, 8], [1, 8]), ([9, 7], [9]), ([10], [10]), ([11, 10, 10], [10, 11]), ([12, 12, 10], [10, 12]), ([10], [10]), ([14, 13, 10], [10, 14]), ([15, 15, 10], [10, 15]), ([13, 16, 16, 10], [10, 13, 16]), ([10, 17], [10, 17]), ([18, 17], [18]), ([19], [19]), ([20, 19, 19], [19, 20]), ([19], [19]), ([22, 21, 19], [19, 22]), ([21, 23, 23, 19], [19, 21, 23]), ([19, 24], [19, 24]), ([25, 24], [25]), ([26], [26]), ([27, 26, 26], [26, 27]), ([26], [26]), ([29, 28, 26], [26, 29]), ([28, 30, 30, 26], [26, 28, 30]), ([26, 31], [26, 31]), ([32, 31, 0, 1, 2, 3, 4, 5, 6, 7, 8, 9, 10, 11, 12, 13, 14, 15, 16, 17, 18, 19, 20, 21, 22, 23, 24, 25, 26, 27, 28, 29, 30, 31, 32], [32])])
def pursuivantlaw27_RedactParts.B3 : List Nat := [0, 1, 3, 7, 15, 3, 63, 127, 255, 511, 1023, 2047, 4095, 8191, 2047, 32767, 65535, 131071, 262143, 524287, 1048575, 2097151, 1048575, 8388607, 16777215, 33554431, 67108863, 134217727, 268435455, 134217727, 1073741823, 2147483647, 4294967295, 8589934591]
theorem pursuivantlaw27_RedactParts.tab3 : rtab .any (opsOf Tryz.f5 3) = pursuivantlaw27_RedactParts.T3 := by kernel_rfl
theorem pursuivantlaw27_RedactParts.bits3 : waitsOk pursuivantlaw27_RedactParts.T3.2 pursuivantlaw27_RedactParts.B3 = true := by kernel_rfl
set_option maxHeartbeats 8000000 in
set_option maxRecDepth 100000 in
theorem pursuivantlaw27_RedactParts.calls (k : Nat) (a0 : ByteArray) (A1 : Option Addr) (c1 : Nat) (l1 : List (S58)) (a2_0 : Int) (a2_1 : Int) (a2_2 : Int) (a2_3 : ByteArray) (a2_4 : ByteArray) (A2_5 : Option Addr) (c2_5 : Nat) (l2_5 : List (S58)) (a2_6 : ByteArray) (a2_7 : Int) (a2_8 : Int) (a2_9 : Bool) (a2_10 : ByteArray) (a2_11 : Int) (a3_0 : Int) (a3_1 : Int) (a3_2 : ByteArray) (a3_3 : ByteArray) (a3_4 : Int) (a3_5 : Int) (a3_6 : Int) (a3_7 : Int) (a3_8 : ByteArray) (A3_9 : Option Addr) (c3_9 : Nat) (l3_9 : List (S58)) (a3_10 : ByteArray) (a3_11 : Int) (A3_12 : Option Addr) (c3_12 : Nat) (l3_12 : List (S58)) (a3_13 : ByteArray) (a3_14 : Int) (r : Bool) (w : World) (hG_ : GW w) (hr1 : Kd.C k58 w A1 l1.length l1) (hc1 : l1.length ≤ c1) (hr2_5 : Kd.C k58 w A2_5 l2_5.length l2_5) (hc2_5 : l2_5.length ≤ c2_5) (hr3_9 : Kd.C k58 w A3_9 l3_9.length l3_9) (hc3_9 : l3_9.length ≤ c3_9) (hr3_12 : Kd.C k58 w A3_12 l3_12.length l3_12) (hc3_12 : l3_12.length ≤ c3_12) (h : pursuivantlaw27_RedactParts.f k a0 l1 a2_0 a2_1 a2_2 a2_3 a2_4 l2_5 a2_6 a2_7 a2_8 a2_9 a2_10 a2_11 a3_0 a3_1 a3_2 a3_3 a3_4 a3_5 a3_6 a3_7 a3_8 l3_9 a3_10 a3_11 l3_12 a3_13 a3_14 = some r) (hr_ : r = true) :
  Calls Tryz.prog 5 #[.string a0, .slice A1 l1.length c1, .agg #[.int .i64 a2_0, .int .i64 a2_1, .int .i64 a2_2, .string a2_3, .string a2_4, .slice A2_5 l2_5.length c2_5, .string a2_6, .int .i64 a2_7, .int .i64 a2_8, .bool a2_9, .string a2_10, .int .u64 a2_11], .agg #[.int .i64 a3_0, .int .i64 a3_1, .string a3_2, .string a3_3, .int .i64 a3_4, .int .i64 a3_5, .int .i64 a3_6, .int .i64 a3_7, .string a3_8, .slice A3_9 l3_9.length c3_9, .string a3_10, .int .i64 a3_11, .slice A3_12 l3_12.length c3_12, .string a3_13, .int .u64 a3_14]] w fun e w' => e = .returned (.bool r) ∧ Below w.heap.size w w' := by
 have hu36 := Tryz.underlying36
 have hu42 := Tryz.underlying42
 have HR1 := Aside0.mk hr1; have HC1 := Aside0.mk hc1; clear hr1 hc1; have HR2_5 := Aside0.mk hr2_5; have HC2_5 := Aside0.mk hc2_5; clear hr2_5 hc2_5; have HR3_9 := Aside0.mk hr3_9; have HC3_9 := Aside0.mk hc3_9; clear hr3_9 hc3_9; have HR3_12 := Aside0.mk hr3_12; have HC3_12 := Aside0.mk hc3_12; clear hr3_12 hc3_12
 have HB := Aside0.mk (Below.refl w.heap.size w)
 have H : ((pursuivantlaw27_few.f l2_5).bind fun t118 => ((pursuivantlaw27_few.f l3_9).bind fun t121 => ((pursuivantlaw27_few.f l3_12).bind fun t124 => ((pursuivantlaw27_short.f a2_4).bind fun t127 => ((pursuivantlaw27_short.f a3_3).bind fun t128 => ((pursuivantlaw27_awake.f k).bind fun t129 => (if t129 = true then ((pursuivantlaw27_short.f a0).bind fun t130 => ((redact_URL.f k t130).bind fun t131 => ((pursuivantlaw27_short.f a0).bind fun t132 => ((pursuivantref27_URL.f k t132).bind fun t133 => (if t131.toList = t133.toList then ((pursuivantlaw27_few.f l1).bind fun t134 => ((redact_Headers.f k t134).bind fun t137 => ((pursuivantlaw27_few.f l1).bind fun t140 => ((pursuivantref27_Headers.f k t140).bind fun t143 => ((pursuivantref09_Same.f k t137 t143).bind fun t146 => (if t146 = true then ((redact_Event.f k a2_0 a2_1 a2_2 a2_3 t127 t118 a2_6 a2_7 a2_8 a2_9 a2_10 a2_11).bind fun bt147 => ((pursuivantref27_Event.f k a2_0 a2_1 a2_2 a2_3 t127 t118 a2_6 a2_7 a2_8 a2_9 a2_10 a2_11).bind fun bt161 => ((pursuivantref18_SameEvent.f k bt147.1 bt147.2.1 bt147.2.2.1 bt147.2.2.2.1 bt147.2.2.2.2.1 bt147.2.2.2.2.2.1 bt147.2.2.2.2.2.2.1 bt147.2.2.2.2.2.2.2.1 bt147.2.2.2.2.2.2.2.2.1 bt147.2.2.2.2.2.2.2.2.2.1 bt147.2.2.2.2.2.2.2.2.2.2.1 bt147.2.2.2.2.2.2.2.2.2.2.2 bt161.1 bt161.2.1 bt161.2.2.1 bt161.2.2.2.1 bt161.2.2.2.2.1 bt161.2.2.2.2.2.1 bt161.2.2.2.2.2.2.1 bt161.2.2.2.2.2.2.2.1 bt161.2.2.2.2.2.2.2.2.1 bt161.2.2.2.2.2.2.2.2.2.1 bt161.2.2.2.2.2.2.2.2.2.2.1 bt161.2.2.2.2.2.2.2.2.2.2.2).bind fun t175 => (if t175 = true then ((redact_Input.f k a3_0 a3_1 a3_2 t128 a3_4 a3_5 a3_6 a3_7 a3_8 t121 a3_10 a3_11 t124 a3_13 a3_14).bind fun bt176 => ((pursuivantref27_Input.f k a3_0 a3_1 a3_2 t128 a3_4 a3_5 a3_6 a3_7 a3_8 t121 a3_10 a3_11 t124 a3_13 a3_14).bind fun bt195 => ((pursuivantref21_SameInput.f k bt176.1 bt176.2.1 bt176.2.2.1 bt176.2.2.2.1 bt176.2.2.2.2.1 bt176.2.2.2.2.2.1 bt176.2.2.2.2.2.2.1 bt176.2.2.2.2.2.2.2.1 bt176.2.2.2.2.2.2.2.2.1 bt176.2.2.2.2.2.2.2.2.2.1 bt176.2.2.2.2.2.2.2.2.2.2.1 bt176.2.2.2.2.2.2.2.2.2.2.2.1 bt176.2.2.2.2.2.2.2.2.2.2.2.2.1 bt176.2.2.2.2.2.2.2.2.2.2.2.2.2.1 bt176.2.2.2.2.2.2.2.2.2.2.2.2.2.2 bt195.1 bt195.2.1 bt195.2.2.1 bt195.2.2.2.1 bt195.2.2.2.2.1 bt195.2.2.2.2.2.1 bt195.2.2.2.2.2.2.1 bt195.2.2.2.2.2.2.2.1 bt195.2.2.2.2.2.2.2.2.1 bt195.2.2.2.2.2.2.2.2.2.1 bt195.2.2.2.2.2.2.2.2.2.2.1 bt195.2.2.2.2.2.2.2.2.2.2.2.1 bt195.2.2.2.2.2.2.2.2.2.2.2.2.1 bt195.2.2.2.2.2.2.2.2.2.2.2.2.2.1 bt195.2.2.2.2.2.2.2.2.2.2.2.2.2.2).bind fun t214 => (some t214)))) else (some false))))) else (some false))))))) else (some false)))))) else (some false)))))))) = some r := h
 clear h
 replace H := Option.bind_eq_some_iff.mp H
 obtain ⟨t118, A50, H⟩ := H
 replace H : ((pursuivantlaw27_few.f l3_9).bind fun t121 => ((pursuivantlaw27_few.f l3_12).bind fun t124 => ((pursuivantlaw27_short.f a2_4).bind fun t127 => ((pursuivantlaw27_short.f a3_3).bind fun t128 => ((pursuivantlaw27_awake.f k).bind fun t129 => (if t129 = true then ((pursuivantlaw27_short.f a0).bind fun t130 => ((redact_URL.f k t130).bind fun t131 => ((pursuivantlaw27_short.f a0).bind fun t132 => ((pursuivantref27_URL.f k t132).bind fun t133 => (if t131.toList = t133.toList then ((pursuivantlaw27_few.f l1).bind fun t134 => ((redact_Headers.f k t134).bind fun t137 => ((pursuivantlaw27_few.f l1).bind fun t140 => ((pursuivantref27_Headers.f k t140).bind fun t143 => ((pursuivantref09_Same.f k t137 t143).bind fun t146 => (if t146 = true then ((redact_Event.f k a2_0 a2_1 a2_2 a2_3 t127 t118 a2_6 a2_7 a2_8 a2_9 a2_10 a2_11).bind fun bt147 => ((pursuivantref27_Event.f k a2_0 a2_1 a2_2 a2_3 t127 t118 a2_6 a2_7 a2_8 a2_9 a2_10 a2_11).bind fun bt161 => ((pursuivantref18_SameEvent.f k bt147.1 bt147.2.1 bt147.2.2.1 bt147.2.2.2.1 bt147.2.2.2.2.1 bt147.2.2.2.2.2.1 bt147.2.2.2.2.2.2.1 bt147.2.2.2.2.2.2.2.1 bt147.2.2.2.2.2.2.2.2.1 bt147.2.2.2.2.2.2.2.2.2.1 bt147.2.2.2.2.2.2.2.2.2.2.1 bt147.2.2.2.2.2.2.2.2.2.2.2 bt161.1 bt161.2.1 bt161.2.2.1 bt161.2.2.2.1 bt161.2.2.2.2.1 bt161.2.2.2.2.2.1 bt161.2.2.2.2.2.2.1 bt161.2.2.2.2.2.2.2.1 bt161.2.2.2.2.2.2.2.2.1 bt161.2.2.2.2.2.2.2.2.2.1 bt161.2.2.2.2.2.2.2.2.2.2.1 bt161.2.2.2.2.2.2.2.2.2.2.2).bind fun t175 => (if t175 = true then ((redact_Input.f k a3_0 a3_1 a3_2 t128 a3_4 a3_5 a3_6 a3_7 a3_8 t121 a3_10 a3_11 t124 a3_13 a3_14).bind fun bt176 => ((pursuivantref27_Input.f k a3_0 a3_1 a3_2 t128 a3_4 a3_5 a3_6 a3_7 a3_8 t121 a3_10 a3_11 t124 a3_13 a3_14).bind fun bt195 => ((pursuivantref21_SameInput.f k bt176.1 bt176.2.1 bt176.2.2.1 bt176.2.2.2.1 bt176.2.2.2.2.1 bt176.2.2.2.2.2.1 bt176.2.2.2.2.2.2.1 bt176.2.2.2.2.2.2.2.1 bt176.2.2.2.2.2.2.2.2.1 bt176.2.2.2.2.2.2.2.2.2.1 bt176.2.2.2.2.2.2.2.2.2.2.1 bt176.2.2.2.2.2.2.2.2.2.2.2.1 bt176.2.2.2.2.2.2.2.2.2.2.2.2.1 bt176.2.2.2.2.2.2.2.2.2.2.2.2.2.1 bt176.2.2.2.2.2.2.2.2.2.2.2.2.2.2 bt195.1 bt195.2.1 bt195.2.2.1 bt195.2.2.2.1 bt195.2.2.2.2.1 bt195.2.2.2.2.2.1 bt195.2.2.2.2.2.2.1 bt195.2.2.2.2.2.2.2.1 bt195.2.2.2.2.2.2.2.2.1 bt195.2.2.2.2.2.2.2.2.2.1 bt195.2.2.2.2.2.2.2.2.2.2.1 bt195.2.2.2.2.2.2.2.2.2.2.2.1 bt195.2.2.2.2.2.2.2.2.2.2.2.2.1 bt195.2.2.2.2.2.2.2.2.2.2.2.2.2.1 bt195.2.2.2.2.2.2.2.2.2.2.2.2.2.2).bind fun t214 => (some t214)))) else (some false))))) else (some false))))))) else (some false)))))) else (some false))))))) = some r := H
 have A5 := Aside0.mk A50; clear A50
 replace H := Option.bind_eq_some_iff.mp H
 obtain ⟨t121, A60, H⟩ := H
 replace H : ((pursuivantlaw27_few.f l3_12).bind fun t124 => ((pursuivantlaw27_short.f a2_4).bind fun t127 => ((pursuivantlaw27_short.f a3_3).bind fun t128 => ((pursuivantlaw27_awake.f k).bind fun t129 => (if t129 = true then ((pursuivantlaw27_short.f a0).bind fun t130 => ((redact_URL.f k t130).bind fun t131 => ((pursuivantlaw27_short.f a0).bind fun t132 => ((pursuivantref27_URL.f k t132).bind fun t133 => (if t131.toList = t133.toList then ((pursuivantlaw27_few.f l1).bind fun t134 => ((redact_Headers.f k t134).bind fun t137 => ((pursuivantlaw27_few.f l1).bind fun t140 => ((pursuivantref27_Headers.f k t140).bind fun t143 => ((pursuivantref09_Same.f k t137 t143).bind fun t146 => (if t146 = true then ((redact_Event.f k a2_0 a2_1 a2_2 a2_3 t127 t118 a2_6 a2_7 a2_8 a2_9 a2_10 a2_11).bind fun bt147 => ((pursuivantref27_Event.f k a2_0 a2_1 a2_2 a2_3 t127 t118 a2_6 a2_7 a2_8 a2_9 a2_10 a2_11).bind fun bt161 => ((pursuivantref18_SameEvent.f k bt147.1 bt147.2.1 bt147.2.2.1 bt147.2.2.2.1 bt147.2.2.2.2.1 bt147.2.2.2.2.2.1 bt147.2.2.2.2.2.2.1 bt147.2.2.2.2.2.2.2.1 bt147.2.2.2.2.2.2.2.2.1 bt147.2.2.2.2.2.2.2.2.2.1 bt147.2.2.2.2.2.2.2.2.2.2.1 bt147.2.2.2.2.2.2.2.2.2.2.2 bt161.1 bt161.2.1 bt161.2.2.1 bt161.2.2.2.1 bt161.2.2.2.2.1 bt161.2.2.2.2.2.1 bt161.2.2.2.2.2.2.1 bt161.2.2.2.2.2.2.2.1 bt161.2.2.2.2.2.2.2.2.1 bt161.2.2.2.2.2.2.2.2.2.1 bt161.2.2.2.2.2.2.2.2.2.2.1 bt161.2.2.2.2.2.2.2.2.2.2.2).bind fun t175 => (if t175 = true then ((redact_Input.f k a3_0 a3_1 a3_2 t128 a3_4 a3_5 a3_6 a3_7 a3_8 t121 a3_10 a3_11 t124 a3_13 a3_14).bind fun bt176 => ((pursuivantref27_Input.f k a3_0 a3_1 a3_2 t128 a3_4 a3_5 a3_6 a3_7 a3_8 t121 a3_10 a3_11 t124 a3_13 a3_14).bind fun bt195 => ((pursuivantref21_SameInput.f k bt176.1 bt176.2.1 bt176.2.2.1 bt176.2.2.2.1 bt176.2.2.2.2.1 bt176.2.2.2.2.2.1 bt176.2.2.2.2.2.2.1 bt176.2.2.2.2.2.2.2.1 bt176.2.2.2.2.2.2.2.2.1 bt176.2.2.2.2.2.2.2.2.2.1 bt176.2.2.2.2.2.2.2.2.2.2.1 bt176.2.2.2.2.2.2.2.2.2.2.2.1 bt176.2.2.2.2.2.2.2.2.2.2.2.2.1 bt176.2.2.2.2.2.2.2.2.2.2.2.2.2.1 bt176.2.2.2.2.2.2.2.2.2.2.2.2.2.2 bt195.1 bt195.2.1 bt195.2.2.1 bt195.2.2.2.1 bt195.2.2.2.2.1 bt195.2.2.2.2.2.1 bt195.2.2.2.2.2.2.1 bt195.2.2.2.2.2.2.2.1 bt195.2.2.2.2.2.2.2.2.1 bt195.2.2.2.2.2.2.2.2.2.1 bt195.2.2.2.2.2.2.2.2.2.2.1 bt195.2.2.2.2.2.2.2.2.2.2.2.1 bt195.2.2.2.2.2.2.2.2.2.2.2.2.1 bt195.2.2.2.2.2.2.2.2.2.2.2.2.2.1 bt195.2.2.2.2.2.2.2.2.2.2.2.2.2.2).bind fun t214 => (some t214)))) else (some false))))) else (some false))))))) else (some false)))))) else (some false)))))) = some r := H
 have A6 := Aside0.mk A60; clear A60
 replace H := Option.bind_eq_some_iff.mp H
 obtain ⟨t124, A70, H⟩ := H
 replace H : ((pursuivantlaw27_short.f a2_4).bind fun t127 => ((pursuivantlaw27_short.f a3_3).bind fun t128 => ((pursuivantlaw27_awake.f k).bind fun t129 => (if t129 = true then ((pursuivantlaw27_short.f a0).bind fun t130 => ((redact_URL.f k t130).bind fun t131 => ((pursuivantlaw27_short.f a0).bind fun t132 => ((pursuivantref27_URL.f k t132).bind fun t133 => (if t131.toList = t133.toList then ((pursuivantlaw27_few.f l1).bind fun t134 => ((redact_Headers.f k t134).bind fun t137 => ((pursuivantlaw27_few.f l1).bind fun t140 => ((pursuivantref27_Headers.f k t140).bind fun t143 => ((pursuivantref09_Same.f k t137 t143).bind fun t146 => (if t146 = true then ((redact_Event.f k a2_0 a2_1 a2_2 a2_3 t127 t118 a2_6 a2_7 a2_8 a2_9 a2_10 a2_11).bind fun bt147 => ((pursuivantref27_Event.f k a2_0 a2_1 a2_2 a2_3 t127 t118 a2_6 a2_7 a2_8 a2_9 a2_10 a2_11).bind fun bt161 => ((pursuivantref18_SameEvent.f k bt147.1 bt147.2.1 bt147.2.2.1 bt147.2.2.2.1 bt147.2.2.2.2.1 bt147.2.2.2.2.2.1 bt147.2.2.2.2.2.2.1 bt147.2.2.2.2.2.2.2.1 bt147.2.2.2.2.2.2.2.2.1 bt147.2.2.2.2.2.2.2.2.2.1 bt147.2.2.2.2.2.2.2.2.2.2.1 bt147.2.2.2.2.2.2.2.2.2.2.2 bt161.1 bt161.2.1 bt161.2.2.1 bt161.2.2.2.1 bt161.2.2.2.2.1 bt161.2.2.2.2.2.1 bt161.2.2.2.2.2.2.1 bt161.2.2.2.2.2.2.2.1 bt161.2.2.2.2.2.2.2.2.1 bt161.2.2.2.2.2.2.2.2.2.1 bt161.2.2.2.2.2.2.2.2.2.2.1 bt161.2.2.2.2.2.2.2.2.2.2.2).bind fun t175 => (if t175 = true then ((redact_Input.f k a3_0 a3_1 a3_2 t128 a3_4 a3_5 a3_6 a3_7 a3_8 t121 a3_10 a3_11 t124 a3_13 a3_14).bind fun bt176 => ((pursuivantref27_Input.f k a3_0 a3_1 a3_2 t128 a3_4 a3_5 a3_6 a3_7 a3_8 t121 a3_10 a3_11 t124 a3_13 a3_14).bind fun bt195 => ((pursuivantref21_SameInput.f k bt176.1 bt176.2.1 bt176.2.2.1 bt176.2.2.2.1 bt176.2.2.2.2.1 bt176.2.2.2.2.2.1 bt176.2.2.2.2.2.2.1 bt176.2.2.2.2.2.2.2.1 bt176.2.2.2.2.2.2.2.2.1 bt176.2.2.2.2.2.2.2.2.2.1 bt176.2.2.2.2.2.2.2.2.2.2.1 bt176.2.2.2.2.2.2.2.2.2.2.2.1 bt176.2.2.2.2.2.2.2.2.2.2.2.2.1 bt176.2.2.2.2.2.2.2.2.2.2.2.2.2.1 bt176.2.2.2.2.2.2.2.2.2.2.2.2.2.2 bt195.1 bt195.2.1 bt195.2.2.1 bt195.2.2.2.1 bt195.2.2.2.2.1 bt195.2.2.2.2.2.1 bt195.2.2.2.2.2.2.1 bt195.2.2.2.2.2.2.2.1 bt195.2.2.2.2.2.2.2.2.1 bt195.2.2.2.2.2.2.2.2.2.1 bt195.2.2.2.2.2.2.2.2.2.2.1 bt195.2.2.2.2.2.2.2.2.2.2.2.1 bt195.2.2.2.2.2.2.2.2.2.2.2.2.1 bt195.2.2.2.2.2.2.2.2.2.2.2.2.2.1 bt195.2.2.2.2.2.2.2.2.2.2.2.2.2.2).bind fun t214 => (some t214)))) else (some false))))) else (some false))))))) else (some false)))))) else (some false))))) = some r := H
 have A7 := Aside0.mk A70; clear A70
 replace H := Option.bind_eq_some_iff.mp H
 obtain ⟨t127, A80, H⟩ := H
 replace H : ((pursuivantlaw27_short.f a3_3).bind fun t128 => ((pursuivantlaw27_awake.f k).bind fun t129 => (if t129 = true then ((pursuivantlaw27_short.f a0).bind fun t130 => ((redact_URL.f k t130).bind fun t131 => ((pursuivantlaw27_short.f a0).bind fun t132 => ((pursuivantref27_URL.f k t132).bind fun t133 => (if t131.toList = t133.toList then ((pursuivantlaw27_few.f l1).bind fun t134 => ((redact_Headers.f k t134).bind fun t137 => ((pursuivantlaw27_few.f l1).bind fun t140 => ((pursuivantref27_Headers.f k t140).bind fun t143 => ((pursuivantref09_Same.f k t137 t143).bind fun t146 => (if t146 = true then ((redact_Event.f k a2_0 a2_1 a2_2 a2_3 t127 t118 a2_6 a2_7 a2_8 a2_9 a2_10 a2_11).bind fun bt147 => ((pursuivantref27_Event.f k a2_0 a2_1 a2_2 a2_3 t127 t118 a2_6 a2_7 a2_8 a2_9 a2_10 a2_11).bind fun bt161 => ((pursuivantref18_SameEvent.f k bt147.1 bt147.2.1 bt147.2.2.1 bt147.2.2.2.1 bt147.2.2.2.2.1 bt147.2.2.2.2.2.1 bt147.2.2.2.2.2.2.1 bt147.2.2.2.2.2.2.2.1 bt147.2.2.2.2.2.2.2.2.1 bt147.2.2.2.2.2.2.2.2.2.1 bt147.2.2.2.2.2.2.2.2.2.2.1 bt147.2.2.2.2.2.2.2.2.2.2.2 bt161.1 bt161.2.1 bt161.2.2.1 bt161.2.2.2.1 bt161.2.2.2.2.1 bt161.2.2.2.2.2.1 bt161.2.2.2.2.2.2.1 bt161.2.2.2.2.2.2.2.1 bt161.2.2.2.2.2.2.2.2.1 bt161.2.2.2.2.2.2.2.2.2.1 bt161.2.2.2.2.2.2.2.2.2.2.1 bt161.2.2.2.2.2.2.2.2.2.2.2).bind fun t175 => (if t175 = true then ((redact_Input.f k a3_0 a3_1 a3_2 t128 a3_4 a3_5 a3_6 a3_7 a3_8 t121 a3_10 a3_11 t124 a3_13 a3_14).bind fun bt176 => ((pursuivantref27_Input.f k a3_0 a3_1 a3_2 t128 a3_4 a3_5 a3_6 a3_7 a3_8 t121 a3_10 a3_11 t124 a3_13 a3_14).bind fun bt195 => ((pursuivantref21_SameInput.f k bt176.1 bt176.2.1 bt176.2.2.1 bt176.2.2.2.1 bt176.2.2.2.2.1 bt176.2.2.2.2.2.1 bt176.2.2.2.2.2.2.1 bt176.2.2.2.2.2.2.2.1 bt176.2.2.2.2.2.2.2.2.1 bt176.2.2.2.2.2.2.2.2.2.1 bt176.2.2.2.2.2.2.2.2.2.2.1 bt176.2.2.2.2.2.2.2.2.2.2.2.1 bt176.2.2.2.2.2.2.2.2.2.2.2.2.1 bt176.2.2.2.2.2.2.2.2.2.2.2.2.2.1 bt176.2.2.2.2.2.2.2.2.2.2.2.2.2.2 bt195.1 bt195.2.1 bt195.2.2.1 bt195.2.2.2.1 bt195.2.2.2.2.1 bt195.2.2.2.2.2.1 bt195.2.2.2.2.2.2.1 bt195.2.2.2.2.2.2.2.1 bt195.2.2.2.2.2.2.2.2.1 bt195.2.2.2.2.2.2.2.2.2.1 bt195.2.2.2.2.2.2.2.2.2.2.1 bt195.2.2.2.2.2.2.2.2.2.2.2.1 bt195.2.2.2.2.2.2.2.2.2.2.2.2.1 bt195.2.2.2.2.2.2.2.2.2.2.2.2.2.1 bt195.2.2.2.2.2.2.2.2.2.2.2.2.2.2).bind fun t214 => (some t214)))) else (some false))))) else (some false))))))) else (some false)))))) else (some false)))) = some r := H
 have A8 := Aside0.mk A80; clear A80
 replace H := Option.bind_eq_some_iff.mp H
 obtain ⟨t128, A90, H⟩ := H
 replace H : ((pursuivantlaw27_awake.f k).bind fun t129 => (if t129 = true then ((pursuivantlaw27_short.f a0).bind fun t130 => ((redact_URL.f k t130).bind fun t131 => ((pursuivantlaw27_short.f a0).bind fun t132 => ((pursuivantref27_URL.f k t132).bind fun t133 => (if t131.toList = t133.toList then ((pursuivantlaw27_few.f l1).bind fun t134 => ((redact_Headers.f k t134).bind fun t137 => ((pursuivantlaw27_few.f l1).bind fun t140 => ((pursuivantref27_Headers.f k t140).bind fun t143 => ((pursuivantref09_Same.f k t137 t143).bind fun t146 => (if t146 = true then ((redact_Event.f k a2_0 a2_1 a2_2 a2_3 t127 t118 a2_6 a2_7 a2_8 a2_9 a2_10 a2_11).bind fun bt147 => ((pursuivantref27_Event.f k a2_0 a2_1 a2_2 a2_3 t127 t118 a2_6 a2_7 a2_8 a2_9 a2_10 a2_11).bind fun bt161 => ((pursuivantref18_SameEvent.f k bt147.1 bt147.2.1 bt147.2.2.1 bt147.2.2.2.1 bt147.2.2.2.2.1 bt147.2.2.2.2.2.1 bt147.2.2.2.2.2.2.1 bt147.2.2.2.2.2.2.2.1 bt147.2.2.2.2.2.2.2.2.1 bt147.2.2.2.2.2.2.2.2.2.1 bt147.2.2.2.2.2.2.2.2.2.2.1 bt147.2.2.2.2.2.2.2.2.2.2.2 bt161.1 bt161.2.1 bt161.2.2.1 bt161.2.2.2.1 bt161.2.2.2.2.1 bt161.2.2.2.2.2.1 bt161.2.2.2.2.2.2.1 bt161.2.2.2.2.2.2.2.1 bt161.2.2.2.2.2.2.2.2.1 bt161.2.2.2.2.2.2.2.2.2.1 bt161.2.2.2.2.2.2.2.2.2.2.1 bt161.2.2.2.2.2.2.2.2.2.2.2).bind fun t175 => (if t175 = true then ((redact_Input.f k a3_0 a3_1 a3_2 t128 a3_4 a3_5 a3_6 a3_7 a3_8 t121 a3_10 a3_11 t124 a3_13 a3_14).bind fun bt176 => ((pursuivantref27_Input.f k a3_0 a3_1 a3_2 t128 a3_4 a3_5 a3_6 a3_7 a3_8 t121 a3_10 a3_11 t124 a3_13 a3_14).bind fun bt195 => ((pursuivantref21_SameInput.f k bt176.1 bt176.2.1 bt176.2.2.1 bt176.2.2.2.1 bt176.2.2.2.2.1 bt176.2.2.2.2.2.1 bt176.2.2.2.2.2.2.1 bt176.2.2.2.2.2.2.2.1 bt176.2.2.2.2.2.2.2.2.1 bt176.2.2.2.2.2.2.2.2.2.1 bt176.2.2.2.2.2.2.2.2.2.2.1 bt176.2.2.2.2.2.2.2.2.2.2.2.1 bt176.2.2.2.2.2.2.2.2.2.2.2.2.1 bt176.2.2.2.2.2.2.2.2.2.2.2.2.2.1 bt176.2.2.2.2.2.2.2.2.2.2.2.2.2.2 bt195.1 bt195.2.1 bt195.2.2.1 bt195.2.2.2.1 bt195.2.2.2.2.1 bt195.2.2.2.2.2.1 bt195.2.2.2.2.2.2.1 bt195.2.2.2.2.2.2.2.1 bt195.2.2.2.2.2.2.2.2.1 bt195.2.2.2.2.2.2.2.2.2.1 bt195.2.2.2.2.2.2.2.2.2.2.1 bt195.2.2.2.2.2.2.2.2.2.2.2.1 bt195.2.2.2.2.2.2.2.2.2.2.2.2.1 bt195.2.2.2.2.2.2.2.2.2.2.2.2.2.1 bt195.2.2.2.2.2.2.2.2.2.2.2.2.2.2).bind fun t214 => (some t214)))) else (some false))))) else (some false))))))) else (some false)))))) else (some false))) = some r := H
 have A9 := Aside0.mk A90; clear A90
 replace H := Option.bind_eq_some_iff.mp H
 obtain ⟨t129, A100, H⟩ := H
 replace H : (if t129 = true then ((pursuivantlaw27_short.f a0).bind fun t130 => ((redact_URL.f k t130).bind fun t131 => ((pursuivantlaw27_short.f a0).bind fun t132 => ((pursuivantref27_URL.f k t132).bind fun t133 => (if t131.toList = t133.toList then ((pursuivantlaw27_few.f l1).bind fun t134 => ((redact_Headers.f k t134).bind fun t137 => ((pursuivantlaw27_few.f l1).bind fun t140 => ((pursuivantref27_Headers.f k t140).bind fun t143 => ((pursuivantref09_Same.f k t137 t143).bind fun t146 => (if t146 = true then ((redact_Event.f k a2_0 a2_1 a2_2 a2_3 t127 t118 a2_6 a2_7 a2_8 a2_9 a2_10 a2_11).bind fun bt147 => ((pursuivantref27_Event.f k a2_0 a2_1 a2_2 a2_3 t127 t118 a2_6 a2_7 a2_8 a2_9 a2_10 a2_11).bind fun bt161 => ((pursuivantref18_SameEvent.f k bt147.1 bt147.2.1 bt147.2.2.1 bt147.2.2.2.1 bt147.2.2.2.2.1 bt147.2.2.2.2.2.1 bt147.2.2.2.2.2.2.1 bt147.2.2.2.2.2.2.2.1 bt147.2.2.2.2.2.2.2.2.1 bt147.2.2.2.2.2.2.2.2.2.1 bt147.2.2.2.2.2.2.2.2.2.2.1 bt147.2.2.2.2.2.2.2.2.2.2.2 bt161.1 bt161.2.1 bt161.2.2.1 bt161.2.2.2.1 bt161.2.2.2.2.1 bt161.2.2.2.2.2.1 bt161.2.2.2.2.2.2.1 bt161.2.2.2.2.2.2.2.1 bt161.2.2.2.2.2.2.2.2.1 bt161.2.2.2.2.2.2.2.2.2.1 bt161.2.2.2.2.2.2.2.2.2.2.1 bt161.2.2.2.2.2.2.2.2.2.2.2).bind fun t175 => (if t175 = true then ((redact_Input.f k a3_0 a3_1 a3_2 t128 a3_4 a3_5 a3_6 a3_7 a3_8 t121 a3_10 a3_11 t124 a3_13 a3_14).bind fun bt176 => ((pursuivantref27_Input.f k a3_0 a3_1 a3_2 t128 a3_4 a3_5 a3_6 a3_7 a3_8 t121 a3_10 a3_11 t124 a3_13 a3_14).bind fun bt195 => ((pursuivantref21_SameInput.f k bt176.1 bt176.2.1 bt176.2.2.1 bt176.2.2.2.1 bt176.2.2.2.2.1 bt176.2.2.2.2.2.1 bt176.2.2.2.2.2.2.1 bt176.2.2.2.2.2.2.2.1 bt176.2.2.2.2.2.2.2.2.1 bt176.2.2.2.2.2.2.2.2.2.1 bt176.2.2.2.2.2.2.2.2.2.2.1 bt176.2.2.2.2.2.2.2.2.2.2.2.1 bt176.2.2.2.2.2.2.2.2.2.2.2.2.1 bt176.2.2.2.2.2.2.2.2.2.2.2.2.2.1 bt176.2.2.2.2.2.2.2.2.2.2.2.2.2.2 bt195.1 bt195.2.1 bt195.2.2.1 bt195.2.2.2.1 bt195.2.2.2.2.1 bt195.2.2.2.2.2.1 bt195.2.2.2.2.2.2.1 bt195.2.2.2.2.2.2.2.1 bt195.2.2.2.2.2.2.2.2.1 bt195.2.2.2.2.2.2.2.2.2.1 bt195.2.2.2.2.2.2.2.2.2.2.1 bt195.2.2.2.2.2.2.2.2.2.2.2.1 bt195.2.2.2.2.2.2.2.2.2.2.2.2.1 bt195.2.2.2.2.2.2.2.2.2.2.2.2.2.1 bt195.2.2.2.2.2.2.2.2.2.2.2.2.2.2).bind fun t214 => (some t214)))) else (some false))))) else (some false))))))) else (some false)))))) else (some false)) = some r := H
 have A10 := Aside0.mk A100; clear A100
 by_cases c11 : t129 = true
 ·subst c11
  have H1 : ((pursuivantlaw27_short.f a0).bind fun t130 => ((redact_URL.f k t130).bind fun t131 => ((pursuivantlaw27_short.f a0).bind fun t132 => ((pursuivantref27_URL.f k t132).bind fun t133 => (if t131.toList = t133.toList then ((pursuivantlaw27_few.f l1).bind fun t134 => ((redact_Headers.f k t134).bind fun t137 => ((pursuivantlaw27_few.f l1).bind fun t140 => ((pursuivantref27_Headers.f k t140).bind fun t143 => ((pursuivantref09_Same.f k t137 t143).bind fun t146 => (if t146 = true then ((redact_Event.f k a2_0 a2_1 a2_2 a2_3 t127 t118 a2_6 a2_7 a2_8 a2_9 a2_10 a2_11).bind fun bt147 => ((pursuivantref27_Event.f k a2_0 a2_1 a2_2 a2_3 t127 t118 a2_6 a2_7 a2_8 a2_9 a2_10 a2_11).bind fun bt161 => ((pursuivantref18_SameEvent.f k bt147.1 bt147.2.1 bt147.2.2.1 bt147.2.2.2.1 bt147.2.2.2.2.1 bt147.2.2.2.2.2.1 bt147.2.2.2.2.2.2.1 bt147.2.2.2.2.2.2.2.1 bt147.2.2.2.2.2.2.2.2.1 bt147.2.2.2.2.2.2.2.2.2.1 bt147.2.2.2.2.2.2.2.2.2.2.1 bt147.2.2.2.2.2.2.2.2.2.2.2 bt161.1 bt161.2.1 bt161.2.2.1 bt161.2.2.2.1 bt161.2.2.2.2.1 bt161.2.2.2.2.2.1 bt161.2.2.2.2.2.2.1 bt161.2.2.2.2.2.2.2.1 bt161.2.2.2.2.2.2.2.2.1 bt161.2.2.2.2.2.2.2.2.2.1 bt161.2.2.2.2.2.2.2.2.2.2.1 bt161.2.2.2.2.2.2.2.2.2.2.2).bind fun t175 => (if t175 = true then ((redact_Input.f k a3_0 a3_1 a3_2 t128 a3_4 a3_5 a3_6 a3_7 a3_8 t121 a3_10 a3_11 t124 a3_13 a3_14).bind fun bt176 => ((pursuivantref27_Input.f k a3_0 a3_1 a3_2 t128 a3_4 a3_5 a3_6 a3_7 a3_8 t121 a3_10 a3_11 t124 a3_13 a3_14).bind fun bt195 => ((pursuivantref21_SameInput.f k bt176.1 bt176.2.1 bt176.2.2.1 bt176.2.2.2.1 bt176.2.2.2.2.1 bt176.2.2.2.2.2.1 bt176.2.2.2.2.2.2.1 bt176.2.2.2.2.2.2.2.1 bt176.2.2.2.2.2.2.2.2.1 bt176.2.2.2.2.2.2.2.2.2.1 bt176.2.2.2.2.2.2.2.2.2.2.1 bt176.2.2.2.2.2.2.2.2.2.2.2.1 bt176.2.2.2.2.2.2.2.2.2.2.2.2.1 bt176.2.2.2.2.2.2.2.2.2.2.2.2.2.1 bt176.2.2.2.2.2.2.2.2.2.2.2.2.2.2 bt195.1 bt195.2.1 bt195.2.2.1 bt195.2.2.2.1 bt195.2.2.2.2.1 bt195.2.2.2.2.2.1 bt195.2.2.2.2.2.2.1 bt195.2.2.2.2.2.2.2.1 bt195.2.2.2.2.2.2.2.2.1 bt195.2.2.2.2.2.2.2.2.2.1 bt195.2.2.2.2.2.2.2.2.2.2.1 bt195.2.2.2.2.2.2.2.2.2.2.2.1 bt195.2.2.2.2.2.2.2.2.2.2.2.2.1 bt195.2.2.2.2.2.2.2.2.2.2.2.2.2.1 bt195.2.2.2.2.2.2.2.2.2.2.2.2.2.2).bind fun t214 => (some t214)))) else (some false))))) else (some false))))))) else (some false)))))) = some r := by rw [if_pos rfl] at H; exact H
  clear H
  have H := H1
  clear H1
  replace H := Option.bind_eq_some_iff.mp H
  obtain ⟨t130, A120, H⟩ := H
  replace H : ((redact_URL.f k t130).bind fun t131 => ((pursuivantlaw27_short.f a0).bind fun t132 => ((pursuivantref27_URL.f k t132).bind fun t133 => (if t131.toList = t133.toList then ((pursuivantlaw27_few.f l1).bind fun t134 => ((redact_Headers.f k t134).bind fun t137 => ((pursuivantlaw27_few.f l1).bind fun t140 => ((pursuivantref27_Headers.f k t140).bind fun t143 => ((pursuivantref09_Same.f k t137 t143).bind fun t146 => (if t146 = true then ((redact_Event.f k a2_0 a2_1 a2_2 a2_3 t127 t118 a2_6 a2_7 a2_8 a2_9 a2_10 a2_11).bind fun bt147 => ((pursuivantref27_Event.f k a2_0 a2_1 a2_2 a2_3 t127 t118 a2_6 a2_7 a2_8 a2_9 a2_10 a2_11).bind fun bt161 => ((pursuivantref18_SameEvent.f k bt147.1 bt147.2.1 bt147.2.2.1 bt147.2.2.2.1 bt147.2.2.2.2.1 bt147.2.2.2.2.2.1 bt147.2.2.2.2.2.2.1 bt147.2.2.2.2.2.2.2.1 bt147.2.2.2.2.2.2.2.2.1 bt147.2.2.2.2.2.2.2.2.2.1 bt147.2.2.2.2.2.2.2.2.2.2.1 bt147.2.2.2.2.2.2.2.2.2.2.2 bt161.1 bt161.2.1 bt161.2.2.1 bt161.2.2.2.1 bt161.2.2.2.2.1 bt161.2.2.2.2.2.1 bt161.2.2.2.2.2.2.1 bt161.2.2.2.2.2.2.2.1 bt161.2.2.2.2.2.2.2.2.1 bt161.2.2.2.2.2.2.2.2.2.1 bt161.2.2.2.2.2.2.2.2.2.2.1 bt161.2.2.2.2.2.2.2.2.2.2.2).bind fun t175 => (if t175 = true then ((redact_Input.f k a3_0 a3_1 a3_2 t128 a3_4 a3_5 a3_6 a3_7 a3_8 t121 a3_10 a3_11 t124 a3_13 a3_14).bind fun bt176 => ((pursuivantref27_Input.f k a3_0 a3_1 a3_2 t128 a3_4 a3_5 a3_6 a3_7 a3_8 t121 a3_10 a3_11 t124 a3_13 a3_14).bind fun bt195 => ((pursuivantref21_SameInput.f k bt176.1 bt176.2.1 bt176.2.2.1 bt176.2.2.2.1 bt176.2.2.2.2.1 bt176.2.2.2.2.2.1 bt176.2.2.2.2.2.2.1 bt176.2.2.2.2.2.2.2.1 bt176.2.2.2.2.2.2.2.2.1 bt176.2.2.2.2.2.2.2.2.2.1 bt176.2.2.2.2.2.2.2.2.2.2.1 bt176.2.2.2.2.2.2.2.2.2.2.2.1 bt176.2.2.2.2.2.2.2.2.2.2.2.2.1 bt176.2.2.2.2.2.2.2.2.2.2.2.2.2.1 bt176.2.2.2.2.2.2.2.2.2.2.2.2.2.2 bt195.1 bt195.2.1 bt195.2.2.1 bt195.2.2.2.1 bt195.2.2.2.2.1 bt195.2.2.2.2.2.1 bt195.2.2.2.2.2.2.1 bt195.2.2.2.2.2.2.2.1 bt195.2.2.2.2.2.2.2.2.1 bt195.2.2.2.2.2.2.2.2.2.1 bt195.2.2.2.2.2.2.2.2.2.2.1 bt195.2.2.2.2.2.2.2.2.2.2.2.1 bt195.2.2.2.2.2.2.2.2.2.2.2.2.1 bt195.2.2.2.2.2.2.2.2.2.2.2.2.2.1 bt195.2.2.2.2.2.2.2.2.2.2.2.2.2.2).bind fun t214 => (some t214)))) else (some false))))) else (some false))))))) else (some false))))) = some r := H
  have A12 := Aside0.mk A120; clear A120
  replace H := Option.bind_eq_some_iff.mp H
  obtain ⟨t131, A130, H⟩ := H
  replace H : ((pursuivantlaw27_short.f a0).bind fun t132 => ((pursuivantref27_URL.f k t132).bind fun t133 => (if t131.toList = t133.toList then ((pursuivantlaw27_few.f l1).bind fun t134 => ((redact_Headers.f k t134).bind fun t137 => ((pursuivantlaw27_few.f l1).bind fun t140 => ((pursuivantref27_Headers.f k t140).bind fun t143 => ((pursuivantref09_Same.f k t137 t143).bind fun t146 => (if t146 = true then ((redact_Event.f k a2_0 a2_1 a2_2 a2_3 t127 t118 a2_6 a2_7 a2_8 a2_9 a2_10 a2_11).bind fun bt147 => ((pursuivantref27_Event.f k a2_0 a2_1 a2_2 a2_3 t127 t118 a2_6 a2_7 a2_8 a2_9 a2_10 a2_11).bind fun bt161 => ((pursuivantref18_SameEvent.f k bt147.1 bt147.2.1 bt147.2.2.1 bt147.2.2.2.1 bt147.2.2.2.2.1 bt147.2.2.2.2.2.1 bt147.2.2.2.2.2.2.1 bt147.2.2.2.2.2.2.2.1 bt147.2.2.2.2.2.2.2.2.1 bt147.2.2.2.2.2.2.2.2.2.1 bt147.2.2.2.2.2.2.2.2.2.2.1 bt147.2.2.2.2.2.2.2.2.2.2.2 bt161.1 bt161.2.1 bt161.2.2.1 bt161.2.2.2.1 bt161.2.2.2.2.1 bt161.2.2.2.2.2.1 bt161.2.2.2.2.2.2.1 bt161.2.2.2.2.2.2.2.1 bt161.2.2.2.2.2.2.2.2.1 bt161.2.2.2.2.2.2.2.2.2.1 bt161.2.2.2.2.2.2.2.2.2.2.1 bt161.2.2.2.2.2.2.2.2.2.2.2).bind fun t175 => (if t175 = true then ((redact_Input.f k a3_0 a3_1 a3_2 t128 a3_4 a3_5 a3_6 a3_7 a3_8 t121 a3_10 a3_11 t124 a3_13 a3_14).bind fun bt176 => ((pursuivantref27_Input.f k a3_0 a3_1 a3_2 t128 a3_4 a3_5 a3_6 a3_7 a3_8 t121 a3_10 a3_11 t124 a3_13 a3_14).bind fun bt195 => ((pursuivantref21_SameInput.f k bt176.1 bt176.2.1 bt176.2.2.1 bt176.2.2.2.1 bt176.2.2.2.2.1 bt176.2.2.2.2.2.1 bt176.2.2.2.2.2.2.1 bt176.2.2.2.2.2.2.2.1 bt176.2.2.2.2.2.2.2.2.1 bt176.2.2.2.2.2.2.2.2.2.1 bt176.2.2.2.2.2.2.2.2.2.2.1 bt176.2.2.2.2.2.2.2.2.2.2.2.1 bt176.2.2.2.2.2.2.2.2.2.2.2.2.1 bt176.2.2.2.2.2.2.2.2.2.2.2.2.2.1 bt176.2.2.2.2.2.2.2.2.2.2.2.2.2.2 bt195.1 bt195.2.1 bt195.2.2.1 bt195.2.2.2.1 bt195.2.2.2.2.1 bt195.2.2.2.2.2.1 bt195.2.2.2.2.2.2.1 bt195.2.2.2.2.2.2.2.1 bt195.2.2.2.2.2.2.2.2.1 bt195.2.2.2.2.2.2.2.2.2.1 bt195.2.2.2.2.2.2.2.2.2.2.1 bt195.2.2.2.2.2.2.2.2.2.2.2.1 bt195.2.2.2.2.2.2.2.2.2.2.2.2.1 bt195.2.2.2.2.2.2.2.2.2.2.2.2.2.1 bt195.2.2.2.2.2.2.2.2.2.2.2.2.2.2).bind fun t214 => (some t214)))) else (some false))))) else (some false))))))) else (some false)))) = some r := H
  have A13 := Aside0.mk A130; clear A130
  replace H := Option.bind_eq_some_iff.mp H
  obtain ⟨t132, A140, H⟩ := H
  replace H : ((pursuivantref27_URL.f k t132).bind fun t133 => (if t131.toList = t133.toList then ((pursuivantlaw27_few.f l1).bind fun t134 => ((redact_Headers.f k t134).bind fun t137 => ((pursuivantlaw27_few.f l1).bind fun t140 => ((pursuivantref27_Headers.f k t140).bind fun t143 => ((pursuivantref09_Same.f k t137 t143).bind fun t146 => (if t146 = true then ((redact_Event.f k a2_0 a2_1 a2_2 a2_3 t127 t118 a2_6 a2_7 a2_8 a2_9 a2_10 a2_11).bind fun bt147 => ((pursuivantref27_Event.f k a2_0 a2_1 a2_2 a2_3 t127 t118 a2_6 a2_7 a2_8 a2_9 a2_10 a2_11).bind fun bt161 => ((pursuivantref18_SameEvent.f k bt147.1 bt147.2.1 bt147.2.2.1 bt147.2.2.2.1 bt147.2.2.2.2.1 bt147.2.2.2.2.2.1 bt147.2.2.2.2.2.2.1 bt147.2.2.2.2.2.2.2.1 bt147.2.2.2.2.2.2.2.2.1 bt147.2.2.2.2.2.2.2.2.2.1 bt147.2.2.2.2.2.2.2.2.2.2.1 bt147.2.2.2.2.2.2.2.2.2.2.2 bt161.1 bt161.2.1 bt161.2.2.1 bt161.2.2.2.1 bt161.2.2.2.2.1 bt161.2.2.2.2.2.1 bt161.2.2.2.2.2.2.1 bt161.2.2.2.2.2.2.2.1 bt161.2.2.2.2.2.2.2.2.1 bt161.2.2.2.2.2.2.2.2.2.1 bt161.2.2.2.2.2.2.2.2.2.2.1 bt161.2.2.2.2.2.2.2.2.2.2.2).bind fun t175 => (if t175 = true then ((redact_Input.f k a3_0 a3_1 a3_2 t128 a3_4 a3_5 a3_6 a3_7 a3_8 t121 a3_10 a3_11 t124 a3_13 a3_14).bind fun bt176 => ((pursuivantref27_Input.f k a3_0 a3_1 a3_2 t128 a3_4 a3_5 a3_6 a3_7 a3_8 t121 a3_10 a3_11 t124 a3_13 a3_14).bind fun bt195 => ((pursuivantref21_SameInput.f k bt176.1 bt176.2.1 bt176.2.2.1 bt176.2.2.2.1 bt176.2.2.2.2.1 bt176.2.2.2.2.2.1 bt176.2.2.2.2.2.2.1 bt176.2.2.2.2.2.2.2.1 bt176.2.2.2.2.2.2.2.2.1 bt176.2.2.2.2.2.2.2.2.2.1 bt176.2.2.2.2.2.2.2.2.2.2.1 bt176.2.2.2.2.2.2.2.2.2.2.2.1 bt176.2.2.2.2.2.2.2.2.2.2.2.2.1 bt176.2.2.2.2.2.2.2.2.2.2.2.2.2.1 bt176.2.2.2.2.2.2.2.2.2.2.2.2.2.2 bt195.1 bt195.2.1 bt195.2.2.1 bt195.2.2.2.1 bt195.2.2.2.2.1 bt195.2.2.2.2.2.1 bt195.2.2.2.2.2.2.1 bt195.2.2.2.2.2.2.2.1 bt195.2.2.2.2.2.2.2.2.1 bt195.2.2.2.2.2.2.2.2.2.1 bt195.2.2.2.2.2.2.2.2.2.2.1 bt195.2.2.2.2.2.2.2.2.2.2.2.1 bt195.2.2.2.2.2.2.2.2.2.2.2.2.1 bt195.2.2.2.2.2.2.2.2.2.2.2.2.2.1 bt195.2.2.2.2.2.2.2.2.2.2.2.2.2.2).bind fun t214 => (some t214)))) else (some false))))) else (some false))))))) else (some false))) = some r := H
  have A14 := Aside0.mk A140; clear A140
  replace H := Option.bind_eq_some_iff.mp H
  obtain ⟨t133, A150, H⟩ := H
  replace H : (if t131.toList = t133.toList then ((pursuivantlaw27_few.f l1).bind fun t134 => ((redact_Headers.f k t134).bind fun t137 => ((pursuivantlaw27_few.f l1).bind fun t140 => ((pursuivantref27_Headers.f k t140).bind fun t143 => ((pursuivantref09_Same.f k t137 t143).bind fun t146 => (if t146 = true then ((redact_Event.f k a2_0 a2_1 a2_2 a2_3 t127 t118 a2_6 a2_7 a2_8 a2_9 a2_10 a2_11).bind fun bt147 => ((pursuivantref27_Event.f k a2_0 a2_1 a2_2 a2_3 t127 t118 a2_6 a2_7 a2_8 a2_9 a2_10 a2_11).bind fun bt161 => ((pursuivantref18_SameEvent.f k bt147.1 bt147.2.1 bt147.2.2.1 bt147.2.2.2.1 bt147.2.2.2.2.1 bt147.2.2.2.2.2.1 bt147.2.2.2.2.2.2.1 bt147.2.2.2.2.2.2.2.1 bt147.2.2.2.2.2.2.2.2.1 bt147.2.2.2.2.2.2.2.2.2.1 bt147.2.2.2.2.2.2.2.2.2.2.1 bt147.2.2.2.2.2.2.2.2.2.2.2 bt161.1 bt161.2.1 bt161.2.2.1 bt161.2.2.2.1 bt161.2.2.2.2.1 bt161.2.2.2.2.2.1 bt161.2.2.2.2.2.2.1 bt161.2.2.2.2.2.2.2.1 bt161.2.2.2.2.2.2.2.2.1 bt161.2.2.2.2.2.2.2.2.2.1 bt161.2.2.2.2.2.2.2.2.2.2.1 bt161.2.2.2.2.2.2.2.2.2.2.2).bind fun t175 => (if t175 = true then ((redact_Input.f k a3_0 a3_1 a3_2 t128 a3_4 a3_5 a3_6 a3_7 a3_8 t121 a3_10 a3_11 t124 a3_13 a3_14).bind fun bt176 => ((pursuivantref27_Input.f k a3_0 a3_1 a3_2 t128 a3_4 a3_5 a3_6 a3_7 a3_8 t121 a3_10 a3_11 t124 a3_13 a3_14).bind fun bt195 => ((pursuivantref21_SameInput.f k bt176.1 bt176.2.1 bt176.2.2.1 bt176.2.2.2.1 bt176.2.2.2.2.1 bt176.2.2.2.2.2.1 bt176.2.2.2.2.2.2.1 bt176.2.2.2.2.2.2.2.1 bt176.2.2.2.2.2.2.2.2.1 bt176.2.2.2.2.2.2.2.2.2.1 bt176.2.2.2.2.2.2.2.2.2.2.1 bt176.2.2.2.2.2.2.2.2.2.2.2.1 bt176.2.2.2.2.2.2.2.2.2.2.2.2.1 bt176.2.2.2.2.2.2.2.2.2.2.2.2.2.1 bt176.2.2.2.2.2.2.2.2.2.2.2.2.2.2 bt195.1 bt195.2.1 bt195.2.2.1 bt195.2.2.2.1 bt195.2.2.2.2.1 bt195.2.2.2.2.2.1 bt195.2.2.2.2.2.2.1 bt195.2.2.2.2.2.2.2.1 bt195.2.2.2.2.2.2.2.2.1 bt195.2.2.2.2.2.2.2.2.2.1 bt195.2.2.2.2.2.2.2.2.2.2.1 bt195.2.2.2.2.2.2.2.2.2.2.2.1 bt195.2.2.2.2.2.2.2.2.2.2.2.2.1 bt195.2.2.2.2.2.2.2.2.2.2.2.2.2.1 bt195.2.2.2.2.2.2.2.2.2.2.2.2.2.2).bind fun t214 => (some t214)))) else (some false))))) else (some false))))))) else (some false)) = some r := H
  have A15 := Aside0.mk A150; clear A150
  by_cases c16 : t131.toList = t133.toList
  ·rw [if_pos c16] at H
   have c16b0 : (t131.toList == t133.toList) = true := beq_iff_eq.mpr c16
   have c16b1 : (t131.toList != t133.toList) = false := bne_eq_false_iff_eq.mpr c16
   clear c16
   replace H := Option.bind_eq_some_iff.mp H
   obtain ⟨t134, A170, H⟩ := H
   replace H : ((redact_Headers.f k t134).bind fun t137 => ((pursuivantlaw27_few.f l1).bind fun t140 => ((pursuivantref27_Headers.f k t140).bind fun t143 => ((pursuivantref09_Same.f k t137 t143).bind fun t146 => (if t146 = true then ((redact_Event.f k a2_0 a2_1 a2_2 a2_3 t127 t118 a2_6 a2_7 a2_8 a2_9 a2_10 a2_11).bind fun bt147 => ((pursuivantref27_Event.f k a2_0 a2_1 a2_2 a2_3 t127 t118 a2_6 a2_7 a2_8 a2_9 a2_10 a2_11).bind fun bt161 => ((pursuivantref18_SameEvent.f k bt147.1 bt147.2.1 bt147.2.2.1 bt147.2.2.2.1 bt147.2.2.2.2.1 bt147.2.2.2.2.2.1 bt147.2.2.2.2.2.2.1 bt147.2.2.2.2.2.2.2.1 bt147.2.2.2.2.2.2.2.2.1 bt147.2.2.2.2.2.2.2.2.2.1 bt147.2.2.2.2.2.2.2.2.2.2.1 bt147.2.2.2.2.2.2.2.2.2.2.2 bt161.1 bt161.2.1 bt161.2.2.1 bt161.2.2.2.1 bt161.2.2.2.2.1 bt161.2.2.2.2.2.1 bt161.2.2.2.2.2.2.1 bt161.2.2.2.2.2.2.2.1 bt161.2.2.2.2.2.2.2.2.1 bt161.2.2.2.2.2.2.2.2.2.1 bt161.2.2.2.2.2.2.2.2.2.2.1 bt161.2.2.2.2.2.2.2.2.2.2.2).bind fun t175 => (if t175 = true then ((redact_Input.f k a3_0 a3_1 a3_2 t128 a3_4 a3_5 a3_6 a3_7 a3_8 t121 a3_10 a3_11 t124 a3_13 a3_14).bind fun bt176 => ((pursuivantref27_Input.f k a3_0 a3_1 a3_2 t128 a3_4 a3_5 a3_6 a3_7 a3_8 t121 a3_10 a3_11 t124 a3_13 a3_14).bind fun bt195 => ((pursuivantref21_SameInput.f k bt176.1 bt176.2.1 bt176.2.2.1 bt176.2.2.2.1 bt176.2.2.2.2.1 bt176.2.2.2.2.2.1 bt176.2.2.2.2.2.2.1 bt176.2.2.2.2.2.2.2.1 bt176.2.2.2.2.2.2.2.2.1 bt176.2.2.2.2.2.2.2.2.2.1 bt176.2.2.2.2.2.2.2.2.2.2.1 bt176.2.2.2.2.2.2.2.2.2.2.2.1 bt176.2.2.2.2.2.2.2.2.2.2.2.2.1 bt176.2.2.2.2.2.2.2.2.2.2.2.2.2.1 bt176.2.2.2.2.2.2.2.2.2.2.2.2.2.2 bt195.1 bt195.2.1 bt195.2.2.1 bt195.2.2.2.1 bt195.2.2.2.2.1 bt195.2.2.2.2.2.1 bt195.2.2.2.2.2.2.1 bt195.2.2.2.2.2.2.2.1 bt195.2.2.2.2.2.2.2.2.1 bt195.2.2.2.2.2.2.2.2.2.1 bt195.2.2.2.2.2.2.2.2.2.2.1 bt195.2.2.2.2.2.2.2.2.2.2.2.1 bt195.2.2.2.2.2.2.2.2.2.2.2.2.1 bt195.2.2.2.2.2.2.2.2.2.2.2.2.2.1 bt195.2.2.2.2.2.2.2.2.2.2.2.2.2.2).bind fun t214 => (some t214)))) else (some false))))) else (some false)))))) = some r := H
   have A17 := Aside0.mk A170; clear A170
   replace H := Option.bind_eq_some_iff.mp H
   obtain ⟨t137, A180, H⟩ := H
   replace H : ((pursuivantlaw27_few.f l1).bind fun t140 => ((pursuivantref27_Headers.f k t140).bind fun t143 => ((pursuivantref09_Same.f k t137 t143).bind fun t146 => (if t146 = true then ((redact_Event.f k a2_0 a2_1 a2_2 a2_3 t127 t118 a2_6 a2_7 a2_8 a2_9 a2_10 a2_11).bind fun bt147 => ((pursuivantref27_Event.f k a2_0 a2_1 a2_2 a2_3 t127 t118 a2_6 a2_7 a2_8 a2_9 a2_10 a2_11).bind fun bt161 => ((pursuivantref18_SameEvent.f k bt147.1 bt147.2.1 bt147.2.2.1 bt147.2.2.2.1 bt147.2.2.2.2.1 bt147.2.2.2.2.2.1 bt147.2.2.2.2.2.2.1 bt147.2.2.2.2.2.2.2.1 bt147.2.2.2.2.2.2.2.2.1 bt147.2.2.2.2.2.2.2.2.2.1 bt147.2.2.2.2.2.2.2.2.2.2.1 bt147.2.2.2.2.2.2.2.2.2.2.2 bt161.1 bt161.2.1 bt161.2.2.1 bt161.2.2.2.1 bt161.2.2.2.2.1 bt161.2.2.2.2.2.1 bt161.2.2.2.2.2.2.1 bt161.2.2.2.2.2.2.2.1 bt161.2.2.2.2.2.2.2.2.1 bt161.2.2.2.2.2.2.2.2.2.1 bt161.2.2.2.2.2.2.2.2.2.2.1 bt161.2.2.2.2.2.2.2.2.2.2.2).bind fun t175 => (if t175 = true then ((redact_Input.f k a3_0 a3_1 a3_2 t128 a3_4 a3_5 a3_6 a3_7 a3_8 t121 a3_10 a3_11 t124 a3_13 a3_14).bind fun bt176 => ((pursuivantref27_Input.f k a3_0 a3_1 a3_2 t128 a3_4 a3_5 a3_6 a3_7 a3_8 t121 a3_10 a3_11 t124 a3_13 a3_14).bind fun bt195 => ((pursuivantref21_SameInput.f k bt176.1 bt176.2.1 bt176.2.2.1 bt176.2.2.2.1 bt176.2.2.2.2.1 bt176.2.2.2.2.2.1 bt176.2.2.2.2.2.2.1 bt176.2.2.2.2.2.2.2.1 bt176.2.2.2.2.2.2.2.2.1 bt176.2.2.2.2.2.2.2.2.2.1 bt176.2.2.2.2.2.2.2.2.2.2.1 bt176.2.2.2.2.2.2.2.2.2.2.2.1 bt176.2.2.2.2.2.2.2.2.2.2.2.2.1 bt176.2.2.2.2.2.2.2.2.2.2.2.2.2.1 bt176.2.2.2.2.2.2.2.2.2.2.2.2.2.2 bt195.1 bt195.2.1 bt195.2.2.1 bt195.2.2.2.1 bt195.2.2.2.2.1 bt195.2.2.2.2.2.1 bt195.2.2.2.2.2.2.1 bt195.2.2.2.2.2.2.2.1 bt195.2.2.2.2.2.2.2.2.1 bt195.2.2.2.2.2.2.2.2.2.1 bt195.2.2.2.2.2.2.2.2.2.2.1 bt195.2.2.2.2.2.2.2.2.2.2.2.1 bt195.2.2.2.2.2.2.2.2.2.2.2.2.1 bt195.2.2.2.2.2.2.2.2.2.2.2.2.2.1 bt195.2.2.2.2.2.2.2.2.2.2.2.2.2.2).bind fun t214 => (some t214)))) else (some false))))) else (some false))))) = some r := H
   have A18 := Aside0.mk A180; clear A180
   replace H := Option.bind_eq_some_iff.mp H
   obtain ⟨t140, A190, H⟩ := H
   replace H : ((pursuivantref27_Headers.f k t140).bind fun t143 => ((pursuivantref09_Same.f k t137 t143).bind fun t146 => (if t146 = true then ((redact_Event.f k a2_0 a2_1 a2_2 a2_3 t127 t118 a2_6 a2_7 a2_8 a2_9 a2_10 a2_11).bind fun bt147 => ((pursuivantref27_Event.f k a2_0 a2_1 a2_2 a2_3 t127 t118 a2_6 a2_7 a2_8 a2_9 a2_10 a2_11).bind fun bt161 => ((pursuivantref18_SameEvent.f k bt147.1 bt147.2.1 bt147.2.2.1 bt147.2.2.2.1 bt147.2.2.2.2.1 bt147.2.2.2.2.2.1 bt147.2.2.2.2.2.2.1 bt147.2.2.2.2.2.2.2.1 bt147.2.2.2.2.2.2.2.2.1 bt147.2.2.2.2.2.2.2.2.2.1 bt147.2.2.2.2.2.2.2.2.2.2.1 bt147.2.2.2.2.2.2.2.2.2.2.2 bt161.1 bt161.2.1 bt161.2.2.1 bt161.2.2.2.1 bt161.2.2.2.2.1 bt161.2.2.2.2.2.1 bt161.2.2.2.2.2.2.1 bt161.2.2.2.2.2.2.2.1 bt161.2.2.2.2.2.2.2.2.1 bt161.2.2.2.2.2.2.2.2.2.1 bt161.2.2.2.2.2.2.2.2.2.2.1 bt161.2.2.2.2.2.2.2.2.2.2.2).bind fun t175 => (if t175 = true then ((redact_Input.f k a3_0 a3_1 a3_2 t128 a3_4 a3_5 a3_6 a3_7 a3_8 t121 a3_10 a3_11 t124 a3_13 a3_14).bind fun bt176 => ((pursuivantref27_Input.f k a3_0 a3_1 a3_2 t128 a3_4 a3_5 a3_6 a3_7 a3_8 t121 a3_10 a3_11 t124 a3_13 a3_14).bind fun bt195 => ((pursuivantref21_SameInput.f k bt176.1 bt176.2.1 bt176.2.2.1 bt176.2.2.2.1 bt176.2.2.2.2.1 bt176.2.2.2.2.2.1 bt176.2.2.2.2.2.2.1 bt176.2.2.2.2.2.2.2.1 bt176.2.2.2.2.2.2.2.2.1 bt176.2.2.2.2.2.2.2.2.2.1 bt176.2.2.2.2.2.2.2.2.2.2.1 bt176.2.2.2.2.2.2.2.2.2.2.2.1 bt176.2.2.2.2.2.2.2.2.2.2.2.2.1 bt176.2.2.2.2.2.2.2.2.2.2.2.2.2.1 bt176.2.2.2.2.2.2.2.2.2.2.2.2.2.2 bt195.1 bt195.2.1 bt195.2.2.1 bt195.2.2.2.1 bt195.2.2.2.2.1 bt195.2.2.2.2.2.1 bt195.2.2.2.2.2.2.1 bt195.2.2.2.2.2.2.2.1 bt195.2.2.2.2.2.2.2.2.1 bt195.2.2.2.2.2.2.2.2.2.1 bt195.2.2.2.2.2.2.2.2.2.2.1 bt195.2.2.2.2.2.2.2.2.2.2.2.1 bt195.2.2.2.2.2.2.2.2.2.2.2.2.1 bt195.2.2.2.2.2.2.2.2.2.2.2.2.2.1 bt195.2.2.2.2.2.2.2.2.2.2.2.2.2.2).bind fun t214 => (some t214)))) else (some false))))) else (some false)))) = some r := H
   have A19 := Aside0.mk A190; clear A190
   replace H := Option.bind_eq_some_iff.mp H
   obtain ⟨t143, A200, H⟩ := H
   replace H : ((pursuivantref09_Same.f k t137 t143).bind fun t146 => (if t146 = true then ((redact_Event.f k a2_0 a2_1 a2_2 a2_3 t127 t118 a2_6 a2_7 a2_8 a2_9 a2_10 a2_11).bind fun bt147 => ((pursuivantref27_Event.f k a2_0 a2_1 a2_2 a2_3 t127 t118 a2_6 a2_7 a2_8 a2_9 a2_10 a2_11).bind fun bt161 => ((pursuivantref18_SameEvent.f k bt147.1 bt147.2.1 bt147.2.2.1 bt147.2.2.2.1 bt147.2.2.2.2.1 bt147.2.2.2.2.2.1 bt147.2.2.2.2.2.2.1 bt147.2.2.2.2.2.2.2.1 bt147.2.2.2.2.2.2.2.2.1 bt147.2.2.2.2.2.2.2.2.2.1 bt147.2.2.2.2.2.2.2.2.2.2.1 bt147.2.2.2.2.2.2.2.2.2.2.2 bt161.1 bt161.2.1 bt161.2.2.1 bt161.2.2.2.1 bt161.2.2.2.2.1 bt161.2.2.2.2.2.1 bt161.2.2.2.2.2.2.1 bt161.2.2.2.2.2.2.2.1 bt161.2.2.2.2.2.2.2.2.1 bt161.2.2.2.2.2.2.2.2.2.1 bt161.2.2.2.2.2.2.2.2.2.2.1 bt161.2.2.2.2.2.2.2.2.2.2.2).bind fun t175 => (if t175 = true then ((redact_Input.f k a3_0 a3_1 a3_2 t128 a3_4 a3_5 a3_6 a3_7 a3_8 t121 a3_10 a3_11 t124 a3_13 a3_14).bind fun bt176 => ((pursuivantref27_Input.f k a3_0 a3_1 a3_2 t128 a3_4 a3_5 a3_6 a3_7 a3_8 t121 a3_10 a3_11 t124 a3_13 a3_14).bind fun bt195 => ((pursuivantref21_SameInput.f k bt176.1 bt176.2.1 bt176.2.2.1 bt176.2.2.2.1 bt176.2.2.2.2.1 bt176.2.2.2.2.2.1 bt176.2.2.2.2.2.2.1 bt176.2.2.2.2.2.2.2.1 bt176.2.2.2.2.2.2.2.2.1 bt176.2.2.2.2.2.2.2.2.2.1 bt176.2.2.2.2.2.2.2.2.2.2.1 bt176.2.2.2.2.2.2.2.2.2.2.2.1 bt176.2.2.2.2.2.2.2.2.2.2.2.2.1 bt176.2.2.2.2.2.2.2.2.2.2.2.2.2.1 bt176.2.2.2.2.2.2.2.2.2.2.2.2.2.2 bt195.1 bt195.2.1 bt195.2.2.1 bt195.2.2.2.1 bt195.2.2.2.2.1 bt195.2.2.2.2.2.1 bt195.2.2.2.2.2.2.1 bt195.2.2.2.2.2.2.2.1 bt195.2.2.2.2.2.2.2.2.1 bt195.2.2.2.2.2.2.2.2.2.1 bt195.2.2.2.2.2.2.2.2.2.2.1 bt195.2.2.2.2.2.2.2.2.2.2.2.1 bt195.2.2.2.2.2.2.2.2.2.2.2.2.1 bt195.2.2.2.2.2.2.2.2.2.2.2.2.2.1 bt195.2.2.2.2.2.2.2.2.2.2.2.2.2.2).bind fun t214 => (some t214)))) else (some false))))) else (some false))) = some r := H
   have A20 := Aside0.mk A200; clear A200
   replace H := Option.bind_eq_some_iff.mp H
   obtain ⟨t146, A210, H⟩ := H
   replace H : (if t146 = true then ((redact_Event.f k a2_0 a2_1 a2_2 a2_3 t127 t118 a2_6 a2_7 a2_8 a2_9 a2_10 a2_11).bind fun bt147 => ((pursuivantref27_Event.f k a2_0 a2_1 a2_2 a2_3 t127 t118 a2_6 a2_7 a2_8 a2_9 a2_10 a2_11).bind fun bt161 => ((pursuivantref18_SameEvent.f k bt147.1 bt147.2.1 bt147.2.2.1 bt147.2.2.2.1 bt147.2.2.2.2.1 bt147.2.2.2.2.2.1 bt147.2.2.2.2.2.2.1 bt147.2.2.2.2.2.2.2.1 bt147.2.2.2.2.2.2.2.2.1 bt147.2.2.2.2.2.2.2.2.2.1 bt147.2.2.2.2.2.2.2.2.2.2.1 bt147.2.2.2.2.2.2.2.2.2.2.2 bt161.1 bt161.2.1 bt161.2.2.1 bt161.2.2.2.1 bt161.2.2.2.2.1 bt161.2.2.2.2.2.1 bt161.2.2.2.2.2.2.1 bt161.2.2.2.2.2.2.2.1 bt161.2.2.2.2.2.2.2.2.1 bt161.2.2.2.2.2.2.2.2.2.1 bt161.2.2.2.2.2.2.2.2.2.2.1 bt161.2.2.2.2.2.2.2.2.2.2.2).bind fun t175 => (if t175 = true then ((redact_Input.f k a3_0 a3_1 a3_2 t128 a3_4 a3_5 a3_6 a3_7 a3_8 t121 a3_10 a3_11 t124 a3_13 a3_14).bind fun bt176 => ((pursuivantref27_Input.f k a3_0 a3_1 a3_2 t128 a3_4 a3_5 a3_6 a3_7 a3_8 t121 a3_10 a3_11 t124 a3_13 a3_14).bind fun bt195 => ((pursuivantref21_SameInput.f k bt176.1 bt176.2.1 bt176.2.2.1 bt176.2.2.2.1 bt176.2.2.2.2.1 bt176.2.2.2.2.2.1 bt176.2.2.2.2.2.2.1 bt176.2.2.2.2.2.2.2.1 bt176.2.2.2.2.2.2.2.2.1 bt176.2.2.2.2.2.2.2.2.2.1 bt176.2.2.2.2.2.2.2.2.2.2.1 bt176.2.2.2.2.2.2.2.2.2.2.2.1 bt176.2.2.2.2.2.2.2.2.2.2.2.2.1 bt176.2.2.2.2.2.2.2.2.2.2.2.2.2.1 bt176.2.2.2.2.2.2.2.2.2.2.2.2.2.2 bt195.1 bt195.2.1 bt195.2.2.1 bt195.2.2.2.1 bt195.2.2.2.2.1 bt195.2.2.2.2.2.1 bt195.2.2.2.2.2.2.1 bt195.2.2.2.2.2.2.2.1 bt195.2.2.2.2.2.2.2.2.1 bt195.2.2.2.2.2.2.2.2.2.1 bt195.2.2.2.2.2.2.2.2.2.2.1 bt195.2.2.2.2.2.2.2.2.2.2.2.1 bt195.2.2.2.2.2.2.2.2.2.2.2.2.1 bt195.2.2.2.2.2.2.2.2.2.2.2.2.2.1 bt195.2.2.2.2.2.2.2.2.2.2.2.2.2.2).bind fun t214 => (some t214)))) else (some false))))) else (some false)) = some r := H
   have A21 := Aside0.mk A210; clear A210
   by_cases c22 : t146 = true
   ·subst c22
    have H1 : ((redact_Event.f k a2_0 a2_1 a2_2 a2_3 t127 t118 a2_6 a2_7 a2_8 a2_9 a2_10 a2_11).bind fun bt147 => ((pursuivantref27_Event.f k a2_0 a2_1 a2_2 a2_3 t127 t118 a2_6 a2_7 a2_8 a2_9 a2_10 a2_11).bind fun bt161 => ((pursuivantref18_SameEvent.f k bt147.1 bt147.2.1 bt147.2.2.1 bt147.2.2.2.1 bt147.2.2.2.2.1 bt147.2.2.2.2.2.1 bt147.2.2.2.2.2.2.1 bt147.2.2.2.2.2.2.2.1 bt147.2.2.2.2.2.2.2.2.1 bt147.2.2.2.2.2.2.2.2.2.1 bt147.2.2.2.2.2.2.2.2.2.2.1 bt147.2.2.2.2.2.2.2.2.2.2.2 bt161.1 bt161.2.1 bt161.2.2.1 bt161.2.2.2.1 bt161.2.2.2.2.1 bt161.2.2.2.2.2.1 bt161.2.2.2.2.2.2.1 bt161.2.2.2.2.2.2.2.1 bt161.2.2.2.2.2.2.2.2.1 bt161.2.2.2.2.2.2.2.2.2.1 bt161.2.2.2.2.2.2.2.2.2.2.1 bt161.2.2.2.2.2.2.2.2.2.2.2).bind fun t175 => (if t175 = true then ((redact_Input.f k a3_0 a3_1 a3_2 t128 a3_4 a3_5 a3_6 a3_7 a3_8 t121 a3_10 a3_11 t124 a3_13 a3_14).bind fun bt176 => ((pursuivantref27_Input.f k a3_0 a3_1 a3_2 t128 a3_4 a3_5 a3_6 a3_7 a3_8 t121 a3_10 a3_11 t124 a3_13 a3_14).bind fun bt195 => ((pursuivantref21_SameInput.f k bt176.1 bt176.2.1 bt176.2.2.1 bt176.2.2.2.1 bt176.2.2.2.2.1 bt176.2.2.2.2.2.1 bt176.2.2.2.2.2.2.1 bt176.2.2.2.2.2.2.2.1 bt176.2.2.2.2.2.2.2.2.1 bt176.2.2.2.2.2.2.2.2.2.1 bt176.2.2.2.2.2.2.2.2.2.2.1 bt176.2.2.2.2.2.2.2.2.2.2.2.1 bt176.2.2.2.2.2.2.2.2.2.2.2.2.1 bt176.2.2.2.2.2.2.2.2.2.2.2.2.2.1 bt176.2.2.2.2.2.2.2.2.2.2.2.2.2.2 bt195.1 bt195.2.1 bt195.2.2.1 bt195.2.2.2.1 bt195.2.2.2.2.1 bt195.2.2.2.2.2.1 bt195.2.2.2.2.2.2.1 bt195.2.2.2.2.2.2.2.1 bt195.2.2.2.2.2.2.2.2.1 bt195.2.2.2.2.2.2.2.2.2.1 bt195.2.2.2.2.2.2.2.2.2.2.1 bt195.2.2.2.2.2.2.2.2.2.2.2.1 bt195.2.2.2.2.2.2.2.2.2.2.2.2.1 bt195.2.2.2.2.2.2.2.2.2.2.2.2.2.1 bt195.2.2.2.2.2.2.2.2.2.2.2.2.2.2).bind fun t214 => (some t214)))) else (some false))))) = some r := by rw [if_pos rfl] at H; exact H
    clear H
    have H := H1
    clear H1
    replace H := Option.bind_eq_some_iff.mp H
    obtain ⟨⟨t147, t148, t149, t150, t151, t152, t155, t156, t157, t158, t159, t160⟩, A230, H⟩ := H
    replace H : ((pursuivantref27_Event.f k a2_0 a2_1 a2_2 a2_3 t127 t118 a2_6 a2_7 a2_8 a2_9 a2_10 a2_11).bind fun bt161 => ((pursuivantref18_SameEvent.f k t147 t148 t149 t150 t151 t152 t155 t156 t157 t158 t159 t160 bt161.1 bt161.2.1 bt161.2.2.1 bt161.2.2.2.1 bt161.2.2.2.2.1 bt161.2.2.2.2.2.1 bt161.2.2.2.2.2.2.1 bt161.2.2.2.2.2.2.2.1 bt161.2.2.2.2.2.2.2.2.1 bt161.2.2.2.2.2.2.2.2.2.1 bt161.2.2.2.2.2.2.2.2.2.2.1 bt161.2.2.2.2.2.2.2.2.2.2.2).bind fun t175 => (if t175 = true then ((redact_Input.f k a3_0 a3_1 a3_2 t128 a3_4 a3_5 a3_6 a3_7 a3_8 t121 a3_10 a3_11 t124 a3_13 a3_14).bind fun bt176 => ((pursuivantref27_Input.f k a3_0 a3_1 a3_2 t128 a3_4 a3_5 a3_6 a3_7 a3_8 t121 a3_10 a3_11 t124 a3_13 a3_14).bind fun bt195 => ((pursuivantref21_SameInput.f k bt176.1 bt176.2.1 bt176.2.2.1 bt176.2.2.2.1 bt176.2.2.2.2.1 bt176.2.2.2.2.2.1 bt176.2.2.2.2.2.2.1 bt176.2.2.2.2.2.2.2.1 bt176.2.2.2.2.2.2.2.2.1 bt176.2.2.2.2.2.2.2.2.2.1 bt176.2.2.2.2.2.2.2.2.2.2.1 bt176.2.2.2.2.2.2.2.2.2.2.2.1 bt176.2.2.2.2.2.2.2.2.2.2.2.2.1 bt176.2.2.2.2.2.2.2.2.2.2.2.2.2.1 bt176.2.2.2.2.2.2.2.2.2.2.2.2.2.2 bt195.1 bt195.2.1 bt195.2.2.1 bt195.2.2.2.1 bt195.2.2.2.2.1 bt195.2.2.2.2.2.1 bt195.2.2.2.2.2.2.1 bt195.2.2.2.2.2.2.2.1 bt195.2.2.2.2.2.2.2.2.1 bt195.2.2.2.2.2.2.2.2.2.1 bt195.2.2.2.2.2.2.2.2.2.2.1 bt195.2.2.2.2.2.2.2.2.2.2.2.1 bt195.2.2.2.2.2.2.2.2.2.2.2.2.1 bt195.2.2.2.2.2.2.2.2.2.2.2.2.2.1 bt195.2.2.2.2.2.2.2.2.2.2.2.2.2.2).bind fun t214 => (some t214)))) else (some false)))) = some r := H
    have A23 := Aside0.mk A230; clear A230
    replace H := Option.bind_eq_some_iff.mp H
    obtain ⟨⟨t161, t162, t163, t164, t165, t166, t169, t170, t171, t172, t173, t174⟩, A240, H⟩ := H
    replace H : ((pursuivantref18_SameEvent.f k t147 t148 t149 t150 t151 t152 t155 t156 t157 t158 t159 t160 t161 t162 t163 t164 t165 t166 t169 t170 t171 t172 t173 t174).bind fun t175 => (if t175 = true then ((redact_Input.f k a3_0 a3_1 a3_2 t128 a3_4 a3_5 a3_6 a3_7 a3_8 t121 a3_10 a3_11 t124 a3_13 a3_14).bind fun bt176 => ((pursuivantref27_Input.f k a3_0 a3_1 a3_2 t128 a3_4 a3_5 a3_6 a3_7 a3_8 t121 a3_10 a3_11 t124 a3_13 a3_14).bind fun bt195 => ((pursuivantref21_SameInput.f k bt176.1 bt176.2.1 bt176.2.2.1 bt176.2.2.2.1 bt176.2.2.2.2.1 bt176.2.2.2.2.2.1 bt176.2.2.2.2.2.2.1 bt176.2.2.2.2.2.2.2.1 bt176.2.2.2.2.2.2.2.2.1 bt176.2.2.2.2.2.2.2.2.2.1 bt176.2.2.2.2.2.2.2.2.2.2.1 bt176.2.2.2.2.2.2.2.2.2.2.2.1 bt176.2.2.2.2.2.2.2.2.2.2.2.2.1 bt176.2.2.2.2.2.2.2.2.2.2.2.2.2.1 bt176.2.2.2.2.2.2.2.2.2.2.2.2.2.2 bt195.1 bt195.2.1 bt195.2.2.1 bt195.2.2.2.1 bt195.2.2.2.2.1 bt195.2.2.2.2.2.1 bt195.2.2.2.2.2.2.1 bt195.2.2.2.2.2.2.2.1 bt195.2.2.2.2.2.2.2.2.1 bt195.2.2.2.2.2.2.2.2.2.1 bt195.2.2.2.2.2.2.2.2.2.2.1 bt195.2.2.2.2.2.2.2.2.2.2.2.1 bt195.2.2.2.2.2.2.2.2.2.2.2.2.1 bt195.2.2.2.2.2.2.2.2.2.2.2.2.2.1 bt195.2.2.2.2.2.2.2.2.2.2.2.2.2.2).bind fun t214 => (some t214)))) else (some false))) = some r := H
    have A24 := Aside0.mk A240; clear A240
    replace H := Option.bind_eq_some_iff.mp H
    obtain ⟨t175, A250, H⟩ := H
    replace H : (if t175 = true then ((redact_Input.f k a3_0 a3_1 a3_2 t128 a3_4 a3_5 a3_6 a3_7 a3_8 t121 a3_10 a3_11 t124 a3_13 a3_14).bind fun bt176 => ((pursuivantref27_Input.f k a3_0 a3_1 a3_2 t128 a3_4 a3_5 a3_6 a3_7 a3_8 t121 a3_10 a3_11 t124 a3_13 a3_14).bind fun bt195 => ((pursuivantref21_SameInput.f k bt176.1 bt176.2.1 bt176.2.2.1 bt176.2.2.2.1 bt176.2.2.2.2.1 bt176.2.2.2.2.2.1 bt176.2.2.2.2.2.2.1 bt176.2.2.2.2.2.2.2.1 bt176.2.2.2.2.2.2.2.2.1 bt176.2.2.2.2.2.2.2.2.2.1 bt176.2.2.2.2.2.2.2.2.2.2.1 bt176.2.2.2.2.2.2.2.2.2.2.2.1 bt176.2.2.2.2.2.2.2.2.2.2.2.2.1 bt176.2.2.2.2.2.2.2.2.2.2.2.2.2.1 bt176.2.2.2.2.2.2.2.2.2.2.2.2.2.2 bt195.1 bt195.2.1 bt195.2.2.1 bt195.2.2.2.1 bt195.2.2.2.2.1 bt195.2.2.2.2.2.1 bt195.2.2.2.2.2.2.1 bt195.2.2.2.2.2.2.2.1 bt195.2.2.2.2.2.2.2.2.1 bt195.2.2.2.2.2.2.2.2.2.1 bt195.2.2.2.2.2.2.2.2.2.2.1 bt195.2.2.2.2.2.2.2.2.2.2.2.1 bt195.2.2.2.2.2.2.2.2.2.2.2.2.1 bt195.2.2.2.2.2.2.2.2.2.2.2.2.2.1 bt195.2.2.2.2.2.2.2.2.2.2.2.2.2.2).bind fun t214 => (some t214)))) else (some false)) = some r := H
    have A25 := Aside0.mk A250; clear A250
    by_cases c26 : t175 = true
    ·subst c26
     have H1 : ((redact_Input.f k a3_0 a3_1 a3_2 t128 a3_4 a3_5 a3_6 a3_7 a3_8 t121 a3_10 a3_11 t124 a3_13 a3_14).bind fun bt176 => ((pursuivantref27_Input.f k a3_0 a3_1 a3_2 t128 a3_4 a3_5 a3_6 a3_7 a3_8 t121 a3_10 a3_11 t124 a3_13 a3_14).bind fun bt195 => ((pursuivantref21_SameInput.f k bt176.1 bt176.2.1 bt176.2.2.1 bt176.2.2.2.1 bt176.2.2.2.2.1 bt176.2.2.2.2.2.1 bt176.2.2.2.2.2.2.1 bt176.2.2.2.2.2.2.2.1 bt176.2.2.2.2.2.2.2.2.1 bt176.2.2.2.2.2.2.2.2.2.1 bt176.2.2.2.2.2.2.2.2.2.2.1 bt176.2.2.2.2.2.2.2.2.2.2.2.1 bt176.2.2.2.2.2.2.2.2.2.2.2.2.1 bt176.2.2.2.2.2.2.2.2.2.2.2.2.2.1 bt176.2.2.2.2.2.2.2.2.2.2.2.2.2.2 bt195.1 bt195.2.1 bt195.2.2.1 bt195.2.2.2.1 bt195.2.2.2.2.1 bt195.2.2.2.2.2.1 bt195.2.2.2.2.2.2.1 bt195.2.2.2.2.2.2.2.1 bt195.2.2.2.2.2.2.2.2.1 bt195.2.2.2.2.2.2.2.2.2.1 bt195.2.2.2.2.2.2.2.2.2.2.1 bt195.2.2.2.2.2.2.2.2.2.2.2.1 bt195.2.2.2.2.2.2.2.2.2.2.2.2.1 bt195.2.2.2.2.2.2.2.2.2.2.2.2.2.1 bt195.2.2.2.2.2.2.2.2.2.2.2.2.2.2).bind fun t214 => (some t214)))) = some r := by rw [if_pos rfl] at H; exact H
     clear H
     have H := H1
     clear H1
     replace H := Option.bind_eq_some_iff.mp H
     obtain ⟨⟨t176, t177, t178, t179, t180, t181, t182, t183, t184, t185, t188, t189, t190, t193, t194⟩, A270, H⟩ := H
     replace H : ((pursuivantref27_Input.f k a3_0 a3_1 a3_2 t128 a3_4 a3_5 a3_6 a3_7 a3_8 t121 a3_10 a3_11 t124 a3_13 a3_14).bind fun bt195 => ((pursuivantref21_SameInput.f k t176 t177 t178 t179 t180 t181 t182 t183 t184 t185 t188 t189 t190 t193 t194 bt195.1 bt195.2.1 bt195.2.2.1 bt195.2.2.2.1 bt195.2.2.2.2.1 bt195.2.2.2.2.2.1 bt195.2.2.2.2.2.2.1 bt195.2.2.2.2.2.2.2.1 bt195.2.2.2.2.2.2.2.2.1 bt195.2.2.2.2.2.2.2.2.2.1 bt195.2.2.2.2.2.2.2.2.2.2.1 bt195.2.2.2.2.2.2.2.2.2.2.2.1 bt195.2.2.2.2.2.2.2.2.2.2.2.2.1 bt195.2.2.2.2.2.2.2.2.2.2.2.2.2.1 bt195.2.2.2.2.2.2.2.2.2.2.2.2.2.2).bind fun t214 => (some t214))) = some r := H
     have A27 := Aside0.mk A270; clear A270
     replace H := Option.bind_eq_some_iff.mp H
     obtain ⟨⟨t195, t196, t197, t198, t199, t200, t201, t202, t203, t204, t207, t208, t209, t212, t213⟩, A280, H⟩ := H
     replace H : ((pursuivantref21_SameInput.f k t176 t177 t178 t179 t180 t181 t182 t183 t184 t185 t188 t189 t190 t193 t194 t195 t196 t197 t198 t199 t200 t201 t202 t203 t204 t207 t208 t209 t212 t213).bind fun t214 => (some t214)) = some r := H
     have A28 := Aside0.mk A280; clear A280
     replace H := Option.bind_eq_some_iff.mp H
     obtain ⟨t214, A290, H⟩ := H
     replace H : (some t214) = some r := H
     have A29 := Aside0.mk A290; clear A290
     obtain rfl := Option.some.inj H
     go_enter Tryz.func5, Tryz.ntmps5
     try go_wp2_with (first | ((with_reducible refine gate_dst (N := 6) rfl ?_); refine box_event ?hg (N := 6) ?hd (cs := #[.int .i64 a2_0, .int .i64 a2_1, .int .i64 a2_2, .string a2_3, .string a2_4, .slice A2_5 l2_5.length c2_5, .string a2_6, .int .i64 a2_7, .int .i64 a2_8, .bool a2_9, .string a2_10, .int .u64 a2_11]) (t := 36) ?hr ?_; (case hd => rfl); (case hg => rfl); (case hr => first | (go_simp; done) | (go_simp; rfl)); intro gb116 hg w30 hbox hb; have n0_ := Aside0.mk (below_step z23_ hb); have n1_ := Aside0.mk (hbox); have n2_ := Aside0.mk ((by rw [hg]; exact (below_size z23_) : w.heap.size ≤ gb116)); have n3_ := Aside0.mk ((by rw [hg]; exact (below_size z23_) : w.heap.size ≤ gb116)); clear HB; have HB := n0_; have BK116 := n1_; have GW116 := n2_; have GE116 := n3_; clear n0_ n1_ n2_ n3_; clear hb hbox hg) | ((with_reducible refine gate_dst (N := 7) rfl ?_); refine box_event ?hg (N := 7) ?hd (cs := #[.int .i64 a3_0, .int .i64 a3_1, .string a3_2, .string a3_3, .int .i64 a3_4, .int .i64 a3_5, .int .i64 a3_6, .int .i64 a3_7, .string a3_8, .slice A3_9 l3_9.length c3_9, .string a3_10, .int .i64 a3_11, .slice A3_12 l3_12.length c3_12, .string a3_13, .int .u64 a3_14]) (t := 42) ?hr ?_; (case hd => rfl); (case hg => rfl); (case hr => first | (go_simp; done) | (go_simp; rfl)); intro gb117 hg w31 hbox hb; have n0_ := Aside0.mk (blk_below (g := gb116) (o := .cells #[.int .i64 a2_0, .int .i64 a2_1, .int .i64 a2_2, .string a2_3, .string a2_4, .slice A2_5 l2_5.length c2_5, .string a2_6, .int .i64 a2_7, .int .i64 a2_8, .bool a2_9, .string a2_10, .int .u64 a2_11] 36 (0, 0)) z38_ hb); have n1_ := Aside0.mk (below_step z19_ hb); have n2_ := Aside0.mk (hbox); have n3_ := Aside0.mk ((by rw [hg]; exact (below_size z19_) : w.heap.size ≤ gb117)); have n4_ := Aside0.mk ((by rw [hg]; exact (below_size z19_) : w.heap.size ≤ gb117)); have n5_ := Aside0.mk ((by rw [hg]; exact Nat.ne_of_lt (blk_lt (g := gb116) (o := .cells #[.int .i64 a2_0, .int .i64 a2_1, .int .i64 a2_2, .string a2_3, .string a2_4, .slice A2_5 l2_5.length c2_5, .string a2_6, .int .i64 a2_7, .int .i64 a2_8, .bool a2_9, .string a2_10, .int .u64 a2_11] 36 (0, 0)) z38_) : gb116 ≠ gb117)); have n6_ := Aside0.mk ((by rw [hg]; exact Nat.ne_of_gt (blk_lt (g := gb116) (o := .cells #[.int .i64 a2_0, .int .i64 a2_1, .int .i64 a2_2, .string a2_3, .string a2_4, .slice A2_5 l2_5.length c2_5, .string a2_6, .int .i64 a2_7, .int .i64 a2_8, .bool a2_9, .string a2_10, .int .u64 a2_11] 36 (0, 0)) z38_) : gb117 ≠ gb116)); clear BK116; clear HB; have BK116 := n0_; have HB := n1_; have BK117 := n2_; have GW117 := n3_; have GE117 := n4_; have NB116_117 := n5_; have NB117_116 := n6_; clear n0_ n1_ n2_ n3_ n4_ n5_ n6_; clear hb hbox hg))
     have n0_ := Aside0.mk (blk_drew BK116.out)
     have n1_ := Aside0.mk (blk_drew BK117.out)
     have n2_ := Aside0.mk (below_drew1 HB.out)
     clear BK116; clear BK117; clear HB
     have BK116 := n0_
     have BK117 := n1_
     have HB := n2_
     clear n0_ n1_ n2_
     refine start_ (n := 19) (S := fun w' => w'.cell? ⟨gb116, 0, none⟩ = some (.int .i64 a2_0) ∧ w'.cell? ⟨gb116, 1, none⟩ = some (.int .i64 a2_1) ∧ w'.cell? ⟨gb116, 2, none⟩ = some (.int .i64 a2_2) ∧ w'.cell? ⟨gb116, 3, none⟩ = some (.string a2_3) ∧ w'.cell? ⟨gb116, 4, none⟩ = some (.string a2_4) ∧ w'.cell? ⟨gb116, 5, none⟩ = some (.slice A2_5 l2_5.length c2_5) ∧ w'.cell? ⟨gb116, 6, none⟩ = some (.string a2_6) ∧ w'.cell? ⟨gb116, 7, none⟩ = some (.int .i64 a2_7) ∧ w'.cell? ⟨gb116, 8, none⟩ = some (.int .i64 a2_8) ∧ w'.cell? ⟨gb116, 9, none⟩ = some (.bool a2_9) ∧ w'.cell? ⟨gb116, 10, none⟩ = some (.string a2_10) ∧ w'.cell? ⟨gb116, 11, none⟩ = some (.int .u64 a2_11) ∧ w'.cell? ⟨gb117, 0, none⟩ = some (.int .i64 a3_0) ∧ w'.cell? ⟨gb117, 1, none⟩ = some (.int .i64 a3_1) ∧ w'.cell? ⟨gb117, 2, none⟩ = some (.string a3_2) ∧ w'.cell? ⟨gb117, 3, none⟩ = some (.string a3_3) ∧ w'.cell? ⟨gb117, 4, none⟩ = some (.int .i64 a3_4) ∧ w'.cell? ⟨gb117, 5, none⟩ = some (.int .i64 a3_5) ∧ w'.cell? ⟨gb117, 6, none⟩ = some (.int .i64 a3_6) ∧ w'.cell? ⟨gb117, 7, none⟩ = some (.int .i64 a3_7) ∧ w'.cell? ⟨gb117, 8, none⟩ = some (.string a3_8) ∧ w'.cell? ⟨gb117, 9, none⟩ = some (.slice A3_9 l3_9.length c3_9) ∧ w'.cell? ⟨gb117, 10, none⟩ = some (.string a3_10) ∧ w'.cell? ⟨gb117, 11, none⟩ = some (.int .i64 a3_11) ∧ w'.cell? ⟨gb117, 12, none⟩ = some (.slice A3_12 l3_12.length c3_12) ∧ w'.cell? ⟨gb117, 13, none⟩ = some (.string a3_13) ∧ w'.cell? ⟨gb117, 14, none⟩ = some (.int .u64 a3_14)) (ds := [12, 15, 18]) (tb_ 19 0) (by kernel_rfl) rfl rfl ⟨(blk_cell BK116.out 0).trans rfl, (blk_cell BK116.out 1).trans rfl, (blk_cell BK116.out 2).trans rfl, (blk_cell BK116.out 3).trans rfl, (blk_cell BK116.out 4).trans rfl, (blk_cell BK116.out 5).trans rfl, (blk_cell BK116.out 6).trans rfl, (blk_cell BK116.out 7).trans rfl, (blk_cell BK116.out 8).trans rfl, (blk_cell BK116.out 9).trans rfl, (blk_cell BK116.out 10).trans rfl, (blk_cell BK116.out 11).trans rfl, (blk_cell BK117.out 0).trans rfl, (blk_cell BK117.out 1).trans rfl, (blk_cell BK117.out 2).trans rfl, (blk_cell BK117.out 3).trans rfl, (blk_cell BK117.out 4).trans rfl, (blk_cell BK117.out 5).trans rfl, (blk_cell BK117.out 6).trans rfl, (blk_cell BK117.out 7).trans rfl, (blk_cell BK117.out 8).trans rfl, (blk_cell BK117.out 9).trans rfl, (blk_cell BK117.out 10).trans rfl, (blk_cell BK117.out 11).trans rfl, (blk_cell BK117.out 12).trans rfl, (blk_cell BK117.out 13).trans rfl, (blk_cell BK117.out 14).trans rfl⟩ (fun hHeld => ?_); refine with_tabW pursuivantlaw27_RedactParts.tab1 pursuivantlaw27_RedactParts.bits1 (fun HT_ HW_ => ?_)
     generalize w31.drew = w32 at BK116 BK117 HB hHeld ⊢
     refine pz_ 0 9 (tb_ 19 1) HT_.out ?_
     refine pz_ 3 12 (tb_ 19 9) HT_.out ?_
     refine pz_ 4 13 (tb_ 19 25) HT_.out ?_
     refine pz_ 7 16 (tb_ 19 153) HT_.out ?_
     refine pz_ 8 17 (tb_ 19 409) HT_.out ?_
     refine take_ (i := 1) (N := some 10) (v := ?_) (a' := ?_) (tb_ 19 411) rfl rfl (take_ofW HT_.out HW_.out (by kernel_rfl)) (fun _ _ _ h => h) (Or.inl ⟨by rfl, ?_⟩) hHeld ?_ ?_
     rotate_left
     ·rintro w' ⟨s0, s1, s2, s3, s4, s5, s6, s7, s8, s9, s10, s11, s12, s13, s14, s15, s16, s17, s18, s19, s20, s21, s22, s23, s24, s25, s26⟩
      go_simp
      with_reducible rfl
     rotate_left
     ·simp only [Act.put, List.setIfInBounds_toArray, List.set_cons_zero, List.set_cons_succ, i64_w, i32_w]
      rfl
     refine take_ (i := 5) (N := some 14) (v := ?_) (a' := ?_) (tb_ 19 443) rfl rfl (take_ofW HT_.out HW_.out (by kernel_rfl)) (fun _ _ _ h => h) (Or.inl ⟨by rfl, ?_⟩) hHeld ?_ ?_
     rotate_left
     ·rintro w' ⟨s0, s1, s2, s3, s4, s5, s6, s7, s8, s9, s10, s11, s12, s13, s14, s15, s16, s17, s18, s19, s20, s21, s22, s23, s24, s25, s26⟩
      go_simp
      with_reducible rfl
     rotate_left
     ·simp only [Act.put, List.setIfInBounds_toArray, List.set_cons_zero, List.set_cons_succ, i64_w, i32_w]
      rfl
     refine take_ (i := 9) (N := some 18) (v := ?_) (a' := ?_) (tb_ 19 955) rfl rfl (take_ofW HT_.out HW_.out (by kernel_rfl)) (fun _ _ _ h => h) (Or.inl ⟨by rfl, ?_⟩) hHeld ?_ ?_
     rotate_left
     ·rintro w' ⟨s0, s1, s2, s3, s4, s5, s6, s7, s8, s9, s10, s11, s12, s13, s14, s15, s16, s17, s18, s19, s20, s21, s22, s23, s24, s25, s26⟩
      go_simp
      with_reducible rfl
     rotate_left
     ·simp only [Act.put, List.setIfInBounds_toArray, List.set_cons_zero, List.set_cons_succ, i64_w, i32_w]
      rfl
     refine one_ (i := 2) (N := some 11) (tb_ 19 959) rfl rfl (one_of HT_.out (by kernel_rfl)) (by decide) (fun K hK => ?_)
     refine goes_ Tryz.func12 (by kernel_rfl) rfl #[.slice A2_5 l2_5.length c2_5] (by rfl) rfl rfl z22_ ?_
     with_reducible refine (pursuivantlaw27_few.calls (fun k_ => k_ < w.heap.size) _ _ l2_5 t118 _ ?gw5_ ?side1c1 A5.out).mono ?_
     case gw5_ => exact z1_
     (case side1c1 => exact Kd.V_mk HC2_5.out (Kd.F_below (Kd.C_F k58_heap HR2_5.out) z12_))
     rintro e w33 ⟨v119, rfl, ho0, hb⟩
     refine ⟨_, rfl, ?_⟩
     have n0_ := Aside0.mk (Kd.V_lower (Kd.V_mono (ok' := fun k_ => k_ ≠ gb116 ∧ k_ ≠ gb117) ho0 (fun k_ hk_ => ⟨Or.elim hk_ (fun hs_ => fun e_ => Nat.not_le.2 hs_ z64_) (fun hn_ => (Kd.freshB (g := gb116) (o := .cells #[.int .i64 a2_0, .int .i64 a2_1, .int .i64 a2_2, .string a2_3, .string a2_4, .slice A2_5 l2_5.length c2_5, .string a2_6, .int .i64 a2_7, .int .i64 a2_8, .bool a2_9, .string a2_10, .int .u64 a2_11] 36 (0, 0)) z38_ k_ hn_)), Or.elim hk_ (fun hs_ => fun e_ => Nat.not_le.2 hs_ z65_) (fun hn_ => (Kd.freshB (g := gb117) (o := .cells #[.int .i64 a3_0, .int .i64 a3_1, .string a3_2, .string a3_3, .int .i64 a3_4, .int .i64 a3_5, .int .i64 a3_6, .int .i64 a3_7, .string a3_8, .slice A3_9 l3_9.length c3_9, .string a3_10, .int .i64 a3_11, .slice A3_12 l3_12.length c3_12, .string a3_13, .int .u64 a3_14] 42 (0, 0)) z39_ k_ hn_))⟩)) (below_size z12_))
     have n1_ := Aside0.mk (blk_below (g := gb116) (o := .cells #[.int .i64 a2_0, .int .i64 a2_1, .int .i64 a2_2, .string a2_3, .string a2_4, .slice A2_5 l2_5.length c2_5, .string a2_6, .int .i64 a2_7, .int .i64 a2_8, .bool a2_9, .string a2_10, .int .u64 a2_11] 36 (0, 0)) z38_ hb)
     have n2_ := Aside0.mk (blk_below (g := gb117) (o := .cells #[.int .i64 a3_0, .int .i64 a3_1, .string a3_2, .string a3_3, .int .i64 a3_4, .int .i64 a3_5, .int .i64 a3_6, .int .i64 a3_7, .string a3_8, .slice A3_9 l3_9.length c3_9, .string a3_10, .int .i64 a3_11, .slice A3_12 l3_12.length c3_12, .string a3_13, .int .u64 a3_14] 42 (0, 0)) z39_ hb)
     have n3_ := Aside0.mk (below_step z12_ hb)
     clear BK116; clear BK117; clear HB
     have HO120 := n0_
     have BK116 := n1_
     have BK117 := n2_
     have HB := n3_
     clear n0_ n1_ n2_ n3_
     (try clear hb)
     (try clear hb2)
     (try clear hk)
     (try clear hi)
     (try clear ho0)
     refine hK.out _ _ ⟨(blk_cell BK116.out 0).trans rfl, (blk_cell BK116.out 1).trans rfl, (blk_cell BK116.out 2).trans rfl, (blk_cell BK116.out 3).trans rfl, (blk_cell BK116.out 4).trans rfl, (blk_cell BK116.out 5).trans rfl, (blk_cell BK116.out 6).trans rfl, (blk_cell BK116.out 7).trans rfl, (blk_cell BK116.out 8).trans rfl, (blk_cell BK116.out 9).trans rfl, (blk_cell BK116.out 10).trans rfl, (blk_cell BK116.out 11).trans rfl, (blk_cell BK117.out 0).trans rfl, (blk_cell BK117.out 1).trans rfl, (blk_cell BK117.out 2).trans rfl, (blk_cell BK117.out 3).trans rfl, (blk_cell BK117.out 4).trans rfl, (blk_cell BK117.out 5).trans rfl, (blk_cell BK117.out 6).trans rfl, (blk_cell BK117.out 7).trans rfl, (blk_cell BK117.out 8).trans rfl, (blk_cell BK117.out 9).trans rfl, (blk_cell BK117.out 10).trans rfl, (blk_cell BK117.out 11).trans rfl, (blk_cell BK117.out 12).trans rfl, (blk_cell BK117.out 13).trans rfl, (blk_cell BK117.out 14).trans rfl⟩ (fun hHeld => ?_)
     clear hK K
     refine norm_ (a' := ?_) ?_ ?_
     rotate_left
     ·show Act.put _ (some 11) _ = _
      simp only [Act.put, List.setIfInBounds_toArray, List.set_cons_zero, List.set_cons_succ, i64_w, i32_w]
      rfl
     refine pz_ 11 20 (tb_ 19 3007) HT_.out ?_
     refine one_ (i := 6) (N := some 15) (tb_ 19 3071) rfl rfl (one_of HT_.out (by kernel_rfl)) (by decide) (fun K hK => ?_)
     refine goes_ Tryz.func12 (by kernel_rfl) rfl #[.slice A3_9 l3_9.length c3_9] (by rfl) rfl rfl z22_ ?_
     with_reducible refine (pursuivantlaw27_few.calls (fun k_ => k_ < w.heap.size) _ _ l3_9 t121 _ ?gw6_ ?side1c2 A6.out).mono ?_
     case gw6_ => exact z1_
     (case side1c2 => exact Kd.V_mk HC3_9.out (Kd.F_below (Kd.C_F k58_heap HR3_9.out) z12_))
     rintro e w34 ⟨v122, rfl, ho0, hb⟩
     refine ⟨_, rfl, ?_⟩
     have n0_ := Aside0.mk (Kd.V_below z45_ hb)
     have n1_ := Aside0.mk (Kd.V_lower (Kd.V_mono (ok' := fun k_ => k_ ≠ gb116 ∧ k_ ≠ gb117) ho0 (fun k_ hk_ => ⟨Or.elim hk_ (fun hs_ => fun e_ => Nat.not_le.2 hs_ z64_) (fun hn_ => (Kd.freshB (g := gb116) (o := .cells #[.int .i64 a2_0, .int .i64 a2_1, .int .i64 a2_2, .string a2_3, .string a2_4, .slice A2_5 l2_5.length c2_5, .string a2_6, .int .i64 a2_7, .int .i64 a2_8, .bool a2_9, .string a2_10, .int .u64 a2_11] 36 (0, 0)) z38_ k_ hn_)), Or.elim hk_ (fun hs_ => fun e_ => Nat.not_le.2 hs_ z65_) (fun hn_ => (Kd.freshB (g := gb117) (o := .cells #[.int .i64 a3_0, .int .i64 a3_1, .string a3_2, .string a3_3, .int .i64 a3_4, .int .i64 a3_5, .int .i64 a3_6, .int .i64 a3_7, .string a3_8, .slice A3_9 l3_9.length c3_9, .string a3_10, .int .i64 a3_11, .slice A3_12 l3_12.length c3_12, .string a3_13, .int .u64 a3_14] 42 (0, 0)) z39_ k_ hn_))⟩)) (below_size z12_))
     have n2_ := Aside0.mk (blk_below (g := gb116) (o := .cells #[.int .i64 a2_0, .int .i64 a2_1, .int .i64 a2_2, .string a2_3, .string a2_4, .slice A2_5 l2_5.length c2_5, .string a2_6, .int .i64 a2_7, .int .i64 a2_8, .bool a2_9, .string a2_10, .int .u64 a2_11] 36 (0, 0)) z38_ hb)
     have n3_ := Aside0.mk (blk_below (g := gb117) (o := .cells #[.int .i64 a3_0, .int .i64 a3_1, .string a3_2, .string a3_3, .int .i64 a3_4, .int .i64 a3_5, .int .i64 a3_6, .int .i64 a3_7, .string a3_8, .slice A3_9 l3_9.length c3_9, .string a3_10, .int .i64 a3_11, .slice A3_12 l3_12.length c3_12, .string a3_13, .int .u64 a3_14] 42 (0, 0)) z39_ hb)
     have n4_ := Aside0.mk (below_step z12_ hb)
     clear HO120; clear BK116; clear BK117; clear HB
     have HO120 := n0_
     have HO123 := n1_
     have BK116 := n2_
     have BK117 := n3_
     have HB := n4_
     clear n0_ n1_ n2_ n3_ n4_
     (try clear hb)
     (try clear hb2)
     (try clear hk)
     (try clear hi)
     (try clear ho0)
     refine hK.out _ _ ⟨(blk_cell BK116.out 0).trans rfl, (blk_cell BK116.out 1).trans rfl, (blk_cell BK116.out 2).trans rfl, (blk_cell BK116.out 3).trans rfl, (blk_cell BK116.out 4).trans rfl, (blk_cell BK116.out 5).trans rfl, (blk_cell BK116.out 6).trans rfl, (blk_cell BK116.out 7).trans rfl, (blk_cell BK116.out 8).trans rfl, (blk_cell BK116.out 9).trans rfl, (blk_cell BK116.out 10).trans rfl, (blk_cell BK116.out 11).trans rfl, (blk_cell BK117.out 0).trans rfl, (blk_cell BK117.out 1).trans rfl, (blk_cell BK117.out 2).trans rfl, (blk_cell BK117.out 3).trans rfl, (blk_cell BK117.out 4).trans rfl, (blk_cell BK117.out 5).trans rfl, (blk_cell BK117.out 6).trans rfl, (blk_cell BK117.out 7).trans rfl, (blk_cell BK117.out 8).trans rfl, (blk_cell BK117.out 9).trans rfl, (blk_cell BK117.out 10).trans rfl, (blk_cell BK117.out 11).trans rfl, (blk_cell BK117.out 12).trans rfl, (blk_cell BK117.out 13).trans rfl, (blk_cell BK117.out 14).trans rfl⟩ (fun hHeld => ?_)
     clear hK K
     refine norm_ (a' := ?_) ?_ ?_
     rotate_left
     ·show Act.put _ (some 15) _ = _
      simp only [Act.put, List.setIfInBounds_toArray, List.set_cons_zero, List.set_cons_succ, i64_w, i32_w]
      rfl
     refine one_ (i := 10) (N := some 19) (tb_ 19 4095) rfl rfl (one_of HT_.out (by kernel_rfl)) (by decide) (fun K hK => ?_)
     refine goes_ Tryz.func12 (by kernel_rfl) rfl #[.slice A3_12 l3_12.length c3_12] (by rfl) rfl rfl z22_ ?_
     with_reducible refine (pursuivantlaw27_few.calls (fun k_ => k_ < w.heap.size) _ _ l3_12 t124 _ ?gw7_ ?side1c3 A7.out).mono ?_
     case gw7_ => exact z1_
     (case side1c3 => exact Kd.V_mk HC3_12.out (Kd.F_below (Kd.C_F k58_heap HR3_12.out) z12_))
     rintro e w35 ⟨v125, rfl, ho0, hb⟩
     refine ⟨_, rfl, ?_⟩
     have n0_ := Aside0.mk (Kd.V_below z45_ hb)
     have n1_ := Aside0.mk (Kd.V_below z46_ hb)
     have n2_ := Aside0.mk (Kd.V_lower (Kd.V_mono (ok' := fun k_ => k_ ≠ gb116 ∧ k_ ≠ gb117) ho0 (fun k_ hk_ => ⟨Or.elim hk_ (fun hs_ => fun e_ => Nat.not_le.2 hs_ z64_) (fun hn_ => (Kd.freshB (g := gb116) (o := .cells #[.int .i64 a2_0, .int .i64 a2_1, .int .i64 a2_2, .string a2_3, .string a2_4, .slice A2_5 l2_5.length c2_5, .string a2_6, .int .i64 a2_7, .int .i64 a2_8, .bool a2_9, .string a2_10, .int .u64 a2_11] 36 (0, 0)) z38_ k_ hn_)), Or.elim hk_ (fun hs_ => fun e_ => Nat.not_le.2 hs_ z65_) (fun hn_ => (Kd.freshB (g := gb117) (o := .cells #[.int .i64 a3_0, .int .i64 a3_1, .string a3_2, .string a3_3, .int .i64 a3_4, .int .i64 a3_5, .int .i64 a3_6, .int .i64 a3_7, .string a3_8, .slice A3_9 l3_9.length c3_9, .string a3_10, .int .i64 a3_11, .slice A3_12 l3_12.length c3_12, .string a3_13, .int .u64 a3_14] 42 (0, 0)) z39_ k_ hn_))⟩)) (below_size z12_))
     have n3_ := Aside0.mk (blk_below (g := gb116) (o := .cells #[.int .i64 a2_0, .int .i64 a2_1, .int .i64 a2_2, .string a2_3, .string a2_4, .slice A2_5 l2_5.length c2_5, .string a2_6, .int .i64 a2_7, .int .i64 a2_8, .bool a2_9, .string a2_10, .int .u64 a2_11] 36 (0, 0)) z38_ hb)
     have n4_ := Aside0.mk (blk_below (g := gb117) (o := .cells #[.int .i64 a3_0, .int .i64 a3_1, .string a3_2, .string a3_3, .int .i64 a3_4, .int .i64 a3_5, .int .i64 a3_6, .int .i64 a3_7, .string a3_8, .slice A3_9 l3_9.length c3_9, .string a3_10, .int .i64 a3_11, .slice A3_12 l3_12.length c3_12, .string a3_13, .int .u64 a3_14] 42 (0, 0)) z39_ hb)
     have n5_ := Aside0.mk (below_step z12_ hb)
     clear HO120; clear HO123; clear BK116; clear BK117; clear HB
     have HO120 := n0_
     have HO123 := n1_
     have HO126 := n2_
     have BK116 := n3_
     have BK117 := n4_
     have HB := n5_
     clear n0_ n1_ n2_ n3_ n4_ n5_
     (try clear hb)
     (try clear hb2)
     (try clear hk)
     (try clear hi)
     (try clear ho0)
     obtain ⟨Ao36, co36, eo36⟩ := Kd.V_slice HO120.out
     (first | subst eo36 | (injection eo36 with f1_ f2_ f3_; have f4_ := f1_.symm; have f5_ := f3_.symm; clear f1_ f2_ f3_; subst f4_; subst f5_))
     obtain ⟨Ao38, co38, eo38⟩ := Kd.V_slice HO123.out
     (first | subst eo38 | (injection eo38 with f1_ f2_ f3_; have f4_ := f1_.symm; have f5_ := f3_.symm; clear f1_ f2_ f3_; subst f4_; subst f5_))
     obtain ⟨Ao40, co40, eo40⟩ := Kd.V_slice HO126.out
     (first | subst eo40 | (injection eo40 with f1_ f2_ f3_; have f4_ := f1_.symm; have f5_ := f3_.symm; clear f1_ f2_ f3_; subst f4_; subst f5_))
     refine hK.out _ _ ⟨(blk_cell BK116.out 0).trans rfl, (blk_cell BK116.out 1).trans rfl, (blk_cell BK116.out 2).trans rfl, (blk_cell BK116.out 3).trans rfl, (blk_cell BK116.out 4).trans rfl, (blk_cell BK116.out 5).trans rfl, (blk_cell BK116.out 6).trans rfl, (blk_cell BK116.out 7).trans rfl, (blk_cell BK116.out 8).trans rfl, (blk_cell BK116.out 9).trans rfl, (blk_cell BK116.out 10).trans rfl, (blk_cell BK116.out 11).trans rfl, (blk_cell BK117.out 0).trans rfl, (blk_cell BK117.out 1).trans rfl, (blk_cell BK117.out 2).trans rfl, (blk_cell BK117.out 3).trans rfl, (blk_cell BK117.out 4).trans rfl, (blk_cell BK117.out 5).trans rfl, (blk_cell BK117.out 6).trans rfl, (blk_cell BK117.out 7).trans rfl, (blk_cell BK117.out 8).trans rfl, (blk_cell BK117.out 9).trans rfl, (blk_cell BK117.out 10).trans rfl, (blk_cell BK117.out 11).trans rfl, (blk_cell BK117.out 12).trans rfl, (blk_cell BK117.out 13).trans rfl, (blk_cell BK117.out 14).trans rfl⟩ (fun hHeld => ?_)
     clear hK K
     refine norm_ (a' := ?_) ?_ ?_
     rotate_left
     ·show Act.put _ (some 19) _ = _
      simp only [Act.put, List.setIfInBounds_toArray, List.set_cons_zero, List.set_cons_succ, i64_w, i32_w]
      rfl
     refine last_ (i := 12) (N := none) (tb_ 19 8191) rfl rfl (one_of HT_.out (by kernel_rfl)) (by decide) (fun K hK => ?_)
     have hs37 : w35.cell? ⟨gb116, 5, none⟩ = some (.slice A2_5 l2_5.length c2_5) := (blk_cell BK116.out 5).trans rfl
     have hfs37 := blk_frozen BK116.out 5; have hns37_1 := NB117_116.out
     have hms37_1 := NB116_117.out
     refine skip_ (w1 := ?_) (by rfl) rfl ?_ ?_
     rotate_left
     ·go_simp
      rfl
     refine hK.out _ _ ?_
     clear hK K
     refine pz_ 13 21 (tb_ 19 16383) HT_.out ?_
     refine pz_ 14 22 (tb_ 19 32767) HT_.out ?_
     refine last_ (i := 15) (N := none) (tb_ 19 65535) rfl rfl (one_of HT_.out (by kernel_rfl)) (by decide) (fun K hK => ?_)
     have hs39 : w35.cell? ⟨gb117, 9, none⟩ = some (.slice A3_9 l3_9.length c3_9) := (blk_cell BK117.out 9).trans rfl
     have hfs39 := blk_frozen BK117.out 9; have hns39_0 := NB116_117.out
     have hms39_0 := NB117_116.out
     refine skip_ (w1 := ?_) (by rfl) rfl ?_ ?_
     rotate_left
     ·go_simp
      rfl
     refine hK.out _ _ ?_
     clear hK K
     refine pz_ 16 23 (tb_ 19 131071) HT_.out ?_
     refine pz_ 17 24 (tb_ 19 262143) HT_.out ?_
     refine last_ (i := 18) (N := none) (tb_ 19 524287) rfl rfl (one_of HT_.out (by kernel_rfl)) (by decide) (fun K hK => ?_)
     have hs41 : w35.cell? ⟨gb117, 12, none⟩ = some (.slice A3_12 l3_12.length c3_12) := (blk_cell BK117.out 12).trans rfl
     have hfs41 := blk_frozen BK117.out 12; have hns41_0 := NB116_117.out
     have hms41_0 := NB117_116.out
     refine skip_ (w1 := ?_) (by rfl) rfl ?_ ?_
     rotate_left
     ·go_simp
      rfl
     refine hK.out _ _ ?_
     clear hK K
     refine done_ (done_of HT_.out (by kernel_rfl)) ?_
     try go_wp2
     have n0_ : Aside0 (Kd.V k58 58 (((w35.setCell ⟨gb116, 5, none⟩ (.slice Ao36 t118.length co36)).setCell ⟨gb117, 9, none⟩ (.slice Ao38 t121.length co38)).setCell ⟨gb117, 12, none⟩ (.slice Ao40 t124.length co40)) w.heap.size (fun k_ => k_ ≠ gb116 ∧ k_ ≠ gb117) (.slice Ao36 t118.length co36) t118) := ⟨by (with_reducible repeat (first | apply Kd.V_alloc | apply Kd.V_drewN | apply Kd.V_drew)); exact Kd.V_mono (Kd.V_far (p := ⟨gb117, 12, none⟩) (Kd.V_far (p := ⟨gb117, 9, none⟩) (Kd.V_far (p := ⟨gb116, 5, none⟩) (Kd.V_mono (Kd.V_mono HO120.out (fun k_ hk => (⟨hk, hk.1⟩ : _ ∧ k_ ≠ gb116))) (fun k_ hk => (⟨hk, hk.1.2⟩ : _ ∧ k_ ≠ gb117))) (fun _ hk => hk.1.2) (.slice Ao36 t118.length co36)) (fun _ hk => hk.2) (.slice Ao38 t121.length co38)) (fun _ hk => hk.2) (.slice Ao40 t124.length co40)) (fun _ hk => ⟨hk.1.1.1, hk.1.1.2⟩)⟩
     have n1_ : Aside0 (Kd.V k58 58 (((w35.setCell ⟨gb116, 5, none⟩ (.slice Ao36 t118.length co36)).setCell ⟨gb117, 9, none⟩ (.slice Ao38 t121.length co38)).setCell ⟨gb117, 12, none⟩ (.slice Ao40 t124.length co40)) w.heap.size (fun k_ => k_ ≠ gb116 ∧ k_ ≠ gb117) (.slice Ao38 t121.length co38) t121) := ⟨by (with_reducible repeat (first | apply Kd.V_alloc | apply Kd.V_drewN | apply Kd.V_drew)); exact Kd.V_mono (Kd.V_far (p := ⟨gb117, 12, none⟩) (Kd.V_far (p := ⟨gb117, 9, none⟩) (Kd.V_far (p := ⟨gb116, 5, none⟩) (Kd.V_mono (Kd.V_mono HO123.out (fun k_ hk => (⟨hk, hk.1⟩ : _ ∧ k_ ≠ gb116))) (fun k_ hk => (⟨hk, hk.1.2⟩ : _ ∧ k_ ≠ gb117))) (fun _ hk => hk.1.2) (.slice Ao36 t118.length co36)) (fun _ hk => hk.2) (.slice Ao38 t121.length co38)) (fun _ hk => hk.2) (.slice Ao40 t124.length co40)) (fun _ hk => ⟨hk.1.1.1, hk.1.1.2⟩)⟩
     have n2_ : Aside0 (Kd.V k58 58 (((w35.setCell ⟨gb116, 5, none⟩ (.slice Ao36 t118.length co36)).setCell ⟨gb117, 9, none⟩ (.slice Ao38 t121.length co38)).setCell ⟨gb117, 12, none⟩ (.slice Ao40 t124.length co40)) w.heap.size (fun k_ => k_ ≠ gb116 ∧ k_ ≠ gb117) (.slice Ao40 t124.length co40) t124) := ⟨by (with_reducible repeat (first | apply Kd.V_alloc | apply Kd.V_drewN | apply Kd.V_drew)); exact Kd.V_mono (Kd.V_far (p := ⟨gb117, 12, none⟩) (Kd.V_far (p := ⟨gb117, 9, none⟩) (Kd.V_far (p := ⟨gb116, 5, none⟩) (Kd.V_mono (Kd.V_mono HO126.out (fun k_ hk => (⟨hk, hk.1⟩ : _ ∧ k_ ≠ gb116))) (fun k_ hk => (⟨hk, hk.1.2⟩ : _ ∧ k_ ≠ gb117))) (fun _ hk => hk.1.2) (.slice Ao36 t118.length co36)) (fun _ hk => hk.2) (.slice Ao38 t121.length co38)) (fun _ hk => hk.2) (.slice Ao40 t124.length co40)) (fun _ hk => ⟨hk.1.1.1, hk.1.1.2⟩)⟩
     have n3_ : Aside0 ((((w35.setCell ⟨gb116, 5, none⟩ (.slice Ao36 t118.length co36)).setCell ⟨gb117, 9, none⟩ (.slice Ao38 t121.length co38)).setCell ⟨gb117, 12, none⟩ (.slice Ao40 t124.length co40)).heap[gb116]? = some (.cells #[.int .i64 a2_0, .int .i64 a2_1, .int .i64 a2_2, .string a2_3, .string a2_4, .slice Ao36 t118.length co36, .string a2_6, .int .i64 a2_7, .int .i64 a2_8, .bool a2_9, .string a2_10, .int .u64 a2_11] 36 (0, 0))) := ⟨by (with_reducible repeat (first | refine blk_drewN ?_ _ | refine blk_drew ?_ | refine blk_alloc ?_ _)); refine blk_far ?_ NB116_117.out _; (with_reducible repeat (first | refine blk_drewN ?_ _ | refine blk_drew ?_ | refine blk_alloc ?_ _)); refine blk_far ?_ NB116_117.out _; (with_reducible repeat (first | refine blk_drewN ?_ _ | refine blk_drew ?_ | refine blk_alloc ?_ _)); refine blk_put (cs := #[.int .i64 a2_0, .int .i64 a2_1, .int .i64 a2_2, .string a2_3, .string a2_4, .slice A2_5 l2_5.length c2_5, .string a2_6, .int .i64 a2_7, .int .i64 a2_8, .bool a2_9, .string a2_10, .int .u64 a2_11]) ?_ 5 _ rfl; (with_reducible repeat (first | refine blk_drewN ?_ _ | refine blk_drew ?_ | refine blk_alloc ?_ _)); exact BK116.out⟩
     have n4_ : Aside0 ((((w35.setCell ⟨gb116, 5, none⟩ (.slice Ao36 t118.length co36)).setCell ⟨gb117, 9, none⟩ (.slice Ao38 t121.length co38)).setCell ⟨gb117, 12, none⟩ (.slice Ao40 t124.length co40)).heap[gb117]? = some (.cells #[.int .i64 a3_0, .int .i64 a3_1, .string a3_2, .string a3_3, .int .i64 a3_4, .int .i64 a3_5, .int .i64 a3_6, .int .i64 a3_7, .string a3_8, .slice Ao38 t121.length co38, .string a3_10, .int .i64 a3_11, .slice Ao40 t124.length co40, .string a3_13, .int .u64 a3_14] 42 (0, 0))) := ⟨by (with_reducible repeat (first | refine blk_drewN ?_ _ | refine blk_drew ?_ | refine blk_alloc ?_ _)); refine blk_put (cs := #[.int .i64 a3_0, .int .i64 a3_1, .string a3_2, .string a3_3, .int .i64 a3_4, .int .i64 a3_5, .int .i64 a3_6, .int .i64 a3_7, .string a3_8, .slice Ao38 t121.length co38, .string a3_10, .int .i64 a3_11, .slice A3_12 l3_12.length c3_12, .string a3_13, .int .u64 a3_14]) ?_ 12 _ rfl; (with_reducible repeat (first | refine blk_drewN ?_ _ | refine blk_drew ?_ | refine blk_alloc ?_ _)); refine blk_put (cs := #[.int .i64 a3_0, .int .i64 a3_1, .string a3_2, .string a3_3, .int .i64 a3_4, .int .i64 a3_5, .int .i64 a3_6, .int .i64 a3_7, .string a3_8, .slice A3_9 l3_9.length c3_9, .string a3_10, .int .i64 a3_11, .slice A3_12 l3_12.length c3_12, .string a3_13, .int .u64 a3_14]) ?_ 9 _ rfl; (with_reducible repeat (first | refine blk_drewN ?_ _ | refine blk_drew ?_ | refine blk_alloc ?_ _)); refine blk_far ?_ NB117_116.out _; (with_reducible repeat (first | refine blk_drewN ?_ _ | refine blk_drew ?_ | refine blk_alloc ?_ _)); exact BK117.out⟩
     have n5_ : Aside0 (Below w.heap.size w (((w35.setCell ⟨gb116, 5, none⟩ (.slice Ao36 t118.length co36)).setCell ⟨gb117, 9, none⟩ (.slice Ao38 t121.length co38)).setCell ⟨gb117, 12, none⟩ (.slice Ao40 t124.length co40))) := ⟨z12_⟩
     (try clear HO120)
     (try clear HO123)
     (try clear HO126)
     (try clear BK116)
     (try clear BK117)
     (try clear HB)
     generalize (((w35.setCell ⟨gb116, 5, none⟩ (.slice Ao36 t118.length co36)).setCell ⟨gb117, 9, none⟩ (.slice Ao38 t121.length co38)).setCell ⟨gb117, 12, none⟩ (.slice Ao40 t124.length co40)) = w42 at n0_ n1_ n2_ n3_ n4_ n5_ ⊢
     have HO120 := n0_
     have HO123 := n1_
     have HO126 := n2_
     have BK116 := n3_
     have BK117 := n4_
     have HB := n5_
     clear n0_ n1_ n2_ n3_ n4_ n5_
     have n0_ := Aside0.mk (Kd.V_drew HO120.out)
     have n1_ := Aside0.mk (Kd.V_drew HO123.out)
     have n2_ := Aside0.mk (Kd.V_drew HO126.out)
     have n3_ := Aside0.mk (blk_drew BK116.out)
     have n4_ := Aside0.mk (blk_drew BK117.out)
     have n5_ := Aside0.mk (below_drew1 HB.out)
     clear HO120; clear HO123; clear HO126; clear BK116; clear BK117; clear HB
     have HO120 := n0_
     have HO123 := n1_
     have HO126 := n2_
     have BK116 := n3_
     have BK117 := n4_
     have HB := n5_
     clear n0_ n1_ n2_ n3_ n4_ n5_
     refine start_ (n := 12) (S := fun w' => w'.cell? ⟨gb116, 0, none⟩ = some (.int .i64 a2_0) ∧ w'.cell? ⟨gb116, 1, none⟩ = some (.int .i64 a2_1) ∧ w'.cell? ⟨gb116, 2, none⟩ = some (.int .i64 a2_2) ∧ w'.cell? ⟨gb116, 3, none⟩ = some (.string a2_3) ∧ w'.cell? ⟨gb116, 4, none⟩ = some (.string a2_4) ∧ w'.cell? ⟨gb116, 5, none⟩ = some (.slice Ao36 t118.length co36) ∧ w'.cell? ⟨gb116, 6, none⟩ = some (.string a2_6) ∧ w'.cell? ⟨gb116, 7, none⟩ = some (.int .i64 a2_7) ∧ w'.cell? ⟨gb116, 8, none⟩ = some (.int .i64 a2_8) ∧ w'.cell? ⟨gb116, 9, none⟩ = some (.bool a2_9) ∧ w'.cell? ⟨gb116, 10, none⟩ = some (.string a2_10) ∧ w'.cell? ⟨gb116, 11, none⟩ = some (.int .u64 a2_11) ∧ w'.cell? ⟨gb117, 0, none⟩ = some (.int .i64 a3_0) ∧ w'.cell? ⟨gb117, 1, none⟩ = some (.int .i64 a3_1) ∧ w'.cell? ⟨gb117, 2, none⟩ = some (.string a3_2) ∧ w'.cell? ⟨gb117, 3, none⟩ = some (.string a3_3) ∧ w'.cell? ⟨gb117, 4, none⟩ = some (.int .i64 a3_4) ∧ w'.cell? ⟨gb117, 5, none⟩ = some (.int .i64 a3_5) ∧ w'.cell? ⟨gb117, 6, none⟩ = some (.int .i64 a3_6) ∧ w'.cell? ⟨gb117, 7, none⟩ = some (.int .i64 a3_7) ∧ w'.cell? ⟨gb117, 8, none⟩ = some (.string a3_8) ∧ w'.cell? ⟨gb117, 9, none⟩ = some (.slice Ao38 t121.length co38) ∧ w'.cell? ⟨gb117, 10, none⟩ = some (.string a3_10) ∧ w'.cell? ⟨gb117, 11, none⟩ = some (.int .i64 a3_11) ∧ w'.cell? ⟨gb117, 12, none⟩ = some (.slice Ao40 t124.length co40) ∧ w'.cell? ⟨gb117, 13, none⟩ = some (.string a3_13) ∧ w'.cell? ⟨gb117, 14, none⟩ = some (.int .u64 a3_14)) (ds := [8, 11]) (tb_ 12 0) (by kernel_rfl) rfl rfl ⟨(blk_cell BK116.out 0).trans rfl, (blk_cell BK116.out 1).trans rfl, (blk_cell BK116.out 2).trans rfl, (blk_cell BK116.out 3).trans rfl, (blk_cell BK116.out 4).trans rfl, (blk_cell BK116.out 5).trans rfl, (blk_cell BK116.out 6).trans rfl, (blk_cell BK116.out 7).trans rfl, (blk_cell BK116.out 8).trans rfl, (blk_cell BK116.out 9).trans rfl, (blk_cell BK116.out 10).trans rfl, (blk_cell BK116.out 11).trans rfl, (blk_cell BK117.out 0).trans rfl, (blk_cell BK117.out 1).trans rfl, (blk_cell BK117.out 2).trans rfl, (blk_cell BK117.out 3).trans rfl, (blk_cell BK117.out 4).trans rfl, (blk_cell BK117.out 5).trans rfl, (blk_cell BK117.out 6).trans rfl, (blk_cell BK117.out 7).trans rfl, (blk_cell BK117.out 8).trans rfl, (blk_cell BK117.out 9).trans rfl, (blk_cell BK117.out 10).trans rfl, (blk_cell BK117.out 11).trans rfl, (blk_cell BK117.out 12).trans rfl, (blk_cell BK117.out 13).trans rfl, (blk_cell BK117.out 14).trans rfl⟩ (fun hHeld => ?_); refine with_tabW pursuivantlaw27_RedactParts.tab2 pursuivantlaw27_RedactParts.bits2 (fun HT_ HW_ => ?_)
     generalize w42.drew = w43 at HO120 HO123 HO126 BK116 BK117 HB hHeld ⊢
     refine pz_ 0 25 (tb_ 12 1) HT_.out ?_
     refine pz_ 3 28 (tb_ 12 9) HT_.out ?_
     refine pz_ 4 29 (tb_ 12 25) HT_.out ?_
     refine take_ (i := 1) (N := some 26) (v := ?_) (a' := ?_) (tb_ 12 27) rfl rfl (take_ofW HT_.out HW_.out (by kernel_rfl)) (fun _ _ _ h => h) (Or.inl ⟨by rfl, ?_⟩) hHeld ?_ ?_
     rotate_left
     ·rintro w' ⟨s0, s1, s2, s3, s4, s5, s6, s7, s8, s9, s10, s11, s12, s13, s14, s15, s16, s17, s18, s19, s20, s21, s22, s23, s24, s25, s26⟩
      go_simp
      with_reducible rfl
     rotate_left
     ·simp only [Act.put, List.setIfInBounds_toArray, List.set_cons_zero, List.set_cons_succ, i64_w, i32_w]
      rfl
     refine take_ (i := 5) (N := some 30) (v := ?_) (a' := ?_) (tb_ 12 59) rfl rfl (take_ofW HT_.out HW_.out (by kernel_rfl)) (fun _ _ _ h => h) (Or.inl ⟨by rfl, ?_⟩) hHeld ?_ ?_
     rotate_left
     ·rintro w' ⟨s0, s1, s2, s3, s4, s5, s6, s7, s8, s9, s10, s11, s12, s13, s14, s15, s16, s17, s18, s19, s20, s21, s22, s23, s24, s25, s26⟩
      go_simp
      with_reducible rfl
     rotate_left
     ·simp only [Act.put, List.setIfInBounds_toArray, List.set_cons_zero, List.set_cons_succ, i64_w, i32_w]
      rfl
     refine one_ (i := 2) (N := some 27) (tb_ 12 63) rfl rfl (one_of HT_.out (by kernel_rfl)) (by decide) (fun K hK => ?_)
     refine goes_ Tryz.func11 (by kernel_rfl) rfl #[.string a2_4] (by rfl) rfl rfl z22_ ?_
     with_reducible refine (pursuivantlaw27_short.calls a2_4 t127 _ ?gw8_ A8.out).mono ?_
     case gw8_ => exact z1_
     rintro e w' ⟨rfl, ⟨nd, rfl⟩⟩
     refine ⟨_, rfl, ?_⟩
     refine hK.out _ _ ⟨(blk_cell BK116.out 0).trans rfl, (blk_cell BK116.out 1).trans rfl, (blk_cell BK116.out 2).trans rfl, (blk_cell BK116.out 3).trans rfl, (blk_cell BK116.out 4).trans rfl, (blk_cell BK116.out 5).trans rfl, (blk_cell BK116.out 6).trans rfl, (blk_cell BK116.out 7).trans rfl, (blk_cell BK116.out 8).trans rfl, (blk_cell BK116.out 9).trans rfl, (blk_cell BK116.out 10).trans rfl, (blk_cell BK116.out 11).trans rfl, (blk_cell BK117.out 0).trans rfl, (blk_cell BK117.out 1).trans rfl, (blk_cell BK117.out 2).trans rfl, (blk_cell BK117.out 3).trans rfl, (blk_cell BK117.out 4).trans rfl, (blk_cell BK117.out 5).trans rfl, (blk_cell BK117.out 6).trans rfl, (blk_cell BK117.out 7).trans rfl, (blk_cell BK117.out 8).trans rfl, (blk_cell BK117.out 9).trans rfl, (blk_cell BK117.out 10).trans rfl, (blk_cell BK117.out 11).trans rfl, (blk_cell BK117.out 12).trans rfl, (blk_cell BK117.out 13).trans rfl, (blk_cell BK117.out 14).trans rfl⟩ (fun hHeld => ?_)
     clear hK K
     refine norm_ (a' := ?_) ?_ ?_
     rotate_left
     ·show Act.put _ (some 27) _ = _
      simp only [Act.put, List.setIfInBounds_toArray, List.set_cons_zero, List.set_cons_succ, i64_w, i32_w]
      rfl
     refine pz_ 7 32 (tb_ 12 191) HT_.out ?_
     refine one_ (i := 6) (N := some 31) (tb_ 12 255) rfl rfl (one_of HT_.out (by kernel_rfl)) (by decide) (fun K hK => ?_)
     refine goes_ Tryz.func11 (by kernel_rfl) rfl #[.string a3_3] (by rfl) rfl rfl z22_ ?_
     with_reducible refine (pursuivantlaw27_short.calls a3_3 t128 _ ?gw9_ A9.out).mono ?_
     case gw9_ => exact z1_
     rintro e w' ⟨rfl, ⟨nd, rfl⟩⟩
     refine ⟨_, rfl, ?_⟩
     refine hK.out _ _ ⟨(blk_cell BK116.out 0).trans rfl, (blk_cell BK116.out 1).trans rfl, (blk_cell BK116.out 2).trans rfl, (blk_cell BK116.out 3).trans rfl, (blk_cell BK116.out 4).trans rfl, (blk_cell BK116.out 5).trans rfl, (blk_cell BK116.out 6).trans rfl, (blk_cell BK116.out 7).trans rfl, (blk_cell BK116.out 8).trans rfl, (blk_cell BK116.out 9).trans rfl, (blk_cell BK116.out 10).trans rfl, (blk_cell BK116.out 11).trans rfl, (blk_cell BK117.out 0).trans rfl, (blk_cell BK117.out 1).trans rfl, (blk_cell BK117.out 2).trans rfl, (blk_cell BK117.out 3).trans rfl, (blk_cell BK117.out 4).trans rfl, (blk_cell BK117.out 5).trans rfl, (blk_cell BK117.out 6).trans rfl, (blk_cell BK117.out 7).trans rfl, (blk_cell BK117.out 8).trans rfl, (blk_cell BK117.out 9).trans rfl, (blk_cell BK117.out 10).trans rfl, (blk_cell BK117.out 11).trans rfl, (blk_cell BK117.out 12).trans rfl, (blk_cell BK117.out 13).trans rfl, (blk_cell BK117.out 14).trans rfl⟩ (fun hHeld => ?_)
     clear hK K
     refine norm_ (a' := ?_) ?_ ?_
     rotate_left
     ·show Act.put _ (some 31) _ = _
      simp only [Act.put, List.setIfInBounds_toArray, List.set_cons_zero, List.set_cons_succ, i64_w, i32_w]
      rfl
     (try (rw [drewN_self w43]; generalize hq_ : World.drewN w43 _ = w43; have n0_ : Aside0 (Kd.V k58 58 w43 w.heap.size (fun k_ => k_ ≠ gb116 ∧ k_ ≠ gb117) (.slice Ao36 t118.length co36) t118) := ⟨z27_⟩; have n1_ : Aside0 (Kd.V k58 58 w43 w.heap.size (fun k_ => k_ ≠ gb116 ∧ k_ ≠ gb117) (.slice Ao38 t121.length co38) t121) := ⟨z28_⟩; have n2_ : Aside0 (Kd.V k58 58 w43 w.heap.size (fun k_ => k_ ≠ gb116 ∧ k_ ≠ gb117) (.slice Ao40 t124.length co40) t124) := ⟨z29_⟩; have n3_ : Aside0 (w43.heap[gb116]? = some (.cells #[.int .i64 a2_0, .int .i64 a2_1, .int .i64 a2_2, .string a2_3, .string a2_4, .slice Ao36 t118.length co36, .string a2_6, .int .i64 a2_7, .int .i64 a2_8, .bool a2_9, .string a2_10, .int .u64 a2_11] 36 (0, 0))) := ⟨z20_⟩; have n4_ : Aside0 (w43.heap[gb117]? = some (.cells #[.int .i64 a3_0, .int .i64 a3_1, .string a3_2, .string a3_3, .int .i64 a3_4, .int .i64 a3_5, .int .i64 a3_6, .int .i64 a3_7, .string a3_8, .slice Ao38 t121.length co38, .string a3_10, .int .i64 a3_11, .slice Ao40 t124.length co40, .string a3_13, .int .u64 a3_14] 42 (0, 0))) := ⟨z21_⟩; have n5_ : Aside0 (Below w.heap.size w w43) := ⟨z9_⟩; clear HO120 HO123 HO126 BK116 BK117 HB hq_; have HO120 := n0_; have HO123 := n1_; have HO126 := n2_; have BK116 := n3_; have BK117 := n4_; have HB := n5_; clear n0_ n1_ n2_ n3_ n4_ n5_))
     (try (rw [drewN_self w43]; generalize hq_ : World.drewN w43 _ = w43; have n0_ : Aside0 (Kd.V k58 58 w43 w.heap.size (fun k_ => k_ ≠ gb116 ∧ k_ ≠ gb117) (.slice Ao36 t118.length co36) t118) := ⟨z27_⟩; have n1_ : Aside0 (Kd.V k58 58 w43 w.heap.size (fun k_ => k_ ≠ gb116 ∧ k_ ≠ gb117) (.slice Ao38 t121.length co38) t121) := ⟨z28_⟩; have n2_ : Aside0 (Kd.V k58 58 w43 w.heap.size (fun k_ => k_ ≠ gb116 ∧ k_ ≠ gb117) (.slice Ao40 t124.length co40) t124) := ⟨z29_⟩; have n3_ : Aside0 (w43.heap[gb116]? = some (.cells #[.int .i64 a2_0, .int .i64 a2_1, .int .i64 a2_2, .string a2_3, .string a2_4, .slice Ao36 t118.length co36, .string a2_6, .int .i64 a2_7, .int .i64 a2_8, .bool a2_9, .string a2_10, .int .u64 a2_11] 36 (0, 0))) := ⟨z20_⟩; have n4_ : Aside0 (w43.heap[gb117]? = some (.cells #[.int .i64 a3_0, .int .i64 a3_1, .string a3_2, .string a3_3, .int .i64 a3_4, .int .i64 a3_5, .int .i64 a3_6, .int .i64 a3_7, .string a3_8, .slice Ao38 t121.length co38, .string a3_10, .int .i64 a3_11, .slice Ao40 t124.length co40, .string a3_13, .int .u64 a3_14] 42 (0, 0))) := ⟨z21_⟩; have n5_ : Aside0 (Below w.heap.size w w43) := ⟨z9_⟩; clear HO120 HO123 HO126 BK116 BK117 HB hq_; have HO120 := n0_; have HO123 := n1_; have HO126 := n2_; have BK116 := n3_; have BK117 := n4_; have HB := n5_; clear n0_ n1_ n2_ n3_ n4_ n5_))
     refine last_ (i := 8) (N := none) (tb_ 12 511) rfl rfl (one_of HT_.out (by kernel_rfl)) (by decide) (fun K hK => ?_)
     have hs44 : w43.cell? ⟨gb116, 4, none⟩ = some (.string a2_4) := (blk_cell BK116.out 4).trans rfl
     have hfs44 := blk_frozen BK116.out 4; have hns44_1 := NB117_116.out
     have hms44_1 := NB116_117.out
     refine skip_ (w1 := ?_) (by rfl) rfl ?_ ?_
     rotate_left
     ·go_simp
      rfl
     refine hK.out _ _ ?_
     clear hK K
     refine pz_ 9 33 (tb_ 12 1023) HT_.out ?_
     refine pz_ 10 34 (tb_ 12 2047) HT_.out ?_
     refine last_ (i := 11) (N := none) (tb_ 12 4095) rfl rfl (one_of HT_.out (by kernel_rfl)) (by decide) (fun K hK => ?_)
     have hs45 : w43.cell? ⟨gb117, 3, none⟩ = some (.string a3_3) := (blk_cell BK117.out 3).trans rfl
     have hfs45 := blk_frozen BK117.out 3; have hns45_0 := NB116_117.out
     have hms45_0 := NB117_116.out
     refine skip_ (w1 := ?_) (by rfl) rfl ?_ ?_
     rotate_left
     ·go_simp
      rfl
     refine hK.out _ _ ?_
     clear hK K
     refine done_ (done_of HT_.out (by kernel_rfl)) ?_
     try go_wp2
     have n0_ : Aside0 (Kd.V k58 58 ((w43.setCell ⟨gb116, 4, none⟩ (.string t127)).setCell ⟨gb117, 3, none⟩ (.string t128)) w.heap.size (fun k_ => k_ ≠ gb116 ∧ k_ ≠ gb117) (.slice Ao36 t118.length co36) t118) := ⟨by (with_reducible repeat (first | apply Kd.V_alloc | apply Kd.V_drewN | apply Kd.V_drew)); exact Kd.V_mono (Kd.V_far (p := ⟨gb117, 3, none⟩) (Kd.V_far (p := ⟨gb116, 4, none⟩) (Kd.V_mono (Kd.V_mono HO120.out (fun k_ hk => (⟨hk, hk.1⟩ : _ ∧ k_ ≠ gb116))) (fun k_ hk => (⟨hk, hk.1.2⟩ : _ ∧ k_ ≠ gb117))) (fun _ hk => hk.1.2) (.string t127)) (fun _ hk => hk.2) (.string t128)) (fun _ hk => ⟨hk.1.1.1, hk.1.1.2⟩)⟩
     have n1_ : Aside0 (Kd.V k58 58 ((w43.setCell ⟨gb116, 4, none⟩ (.string t127)).setCell ⟨gb117, 3, none⟩ (.string t128)) w.heap.size (fun k_ => k_ ≠ gb116 ∧ k_ ≠ gb117) (.slice Ao38 t121.length co38) t121) := ⟨by (with_reducible repeat (first | apply Kd.V_alloc | apply Kd.V_drewN | apply Kd.V_drew)); exact Kd.V_mono (Kd.V_far (p := ⟨gb117, 3, none⟩) (Kd.V_far (p := ⟨gb116, 4, none⟩) (Kd.V_mono (Kd.V_mono HO123.out (fun k_ hk => (⟨hk, hk.1⟩ : _ ∧ k_ ≠ gb116))) (fun k_ hk => (⟨hk, hk.1.2⟩ : _ ∧ k_ ≠ gb117))) (fun _ hk => hk.1.2) (.string t127)) (fun _ hk => hk.2) (.string t128)) (fun _ hk => ⟨hk.1.1.1, hk.1.1.2⟩)⟩
     have n2_ : Aside0 (Kd.V k58 58 ((w43.setCell ⟨gb116, 4, none⟩ (.string t127)).setCell ⟨gb117, 3, none⟩ (.string t128)) w.heap.size (fun k_ => k_ ≠ gb116 ∧ k_ ≠ gb117) (.slice Ao40 t124.length co40) t124) := ⟨by (with_reducible repeat (first | apply Kd.V_alloc | apply Kd.V_drewN | apply Kd.V_drew)); exact Kd.V_mono (Kd.V_far (p := ⟨gb117, 3, none⟩) (Kd.V_far (p := ⟨gb116, 4, none⟩) (Kd.V_mono (Kd.V_mono HO126.out (fun k_ hk => (⟨hk, hk.1⟩ : _ ∧ k_ ≠ gb116))) (fun k_ hk => (⟨hk, hk.1.2⟩ : _ ∧ k_ ≠ gb117))) (fun _ hk => hk.1.2) (.string t127)) (fun _ hk => hk.2) (.string t128)) (fun _ hk => ⟨hk.1.1.1, hk.1.1.2⟩)⟩
     have n3_ : Aside0 (((w43.setCell ⟨gb116, 4, none⟩ (.string t127)).setCell ⟨gb117, 3, none⟩ (.string t128)).heap[gb116]? = some (.cells #[.int .i64 a2_0, .int .i64 a2_1, .int .i64 a2_2, .string a2_3, .string t127, .slice Ao36 t118.length co36, .string a2_6, .int .i64 a2_7, .int .i64 a2_8, .bool a2_9, .string a2_10, .int .u64 a2_11] 36 (0, 0))) := ⟨by (with_reducible repeat (first | refine blk_drewN ?_ _ | refine blk_drew ?_ | refine blk_alloc ?_ _)); refine blk_far ?_ NB116_117.out _; (with_reducible repeat (first | refine blk_drewN ?_ _ | refine blk_drew ?_ | refine blk_alloc ?_ _)); refine blk_put (cs := #[.int .i64 a2_0, .int .i64 a2_1, .int .i64 a2_2, .string a2_3, .string a2_4, .slice Ao36 t118.length co36, .string a2_6, .int .i64 a2_7, .int .i64 a2_8, .bool a2_9, .string a2_10, .int .u64 a2_11]) ?_ 4 _ rfl; (with_reducible repeat (first | refine blk_drewN ?_ _ | refine blk_drew ?_ | refine blk_alloc ?_ _)); exact BK116.out⟩
     have n4_ : Aside0 (((w43.setCell ⟨gb116, 4, none⟩ (.string t127)).setCell ⟨gb117, 3, none⟩ (.string t128)).heap[gb117]? = some (.cells #[.int .i64 a3_0, .int .i64 a3_1, .string a3_2, .string t128, .int .i64 a3_4, .int .i64 a3_5, .int .i64 a3_6, .int .i64 a3_7, .string a3_8, .slice Ao38 t121.length co38, .string a3_10, .int .i64 a3_11, .slice Ao40 t124.length co40, .string a3_13, .int .u64 a3_14] 42 (0, 0))) := ⟨by (with_reducible repeat (first | refine blk_drewN ?_ _ | refine blk_drew ?_ | refine blk_alloc ?_ _)); refine blk_put (cs := #[.int .i64 a3_0, .int .i64 a3_1, .string a3_2, .string a3_3, .int .i64 a3_4, .int .i64 a3_5, .int .i64 a3_6, .int .i64 a3_7, .string a3_8, .slice Ao38 t121.length co38, .string a3_10, .int .i64 a3_11, .slice Ao40 t124.length co40, .string a3_13, .int .u64 a3_14]) ?_ 3 _ rfl; (with_reducible repeat (first | refine blk_drewN ?_ _ | refine blk_drew ?_ | refine blk_alloc ?_ _)); refine blk_far ?_ NB117_116.out _; (with_reducible repeat (first | refine blk_drewN ?_ _ | refine blk_drew ?_ | refine blk_alloc ?_ _)); exact BK117.out⟩
     have n5_ : Aside0 (Below w.heap.size w ((w43.setCell ⟨gb116, 4, none⟩ (.string t127)).setCell ⟨gb117, 3, none⟩ (.string t128))) := ⟨z12_⟩
     (try clear HO120)
     (try clear HO123)
     (try clear HO126)
     (try clear BK116)
     (try clear BK117)
     (try clear HB)
     generalize ((w43.setCell ⟨gb116, 4, none⟩ (.string t127)).setCell ⟨gb117, 3, none⟩ (.string t128)) = w46 at n0_ n1_ n2_ n3_ n4_ n5_ ⊢
     have HO120 := n0_
     have HO123 := n1_
     have HO126 := n2_
     have BK116 := n3_
     have BK117 := n4_
     have HB := n5_
     clear n0_ n1_ n2_ n3_ n4_ n5_
     (try (rw [drewN_self w46]; generalize hq_ : World.drewN w46 _ = w46; have n0_ : Aside0 (Kd.V k58 58 w46 w.heap.size (fun k_ => k_ ≠ gb116 ∧ k_ ≠ gb117) (.slice Ao36 t118.length co36) t118) := ⟨z27_⟩; have n1_ : Aside0 (Kd.V k58 58 w46 w.heap.size (fun k_ => k_ ≠ gb116 ∧ k_ ≠ gb117) (.slice Ao38 t121.length co38) t121) := ⟨z28_⟩; have n2_ : Aside0 (Kd.V k58 58 w46 w.heap.size (fun k_ => k_ ≠ gb116 ∧ k_ ≠ gb117) (.slice Ao40 t124.length co40) t124) := ⟨z29_⟩; have n3_ : Aside0 (w46.heap[gb116]? = some (.cells #[.int .i64 a2_0, .int .i64 a2_1, .int .i64 a2_2, .string a2_3, .string t127, .slice Ao36 t118.length co36, .string a2_6, .int .i64 a2_7, .int .i64 a2_8, .bool a2_9, .string a2_10, .int .u64 a2_11] 36 (0, 0))) := ⟨z20_⟩; have n4_ : Aside0 (w46.heap[gb117]? = some (.cells #[.int .i64 a3_0, .int .i64 a3_1, .string a3_2, .string t128, .int .i64 a3_4, .int .i64 a3_5, .int .i64 a3_6, .int .i64 a3_7, .string a3_8, .slice Ao38 t121.length co38, .string a3_10, .int .i64 a3_11, .slice Ao40 t124.length co40, .string a3_13, .int .u64 a3_14] 42 (0, 0))) := ⟨z21_⟩; have n5_ : Aside0 (Below w.heap.size w w46) := ⟨z9_⟩; clear HO120 HO123 HO126 BK116 BK117 HB hq_; have HO120 := n0_; have HO123 := n1_; have HO126 := n2_; have BK116 := n3_; have BK117 := n4_; have HB := n5_; clear n0_ n1_ n2_ n3_ n4_ n5_))
     have n0_ := Aside0.mk (Kd.V_drew HO120.out)
     have n1_ := Aside0.mk (Kd.V_drew HO123.out)
     have n2_ := Aside0.mk (Kd.V_drew HO126.out)
     have n3_ := Aside0.mk (blk_drew BK116.out)
     have n4_ := Aside0.mk (blk_drew BK117.out)
     have n5_ := Aside0.mk (below_drew1 HB.out)
     clear HO120; clear HO123; clear HO126; clear BK116; clear BK117; clear HB
     have HO120 := n0_
     have HO123 := n1_
     have HO126 := n2_
     have BK116 := n3_
     have BK117 := n4_
     have HB := n5_
     clear n0_ n1_ n2_ n3_ n4_ n5_
     refine start_ (n := 34) (S := fun w' => w'.cell? ⟨gb116, 0, none⟩ = some (.int .i64 a2_0) ∧ w'.cell? ⟨gb116, 1, none⟩ = some (.int .i64 a2_1) ∧ w'.cell? ⟨gb116, 2, none⟩ = some (.int .i64 a2_2) ∧ w'.cell? ⟨gb116, 3, none⟩ = some (.string a2_3) ∧ w'.cell? ⟨gb116, 4, none⟩ = some (.string t127) ∧ w'.cell? ⟨gb116, 5, none⟩ = some (.slice Ao36 t118.length co36) ∧ w'.cell? ⟨gb116, 6, none⟩ = some (.string a2_6) ∧ w'.cell? ⟨gb116, 7, none⟩ = some (.int .i64 a2_7) ∧ w'.cell? ⟨gb116, 8, none⟩ = some (.int .i64 a2_8) ∧ w'.cell? ⟨gb116, 9, none⟩ = some (.bool a2_9) ∧ w'.cell? ⟨gb116, 10, none⟩ = some (.string a2_10) ∧ w'.cell? ⟨gb116, 11, none⟩ = some (.int .u64 a2_11) ∧ w'.cell? ⟨gb117, 0, none⟩ = some (.int .i64 a3_0) ∧ w'.cell? ⟨gb117, 1, none⟩ = some (.int .i64 a3_1) ∧ w'.cell? ⟨gb117, 2, none⟩ = some (.string a3_2) ∧ w'.cell? ⟨gb117, 3, none⟩ = some (.string t128) ∧ w'.cell? ⟨gb117, 4, none⟩ = some (.int .i64 a3_4) ∧ w'.cell? ⟨gb117, 5, none⟩ = some (.int .i64 a3_5) ∧ w'.cell? ⟨gb117, 6, none⟩ = some (.int .i64 a3_6) ∧ w'.cell? ⟨gb117, 7, none⟩ = some (.int .i64 a3_7) ∧ w'.cell? ⟨gb117, 8, none⟩ = some (.string a3_8) ∧ w'.cell? ⟨gb117, 9, none⟩ = some (.slice Ao38 t121.length co38) ∧ w'.cell? ⟨gb117, 10, none⟩ = some (.string a3_10) ∧ w'.cell? ⟨gb117, 11, none⟩ = some (.int .i64 a3_11) ∧ w'.cell? ⟨gb117, 12, none⟩ = some (.slice Ao40 t124.length co40) ∧ w'.cell? ⟨gb117, 13, none⟩ = some (.string a3_13) ∧ w'.cell? ⟨gb117, 14, none⟩ = some (.int .u64 a3_14)) (ds := []) (tb_ 34 0) (by kernel_rfl) rfl rfl ⟨(blk_cell BK116.out 0).trans rfl, (blk_cell BK116.out 1).trans rfl, (blk_cell BK116.out 2).trans rfl, (blk_cell BK116.out 3).trans rfl, (blk_cell BK116.out 4).trans rfl, (blk_cell BK116.out 5).trans rfl, (blk_cell BK116.out 6).trans rfl, (blk_cell BK116.out 7).trans rfl, (blk_cell BK116.out 8).trans rfl, (blk_cell BK116.out 9).trans rfl, (blk_cell BK116.out 10).trans rfl, (blk_cell BK116.out 11).trans rfl, (blk_cell BK117.out 0).trans rfl, (blk_cell BK117.out 1).trans rfl, (blk_cell BK117.out 2).trans rfl, (blk_cell BK117.out 3).trans rfl, (blk_cell BK117.out 4).trans rfl, (blk_cell BK117.out 5).trans rfl, (blk_cell BK117.out 6).trans rfl, (blk_cell BK117.out 7).trans rfl, (blk_cell BK117.out 8).trans rfl, (blk_cell BK117.out 9).trans rfl, (blk_cell BK117.out 10).trans rfl, (blk_cell BK117.out 11).trans rfl, (blk_cell BK117.out 12).trans rfl, (blk_cell BK117.out 13).trans rfl, (blk_cell BK117.out 14).trans rfl⟩ (fun hHeld => ?_); refine with_tabW pursuivantlaw27_RedactParts.tab3 pursuivantlaw27_RedactParts.bits3 (fun HT_ HW_ => ?_)
     generalize w46.drew = w47 at HO120 HO123 HO126 BK116 BK117 HB hHeld ⊢
     refine one_ (i := 0) (N := some 35) (tb_ 34 1) rfl rfl (one_of HT_.out (by kernel_rfl)) (by decide) (fun K hK => ?_)
     refine goes_ Tryz.func9 (by kernel_rfl) rfl #[] (by rfl) rfl rfl z22_ ?_
     with_reducible refine (pursuivantlaw27_awake.calls k  true _ ?gw10_ A10.out (by first | rfl | assumption)).mono ?_
     case gw10_ => exact z1_
     rintro e w48 ⟨rfl, hb⟩
     refine ⟨_, rfl, ?_⟩
     have n0_ := Aside0.mk (Kd.V_below z45_ hb)
     have n1_ := Aside0.mk (Kd.V_below z46_ hb)
     have n2_ := Aside0.mk (Kd.V_below z47_ hb)
     have n3_ := Aside0.mk (blk_below (g := gb116) (o := .cells #[.int .i64 a2_0, .int .i64 a2_1, .int .i64 a2_2, .string a2_3, .string t127, .slice Ao36 t118.length co36, .string a2_6, .int .i64 a2_7, .int .i64 a2_8, .bool a2_9, .string a2_10, .int .u64 a2_11] 36 (0, 0)) z38_ hb)
     have n4_ := Aside0.mk (blk_below (g := gb117) (o := .cells #[.int .i64 a3_0, .int .i64 a3_1, .string a3_2, .string t128, .int .i64 a3_4, .int .i64 a3_5, .int .i64 a3_6, .int .i64 a3_7, .string a3_8, .slice Ao38 t121.length co38, .string a3_10, .int .i64 a3_11, .slice Ao40 t124.length co40, .string a3_13, .int .u64 a3_14] 42 (0, 0)) z39_ hb)
     have n5_ := Aside0.mk (below_step z12_ hb)
     clear HO120; clear HO123; clear HO126; clear BK116; clear BK117; clear HB
     have HO120 := n0_
     have HO123 := n1_
     have HO126 := n2_
     have BK116 := n3_
     have BK117 := n4_
     have HB := n5_
     clear n0_ n1_ n2_ n3_ n4_ n5_
     (try clear hb)
     (try clear hb2)
     (try clear hk)
     (try clear hi)
     refine hK.out _ _ ⟨(blk_cell BK116.out 0).trans rfl, (blk_cell BK116.out 1).trans rfl, (blk_cell BK116.out 2).trans rfl, (blk_cell BK116.out 3).trans rfl, (blk_cell BK116.out 4).trans rfl, (blk_cell BK116.out 5).trans rfl, (blk_cell BK116.out 6).trans rfl, (blk_cell BK116.out 7).trans rfl, (blk_cell BK116.out 8).trans rfl, (blk_cell BK116.out 9).trans rfl, (blk_cell BK116.out 10).trans rfl, (blk_cell BK116.out 11).trans rfl, (blk_cell BK117.out 0).trans rfl, (blk_cell BK117.out 1).trans rfl, (blk_cell BK117.out 2).trans rfl, (blk_cell BK117.out 3).trans rfl, (blk_cell BK117.out 4).trans rfl, (blk_cell BK117.out 5).trans rfl, (blk_cell BK117.out 6).trans rfl, (blk_cell BK117.out 7).trans rfl, (blk_cell BK117.out 8).trans rfl, (blk_cell BK117.out 9).trans rfl, (blk_cell BK117.out 10).trans rfl, (blk_cell BK117.out 11).trans rfl, (blk_cell BK117.out 12).trans rfl, (blk_cell BK117.out 13).trans rfl, (blk_cell BK117.out 14).trans rfl⟩ (fun hHeld => ?_)
     clear hK K
     refine norm_ (a' := ?_) ?_ ?_
     rotate_left
     ·show Act.put _ (some 35) _ = _
      simp only [Act.put, List.setIfInBounds_toArray, List.set_cons_zero, List.set_cons_succ, i64_w, i32_w]
      rfl
     refine pz_ 1 36 (tb_ 34 3) HT_.out ?_
     refine pz_ 2 37 (tb_ 34 7) HT_.out ?_
     refine pz_ 5 40 (tb_ 34 39) HT_.out ?_
     refine one_ (i := 3) (N := some 38) (tb_ 34 47) rfl rfl (one_of HT_.out (by kernel_rfl)) (by decide) (fun K hK => ?_)
     refine goes_ Tryz.func11 (by kernel_rfl) rfl #[.string a0] (by rfl) rfl rfl z22_ ?_
     with_reducible refine (pursuivantlaw27_short.calls a0 t130 _ ?gw11_ A12.out).mono ?_
     case gw11_ => exact z1_
     rintro e w' ⟨rfl, ⟨nd, rfl⟩⟩
     refine ⟨_, rfl, ?_⟩
     refine hK.out _ _ ⟨(blk_cell BK116.out 0).trans rfl, (blk_cell BK116.out 1).trans rfl, (blk_cell BK116.out 2).trans rfl, (blk_cell BK116.out 3).trans rfl, (blk_cell BK116.out 4).trans rfl, (blk_cell BK116.out 5).trans rfl, (blk_cell BK116.out 6).trans rfl, (blk_cell BK116.out 7).trans rfl, (blk_cell BK116.out 8).trans rfl, (blk_cell BK116.out 9).trans rfl, (blk_cell BK116.out 10).trans rfl, (blk_cell BK116.out 11).trans rfl, (blk_cell BK117.out 0).trans rfl, (blk_cell BK117.out 1).trans rfl, (blk_cell BK117.out 2).trans rfl, (blk_cell BK117.out 3).trans rfl, (blk_cell BK117.out 4).trans rfl, (blk_cell BK117.out 5).trans rfl, (blk_cell BK117.out 6).trans rfl, (blk_cell BK117.out 7).trans rfl, (blk_cell BK117.out 8).trans rfl, (blk_cell BK117.out 9).trans rfl, (blk_cell BK117.out 10).trans rfl, (blk_cell BK117.out 11).trans rfl, (blk_cell BK117.out 12).trans rfl, (blk_cell BK117.out 13).trans rfl, (blk_cell BK117.out 14).trans rfl⟩ (fun hHeld => ?_)
     clear hK K
     refine norm_ (a' := ?_) ?_ ?_
     rotate_left
     ·show Act.put _ (some 38) _ = _
      simp only [Act.put, List.setIfInBounds_toArray, List.set_cons_zero, List.set_cons_succ, i64_w, i32_w]
      rfl
     refine one_ (i := 4) (N := some 39) (tb_ 34 63) rfl rfl (one_of HT_.out (by kernel_rfl)) (by decide) (fun K hK => ?_)
     refine goes_ Tryz.func10 (by kernel_rfl) rfl #[.string t130] (by rfl) rfl rfl z22_ ?_
     with_reducible refine (redact_URL.calls k t130 t131 _ ?gw12_ A13.out).mono ?_
     case gw12_ => exact z1_
     rintro e w49 ⟨rfl, hb⟩
     refine ⟨_, rfl, ?_⟩
     have n0_ := Aside0.mk (Kd.V_below z45_ hb)
     have n1_ := Aside0.mk (Kd.V_below z46_ hb)
     have n2_ := Aside0.mk (Kd.V_below z47_ hb)
     have n3_ := Aside0.mk (blk_below (g := gb116) (o := .cells #[.int .i64 a2_0, .int .i64 a2_1, .int .i64 a2_2, .string a2_3, .string t127, .slice Ao36 t118.length co36, .string a2_6, .int .i64 a2_7, .int .i64 a2_8, .bool a2_9, .string a2_10, .int .u64 a2_11] 36 (0, 0)) z38_ hb)
     have n4_ := Aside0.mk (blk_below (g := gb117) (o := .cells #[.int .i64 a3_0, .int .i64 a3_1, .string a3_2, .string t128, .int .i64 a3_4, .int .i64 a3_5, .int .i64 a3_6, .int .i64 a3_7, .string a3_8, .slice Ao38 t121.length co38, .string a3_10, .int .i64 a3_11, .slice Ao40 t124.length co40, .string a3_13, .int .u64 a3_14] 42 (0, 0)) z39_ hb)
     have n5_ := Aside0.mk (below_step z12_ hb)
     clear HO120; clear HO123; clear HO126; clear BK116; clear BK117; clear HB
     have HO120 := n0_
     have HO123 := n1_
     have HO126 := n2_
     have BK116 := n3_
     have BK117 := n4_
     have HB := n5_
     clear n0_ n1_ n2_ n3_ n4_ n5_
     (try clear hb)
     (try clear hb2)
     (try clear hk)
     (try clear hi)
     refine hK.out _ _ ⟨(blk_cell BK116.out 0).trans rfl, (blk_cell BK116.out 1).trans rfl, (blk_cell BK116.out 2).trans rfl, (blk_cell BK116.out 3).trans rfl, (blk_cell BK116.out 4).trans rfl, (blk_cell BK116.out 5).trans rfl, (blk_cell BK116.out 6).trans rfl, (blk_cell BK116.out 7).trans rfl, (blk_cell BK116.out 8).trans rfl, (blk_cell BK116.out 9).trans rfl, (blk_cell BK116.out 10).trans rfl, (blk_cell BK116.out 11).trans rfl, (blk_cell BK117.out 0).trans rfl, (blk_cell BK117.out 1).trans rfl, (blk_cell BK117.out 2).trans rfl, (blk_cell BK117.out 3).trans rfl, (blk_cell BK117.out 4).trans rfl, (blk_cell BK117.out 5).trans rfl, (blk_cell BK117.out 6).trans rfl, (blk_cell BK117.out 7).trans rfl, (blk_cell BK117.out 8).trans rfl, (blk_cell BK117.out 9).trans rfl, (blk_cell BK117.out 10).trans rfl, (blk_cell BK117.out 11).trans rfl, (blk_cell BK117.out 12).trans rfl, (blk_cell BK117.out 13).trans rfl, (blk_cell BK117.out 14).trans rfl⟩ (fun hHeld => ?_)
     clear hK K
     refine norm_ (a' := ?_) ?_ ?_
     rotate_left
     ·show Act.put _ (some 39) _ = _
      simp only [Act.put, List.setIfInBounds_toArray, List.set_cons_zero, List.set_cons_succ, i64_w, i32_w]
      rfl
     refine one_ (i := 6) (N := some 41) (tb_ 34 127) rfl rfl (one_of HT_.out (by kernel_rfl)) (by decide) (fun K hK => ?_)
     refine goes_ Tryz.func11 (by kernel_rfl) rfl #[.string a0] (by rfl) rfl rfl z22_ ?_
     with_reducible refine (pursuivantlaw27_short.calls a0 t132 _ ?gw13_ A14.out).mono ?_
     case gw13_ => exact z1_
     rintro e w' ⟨rfl, ⟨nd, rfl⟩⟩
     refine ⟨_, rfl, ?_⟩
     refine hK.out _ _ ⟨(blk_cell BK116.out 0).trans rfl, (blk_cell BK116.out 1).trans rfl, (blk_cell BK116.out 2).trans rfl, (blk_cell BK116.out 3).trans rfl, (blk_cell BK116.out 4).trans rfl, (blk_cell BK116.out 5).trans rfl, (blk_cell BK116.out 6).trans rfl, (blk_cell BK116.out 7).trans rfl, (blk_cell BK116.out 8).trans rfl, (blk_cell BK116.out 9).trans rfl, (blk_cell BK116.out 10).trans rfl, (blk_cell BK116.out 11).trans rfl, (blk_cell BK117.out 0).trans rfl, (blk_cell BK117.out 1).trans rfl, (blk_cell BK117.out 2).trans rfl, (blk_cell BK117.out 3).trans rfl, (blk_cell BK117.out 4).trans rfl, (blk_cell BK117.out 5).trans rfl, (blk_cell BK117.out 6).trans rfl, (blk_cell BK117.out 7).trans rfl, (blk_cell BK117.out 8).trans rfl, (blk_cell BK117.out 9).trans rfl, (blk_cell BK117.out 10).trans rfl, (blk_cell BK117.out 11).trans rfl, (blk_cell BK117.out 12).trans rfl, (blk_cell BK117.out 13).trans rfl, (blk_cell BK117.out 14).trans rfl⟩ (fun hHeld => ?_)
     clear hK K
     refine norm_ (a' := ?_) ?_ ?_
     rotate_left
     ·show Act.put _ (some 41) _ = _
      simp only [Act.put, List.setIfInBounds_toArray, List.set_cons_zero, List.set_cons_succ, i64_w, i32_w]
      rfl
     refine one_ (i := 7) (N := some 42) (tb_ 34 255) rfl rfl (one_of HT_.out (by kernel_rfl)) (by decide) (fun K hK => ?_)
     refine goes_ Tryz.func13 (by kernel_rfl) rfl #[.string t132] (by rfl) rfl rfl z22_ ?_
     with_reducible refine (pursuivantref27_URL.calls k t132 t133 _ ?gw14_ A15.out).mono ?_
     case gw14_ => exact z1_
     rintro e w50 ⟨rfl, hb⟩
     refine ⟨_, rfl, ?_⟩
     have n0_ := Aside0.mk (Kd.V_below z45_ hb)
     have n1_ := Aside0.mk (Kd.V_below z46_ hb)
     have n2_ := Aside0.mk (Kd.V_below z47_ hb)
     have n3_ := Aside0.mk (blk_below (g := gb116) (o := .cells #[.int .i64 a2_0, .int .i64 a2_1, .int .i64 a2_2, .string a2_3, .string t127, .slice Ao36 t118.length co36, .string a2_6, .int .i64 a2_7, .int .i64 a2_8, .bool a2_9, .string a2_10, .int .u64 a2_11] 36 (0, 0)) z38_ hb)
     have n4_ := Aside0.mk (blk_below (g := gb117) (o := .cells #[.int .i64 a3_0, .int .i64 a3_1, .string a3_2, .string t128, .int .i64 a3_4, .int .i64 a3_5, .int .i64 a3_6, .int .i64 a3_7, .string a3_8, .slice Ao38 t121.length co38, .string a3_10, .int .i64 a3_11, .slice Ao40 t124.length co40, .string a3_13, .int .u64 a3_14] 42 (0, 0)) z39_ hb)
     have n5_ := Aside0.mk (below_step z12_ hb)
     clear HO120; clear HO123; clear HO126; clear BK116; clear BK117; clear HB
     have HO120 := n0_
     have HO123 := n1_
     have HO126 := n2_
     have BK116 := n3_
     have BK117 := n4_
     have HB := n5_
     clear n0_ n1_ n2_ n3_ n4_ n5_
     (try clear hb)
     (try clear hb2)
     (try clear hk)
     (try clear hi)
     refine hK.out _ _ ⟨(blk_cell BK116.out 0).trans rfl, (blk_cell BK116.out 1).trans rfl, (blk_cell BK116.out 2).trans rfl, (blk_cell BK116.out 3).trans rfl, (blk_cell BK116.out 4).trans rfl, (blk_cell BK116.out 5).trans rfl, (blk_cell BK116.out 6).trans rfl, (blk_cell BK116.out 7).trans rfl, (blk_cell BK116.out 8).trans rfl, (blk_cell BK116.out 9).trans rfl, (blk_cell BK116.out 10).trans rfl, (blk_cell BK116.out 11).trans rfl, (blk_cell BK117.out 0).trans rfl, (blk_cell BK117.out 1).trans rfl, (blk_cell BK117.out 2).trans rfl, (blk_cell BK117.out 3).trans rfl, (blk_cell BK117.out 4).trans rfl, (blk_cell BK117.out 5).trans rfl, (blk_cell BK117.out 6).trans rfl, (blk_cell BK117.out 7).trans rfl, (blk_cell BK117.out 8).trans rfl, (blk_cell BK117.out 9).trans rfl, (blk_cell BK117.out 10).trans rfl, (blk_cell BK117.out 11).trans rfl, (blk_cell BK117.out 12).trans rfl, (blk_cell BK117.out 13).trans rfl, (blk_cell BK117.out 14).trans rfl⟩ (fun hHeld => ?_)
     clear hK K
     refine norm_ (a' := ?_) ?_ ?_
     rotate_left
     ·show Act.put _ (some 42) _ = _
      simp only [Act.put, List.setIfInBounds_toArray, List.set_cons_zero, List.set_cons_succ, i64_w, i32_w]
      rfl
     refine pz_ 8 43 (tb_ 34 511) HT_.out ?_
     refine pz_ 9 44 (tb_ 34 1023) HT_.out ?_
     refine pz_ 10 45 (tb_ 34 2047) HT_.out ?_
     refine pz_ 11 46 (tb_ 34 4095) HT_.out ?_
     refine pz_ 14 49 (tb_ 34 20479) HT_.out ?_
     refine one_ (i := 12) (N := some 47) (tb_ 34 24575) rfl rfl (one_of HT_.out (by kernel_rfl)) (by decide) (fun K hK => ?_)
     refine goes_ Tryz.func12 (by kernel_rfl) rfl #[.slice A1 l1.length c1] (by rfl) rfl rfl z22_ ?_
     with_reducible refine (pursuivantlaw27_few.calls (fun k_ => k_ < w.heap.size) _ _ l1 t134 _ ?gw15_ ?side1c4 A17.out).mono ?_
     case gw15_ => exact z1_
     (case side1c4 => exact Kd.V_mk HC1.out (Kd.F_below (Kd.C_F k58_heap HR1.out) z12_))
     rintro e w51 ⟨v135, rfl, ho0, hb⟩
     refine ⟨_, rfl, ?_⟩
     have n0_ := Aside0.mk (Kd.V_below z45_ hb)
     have n1_ := Aside0.mk (Kd.V_below z46_ hb)
     have n2_ := Aside0.mk (Kd.V_below z47_ hb)
     have n3_ := Aside0.mk (Kd.V_lower (Kd.V_mono (ok' := fun k_ => k_ ≠ gb116 ∧ k_ ≠ gb117) ho0 (fun k_ hk_ => ⟨Or.elim hk_ (fun hs_ => fun e_ => Nat.not_le.2 hs_ z64_) (fun hn_ => (Kd.freshB (g := gb116) (o := .cells #[.int .i64 a2_0, .int .i64 a2_1, .int .i64 a2_2, .string a2_3, .string t127, .slice Ao36 t118.length co36, .string a2_6, .int .i64 a2_7, .int .i64 a2_8, .bool a2_9, .string a2_10, .int .u64 a2_11] 36 (0, 0)) z38_ k_ hn_)), Or.elim hk_ (fun hs_ => fun e_ => Nat.not_le.2 hs_ z65_) (fun hn_ => (Kd.freshB (g := gb117) (o := .cells #[.int .i64 a3_0, .int .i64 a3_1, .string a3_2, .string t128, .int .i64 a3_4, .int .i64 a3_5, .int .i64 a3_6, .int .i64 a3_7, .string a3_8, .slice Ao38 t121.length co38, .string a3_10, .int .i64 a3_11, .slice Ao40 t124.length co40, .string a3_13, .int .u64 a3_14] 42 (0, 0)) z39_ k_ hn_))⟩)) (below_size z12_))
     have n4_ := Aside0.mk (blk_below (g := gb116) (o := .cells #[.int .i64 a2_0, .int .i64 a2_1, .int .i64 a2_2, .string a2_3, .string t127, .slice Ao36 t118.length co36, .string a2_6, .int .i64 a2_7, .int .i64 a2_8, .bool a2_9, .string a2_10, .int .u64 a2_11] 36 (0, 0)) z38_ hb)
     have n5_ := Aside0.mk (blk_below (g := gb117) (o := .cells #[.int .i64 a3_0, .int .i64 a3_1, .string a3_2, .string t128, .int .i64 a3_4, .int .i64 a3_5, .int .i64 a3_6, .int .i64 a3_7, .string a3_8, .slice Ao38 t121.length co38, .string a3_10, .int .i64 a3_11, .slice Ao40 t124.length co40, .string a3_13, .int .u64 a3_14] 42 (0, 0)) z39_ hb)
     have n6_ := Aside0.mk (below_step z12_ hb)
     clear HO120; clear HO123; clear HO126; clear BK116; clear BK117; clear HB
     have HO120 := n0_
     have HO123 := n1_
     have HO126 := n2_
     have HO136 := n3_
     have BK116 := n4_
     have BK117 := n5_
     have HB := n6_
     clear n0_ n1_ n2_ n3_ n4_ n5_ n6_
     (try clear hb)
     (try clear hb2)
     (try clear hk)
     (try clear hi)
     (try clear ho0)
     obtain ⟨Ao52, co52, eo52⟩ := Kd.V_slice HO136.out
     (first | subst eo52 | (injection eo52 with f1_ f2_ f3_; have f4_ := f1_.symm; have f5_ := f3_.symm; clear f1_ f2_ f3_; subst f4_; subst f5_))
     refine hK.out _ _ ⟨(blk_cell BK116.out 0).trans rfl, (blk_cell BK116.out 1).trans rfl, (blk_cell BK116.out 2).trans rfl, (blk_cell BK116.out 3).trans rfl, (blk_cell BK116.out 4).trans rfl, (blk_cell BK116.out 5).trans rfl, (blk_cell BK116.out 6).trans rfl, (blk_cell BK116.out 7).trans rfl, (blk_cell BK116.out 8).trans rfl, (blk_cell BK116.out 9).trans rfl, (blk_cell BK116.out 10).trans rfl, (blk_cell BK116.out 11).trans rfl, (blk_cell BK117.out 0).trans rfl, (blk_cell BK117.out 1).trans rfl, (blk_cell BK117.out 2).trans rfl, (blk_cell BK117.out 3).trans rfl, (blk_cell BK117.out 4).trans rfl, (blk_cell BK117.out 5).trans rfl, (blk_cell BK117.out 6).trans rfl, (blk_cell BK117.out 7).trans rfl, (blk_cell BK117.out 8).trans rfl, (blk_cell BK117.out 9).trans rfl, (blk_cell BK117.out 10).trans rfl, (blk_cell BK117.out 11).trans rfl, (blk_cell BK117.out 12).trans rfl, (blk_cell BK117.out 13).trans rfl, (blk_cell BK117.out 14).trans rfl⟩ (fun hHeld => ?_)
     clear hK K
     refine norm_ (a' := ?_) ?_ ?_
     rotate_left
     ·show Act.put _ (some 47) _ = _
      simp only [Act.put, List.setIfInBounds_toArray, List.set_cons_zero, List.set_cons_succ, i64_w, i32_w]
      rfl
     refine one_ (i := 13) (N := some 48) (tb_ 34 32767) rfl rfl (one_of HT_.out (by kernel_rfl)) (by decide) (fun K hK => ?_)
     refine goes_ Tryz.func15 (by kernel_rfl) rfl #[.slice Ao52 t134.length co52] (by rfl) rfl rfl z22_ ?_
     with_reducible refine (redact_Headers.calls k _ _ t134 t137 _ ?gw16_ ?side1c5 ?side2c5 A18.out).mono ?_
     case gw16_ => exact z1_
     (case side1c5 => repeat (first | exact (Kd.V_reads' HO136.out).2.2 | (with_reducible refine Kd.C_alloc ?_ _) | (with_reducible refine Kd.C_drewN ?_ _) | (with_reducible refine Kd.C_drew ?_)))
     (case side2c5 => exact (Kd.V_reads' HO136.out).2.1)
     rintro e w53 ⟨v138, rfl, ho0, hb⟩
     refine ⟨_, rfl, ?_⟩
     have n0_ := Aside0.mk (Kd.V_below z45_ hb)
     have n1_ := Aside0.mk (Kd.V_below z46_ hb)
     have n2_ := Aside0.mk (Kd.V_below z47_ hb)
     have n3_ := Aside0.mk (Kd.V_below z48_ hb)
     have n4_ := Aside0.mk (Kd.V_lower (Kd.V_mono (ok' := fun k_ => k_ ≠ gb116 ∧ k_ ≠ gb117) ho0 (fun k_ hk_ => ⟨(Kd.freshB (g := gb116) (o := .cells #[.int .i64 a2_0, .int .i64 a2_1, .int .i64 a2_2, .string a2_3, .string t127, .slice Ao36 t118.length co36, .string a2_6, .int .i64 a2_7, .int .i64 a2_8, .bool a2_9, .string a2_10, .int .u64 a2_11] 36 (0, 0)) z38_ k_ hk_), (Kd.freshB (g := gb117) (o := .cells #[.int .i64 a3_0, .int .i64 a3_1, .string a3_2, .string t128, .int .i64 a3_4, .int .i64 a3_5, .int .i64 a3_6, .int .i64 a3_7, .string a3_8, .slice Ao38 t121.length co38, .string a3_10, .int .i64 a3_11, .slice Ao40 t124.length co40, .string a3_13, .int .u64 a3_14] 42 (0, 0)) z39_ k_ hk_)⟩)) (below_size z12_))
     have n5_ := Aside0.mk (blk_below (g := gb116) (o := .cells #[.int .i64 a2_0, .int .i64 a2_1, .int .i64 a2_2, .string a2_3, .string t127, .slice Ao36 t118.length co36, .string a2_6, .int .i64 a2_7, .int .i64 a2_8, .bool a2_9, .string a2_10, .int .u64 a2_11] 36 (0, 0)) z38_ hb)
     have n6_ := Aside0.mk (blk_below (g := gb117) (o := .cells #[.int .i64 a3_0, .int .i64 a3_1, .string a3_2, .string t128, .int .i64 a3_4, .int .i64 a3_5, .int .i64 a3_6, .int .i64 a3_7, .string a3_8, .slice Ao38 t121.length co38, .string a3_10, .int .i64 a3_11, .slice Ao40 t124.length co40, .string a3_13, .int .u64 a3_14] 42 (0, 0)) z39_ hb)
     have n7_ := Aside0.mk (below_step z12_ hb)
     clear HO120; clear HO123; clear HO126; clear HO136; clear BK116; clear BK117; clear HB
     have HO120 := n0_
     have HO123 := n1_
     have HO126 := n2_
     have HO136 := n3_
     have HO139 := n4_
     have BK116 := n5_
     have BK117 := n6_
     have HB := n7_
     clear n0_ n1_ n2_ n3_ n4_ n5_ n6_ n7_
     (try clear hb)
     (try clear hb2)
     (try clear hk)
     (try clear hi)
     (try clear ho0)
     refine hK.out _ _ ⟨(blk_cell BK116.out 0).trans rfl, (blk_cell BK116.out 1).trans rfl, (blk_cell BK116.out 2).trans rfl, (blk_cell BK116.out 3).trans rfl, (blk_cell BK116.out 4).trans rfl, (blk_cell BK116.out 5).trans rfl, (blk_cell BK116.out 6).trans rfl, (blk_cell BK116.out 7).trans rfl, (blk_cell BK116.out 8).trans rfl, (blk_cell BK116.out 9).trans rfl, (blk_cell BK116.out 10).trans rfl, (blk_cell BK116.out 11).trans rfl, (blk_cell BK117.out 0).trans rfl, (blk_cell BK117.out 1).trans rfl, (blk_cell BK117.out 2).trans rfl, (blk_cell BK117.out 3).trans rfl, (blk_cell BK117.out 4).trans rfl, (blk_cell BK117.out 5).trans rfl, (blk_cell BK117.out 6).trans rfl, (blk_cell BK117.out 7).trans rfl, (blk_cell BK117.out 8).trans rfl, (blk_cell BK117.out 9).trans rfl, (blk_cell BK117.out 10).trans rfl, (blk_cell BK117.out 11).trans rfl, (blk_cell BK117.out 12).trans rfl, (blk_cell BK117.out 13).trans rfl, (blk_cell BK117.out 14).trans rfl⟩ (fun hHeld => ?_)
     clear hK K
     refine norm_ (a' := ?_) ?_ ?_
     rotate_left
     ·show Act.put _ (some 48) _ = _
      simp only [Act.put, List.setIfInBounds_toArray, List.set_cons_zero, List.set_cons_succ, i64_w, i32_w]
      rfl
     refine one_ (i := 15) (N := some 50) (tb_ 34 65535) rfl rfl (one_of HT_.out (by kernel_rfl)) (by decide) (fun K hK => ?_)
     refine goes_ Tryz.func12 (by kernel_rfl) rfl #[.slice A1 l1.length c1] (by rfl) rfl rfl z22_ ?_
     with_reducible refine (pursuivantlaw27_few.calls (fun k_ => k_ < w.heap.size) _ _ l1 t140 _ ?gw17_ ?side1c6 A19.out).mono ?_
     case gw17_ => exact z1_
     (case side1c6 => exact Kd.V_mk HC1.out (Kd.F_below (Kd.C_F k58_heap HR1.out) z12_))
     rintro e w54 ⟨v141, rfl, ho0, hb⟩
     refine ⟨_, rfl, ?_⟩
     have n0_ := Aside0.mk (Kd.V_below z45_ hb)
     have n1_ := Aside0.mk (Kd.V_below z46_ hb)
     have n2_ := Aside0.mk (Kd.V_below z47_ hb)
     have n3_ := Aside0.mk (Kd.V_below z48_ hb)
     have n4_ := Aside0.mk (Kd.V_below z49_ hb)
     have n5_ := Aside0.mk (Kd.V_lower (Kd.V_mono (ok' := fun k_ => k_ ≠ gb116 ∧ k_ ≠ gb117) ho0 (fun k_ hk_ => ⟨Or.elim hk_ (fun hs_ => fun e_ => Nat.not_le.2 hs_ z64_) (fun hn_ => (Kd.freshB (g := gb116) (o := .cells #[.int .i64 a2_0, .int .i64 a2_1, .int .i64 a2_2, .string a2_3, .string t127, .slice Ao36 t118.length co36, .string a2_6, .int .i64 a2_7, .int .i64 a2_8, .bool a2_9, .string a2_10, .int .u64 a2_11] 36 (0, 0)) z38_ k_ hn_)), Or.elim hk_ (fun hs_ => fun e_ => Nat.not_le.2 hs_ z65_) (fun hn_ => (Kd.freshB (g := gb117) (o := .cells #[.int .i64 a3_0, .int .i64 a3_1, .string a3_2, .string t128, .int .i64 a3_4, .int .i64 a3_5, .int .i64 a3_6, .int .i64 a3_7, .string a3_8, .slice Ao38 t121.length co38, .string a3_10, .int .i64 a3_11, .slice Ao40 t124.length co40, .string a3_13, .int .u64 a3_14] 42 (0, 0)) z39_ k_ hn_))⟩)) (below_size z12_))
     have n6_ := Aside0.mk (blk_below (g := gb116) (o := .cells #[.int .i64 a2_0, .int .i64 a2_1, .int .i64 a2_2, .string a2_3, .string t127, .slice Ao36 t118.length co36, .string a2_6, .int .i64 a2_7, .int .i64 a2_8, .bool a2_9, .string a2_10, .int .u64 a2_11] 36 (0, 0)) z38_ hb)
     have n7_ := Aside0.mk (blk_below (g := gb117) (o := .cells #[.int .i64 a3_0, .int .i64 a3_1, .string a3_2, .string t128, .int .i64 a3_4, .int .i64 a3_5, .int .i64 a3_6, .int .i64 a3_7, .string a3_8, .slice Ao38 t121.length co38, .string a3_10, .int .i64 a3_11, .slice Ao40 t124.length co40, .string a3_13, .int .u64 a3_14] 42 (0, 0)) z39_ hb)
     have n8_ := Aside0.mk (below_step z12_ hb)
     clear HO120; clear HO123; clear HO126; clear HO136; clear HO139; clear BK116; clear BK117; clear HB
     have HO120 := n0_
     have HO123 := n1_
     have HO126 := n2_
     have HO136 := n3_
     have HO139 := n4_
     have HO142 := n5_
     have BK116 := n6_
     have BK117 := n7_
     have HB := n8_
     clear n0_ n1_ n2_ n3_ n4_ n5_ n6_ n7_ n8_
     (try clear hb)
     (try clear hb2)
     (try clear hk)
     (try clear hi)
     (try clear ho0)
     obtain ⟨Ao55, co55, eo55⟩ := Kd.V_slice HO142.out
     (first | subst eo55 | (injection eo55 with f1_ f2_ f3_; have f4_ := f1_.symm; have f5_ := f3_.symm; clear f1_ f2_ f3_; subst f4_; subst f5_))
     refine hK.out _ _ ⟨(blk_cell BK116.out 0).trans rfl, (blk_cell BK116.out 1).trans rfl, (blk_cell BK116.out 2).trans rfl, (blk_cell BK116.out 3).trans rfl, (blk_cell BK116.out 4).trans rfl, (blk_cell BK116.out 5).trans rfl, (blk_cell BK116.out 6).trans rfl, (blk_cell BK116.out 7).trans rfl, (blk_cell BK116.out 8).trans rfl, (blk_cell BK116.out 9).trans rfl, (blk_cell BK116.out 10).trans rfl, (blk_cell BK116.out 11).trans rfl, (blk_cell BK117.out 0).trans rfl, (blk_cell BK117.out 1).trans rfl, (blk_cell BK117.out 2).trans rfl, (blk_cell BK117.out 3).trans rfl, (blk_cell BK117.out 4).trans rfl, (blk_cell BK117.out 5).trans rfl, (blk_cell BK117.out 6).trans rfl, (blk_cell BK117.out 7).trans rfl, (blk_cell BK117.out 8).trans rfl, (blk_cell BK117.out 9).trans rfl, (blk_cell BK117.out 10).trans rfl, (blk_cell BK117.out 11).trans rfl, (blk_cell BK117.out 12).trans rfl, (blk_cell BK117.out 13).trans rfl, (blk_cell BK117.out 14).trans rfl⟩ (fun hHeld => ?_)
     clear hK K
     refine norm_ (a' := ?_) ?_ ?_
     rotate_left
     ·show Act.put _ (some 50) _ = _
      simp only [Act.put, List.setIfInBounds_toArray, List.set_cons_zero, List.set_cons_succ, i64_w, i32_w]
      rfl
     refine one_ (i := 16) (N := some 51) (tb_ 34 131071) rfl rfl (one_of HT_.out (by kernel_rfl)) (by decide) (fun K hK => ?_)
     refine goes_ Tryz.func16 (by kernel_rfl) rfl #[.slice Ao55 t140.length co55] (by rfl) rfl rfl z22_ ?_
     with_reducible refine (pursuivantref27_Headers.calls k _ _ t140 t143 _ ?gw18_ ?side1c7 ?side2c7 A20.out).mono ?_
     case gw18_ => exact z1_
     (case side1c7 => repeat (first | exact (Kd.V_reads' HO142.out).2.2 | (with_reducible refine Kd.C_alloc ?_ _) | (with_reducible refine Kd.C_drewN ?_ _) | (with_reducible refine Kd.C_drew ?_)))
     (case side2c7 => exact (Kd.V_reads' HO142.out).2.1)
     rintro e w56 ⟨v144, rfl, ho0, hb⟩
     refine ⟨_, rfl, ?_⟩
     have n0_ := Aside0.mk (Kd.V_elder' z45_ (Kd.R_base ho0) hb)
     have n1_ := Aside0.mk (Kd.V_elder' z46_ (Kd.R_base ho0) hb)
     have n2_ := Aside0.mk (Kd.V_elder' z47_ (Kd.R_base ho0) hb)
     have n3_ := Aside0.mk (Kd.V_elder' z48_ (Kd.R_base ho0) hb)
     have n4_ := Aside0.mk (Kd.V_elder' z49_ (Kd.R_base ho0) hb)
     have n5_ := Aside0.mk (Kd.V_elder' z50_ (Kd.R_base ho0) hb)
     have n6_ := Aside0.mk (Kd.R_lower ho0 (below_size z12_))
     have n7_ := Aside0.mk (blk_below (g := gb116) (o := .cells #[.int .i64 a2_0, .int .i64 a2_1, .int .i64 a2_2, .string a2_3, .string t127, .slice Ao36 t118.length co36, .string a2_6, .int .i64 a2_7, .int .i64 a2_8, .bool a2_9, .string a2_10, .int .u64 a2_11] 36 (0, 0)) z38_ hb)
     have n8_ := Aside0.mk (blk_below (g := gb117) (o := .cells #[.int .i64 a3_0, .int .i64 a3_1, .string a3_2, .string t128, .int .i64 a3_4, .int .i64 a3_5, .int .i64 a3_6, .int .i64 a3_7, .string a3_8, .slice Ao38 t121.length co38, .string a3_10, .int .i64 a3_11, .slice Ao40 t124.length co40, .string a3_13, .int .u64 a3_14] 42 (0, 0)) z39_ hb)
     have n9_ := Aside0.mk (below_step z12_ hb)
     clear HO120; clear HO123; clear HO126; clear HO136; clear HO139; clear HO142; clear BK116; clear BK117; clear HB
     have HO120 := n0_
     have HO123 := n1_
     have HO126 := n2_
     have HO136 := n3_
     have HO139 := n4_
     have HO142 := n5_
     have HO145 := n6_
     have BK116 := n7_
     have BK117 := n8_
     have HB := n9_
     clear n0_ n1_ n2_ n3_ n4_ n5_ n6_ n7_ n8_ n9_
     (try clear hb)
     (try clear hb2)
     (try clear hk)
     (try clear hi)
     (try clear ho0)
     obtain ⟨Ao57, co57, eo57⟩ := Kd.V_slice HO139.out
     (first | subst eo57 | (injection eo57 with f1_ f2_ f3_; have f4_ := f1_.symm; have f5_ := f3_.symm; clear f1_ f2_ f3_; subst f4_; subst f5_))
     obtain ⟨Ao58, co58, eo58⟩ := Kd.R_slice HO145.out
     (first | subst eo58 | (injection eo58 with f1_ f2_ f3_; have f4_ := f1_.symm; have f5_ := f3_.symm; clear f1_ f2_ f3_; subst f4_; subst f5_))
     refine hK.out _ _ ⟨(blk_cell BK116.out 0).trans rfl, (blk_cell BK116.out 1).trans rfl, (blk_cell BK116.out 2).trans rfl, (blk_cell BK116.out 3).trans rfl, (blk_cell BK116.out 4).trans rfl, (blk_cell BK116.out 5).trans rfl, (blk_cell BK116.out 6).trans rfl, (blk_cell BK116.out 7).trans rfl, (blk_cell BK116.out 8).trans rfl, (blk_cell BK116.out 9).trans rfl, (blk_cell BK116.out 10).trans rfl, (blk_cell BK116.out 11).trans rfl, (blk_cell BK117.out 0).trans rfl, (blk_cell BK117.out 1).trans rfl, (blk_cell BK117.out 2).trans rfl, (blk_cell BK117.out 3).trans rfl, (blk_cell BK117.out 4).trans rfl, (blk_cell BK117.out 5).trans rfl, (blk_cell BK117.out 6).trans rfl, (blk_cell BK117.out 7).trans rfl, (blk_cell BK117.out 8).trans rfl, (blk_cell BK117.out 9).trans rfl, (blk_cell BK117.out 10).trans rfl, (blk_cell BK117.out 11).trans rfl, (blk_cell BK117.out 12).trans rfl, (blk_cell BK117.out 13).trans rfl, (blk_cell BK117.out 14).trans rfl⟩ (fun hHeld => ?_)
     clear hK K
     refine norm_ (a' := ?_) ?_ ?_
     rotate_left
     ·show Act.put _ (some 51) _ = _
      simp only [Act.put, List.setIfInBounds_toArray, List.set_cons_zero, List.set_cons_succ, i64_w, i32_w]
      rfl
     refine one_ (i := 17) (N := some 52) (tb_ 34 262143) rfl rfl (one_of HT_.out (by kernel_rfl)) (by decide) (fun K hK => ?_)
     refine goes_ Tryz.func14 (by kernel_rfl) rfl #[.slice Ao57 t137.length co57, .slice Ao58 t143.length co58] (by rfl) rfl rfl z22_ ?_
     with_reducible refine (pursuivantref09_Same.calls k _ _ t137 _ _ t143 true _ ?gw19_ ?side1c8 ?side2c8 ?side3c8 ?side4c8 A21.out).mono ?_
     case gw19_ => exact z1_
     (case side1c8 => repeat (first | exact (Kd.V_reads' HO139.out).2.2 | (with_reducible refine Kd.C_alloc ?_ _) | (with_reducible refine Kd.C_drewN ?_ _) | (with_reducible refine Kd.C_drew ?_)))
     (case side2c8 => exact (Kd.V_reads' HO139.out).2.1)
     (case side3c8 => repeat (first | exact (Kd.R_reads' HO145.out).2.2 | (with_reducible refine Kd.C_alloc ?_ _) | (with_reducible refine Kd.C_drewN ?_ _) | (with_reducible refine Kd.C_drew ?_)))
     (case side4c8 => exact (Kd.R_reads' HO145.out).2.1)
     rintro e w' ⟨rfl, ⟨nd, rfl⟩⟩
     refine ⟨_, rfl, ?_⟩
     refine hK.out _ _ ⟨(blk_cell BK116.out 0).trans rfl, (blk_cell BK116.out 1).trans rfl, (blk_cell BK116.out 2).trans rfl, (blk_cell BK116.out 3).trans rfl, (blk_cell BK116.out 4).trans rfl, (blk_cell BK116.out 5).trans rfl, (blk_cell BK116.out 6).trans rfl, (blk_cell BK116.out 7).trans rfl, (blk_cell BK116.out 8).trans rfl, (blk_cell BK116.out 9).trans rfl, (blk_cell BK116.out 10).trans rfl, (blk_cell BK116.out 11).trans rfl, (blk_cell BK117.out 0).trans rfl, (blk_cell BK117.out 1).trans rfl, (blk_cell BK117.out 2).trans rfl, (blk_cell BK117.out 3).trans rfl, (blk_cell BK117.out 4).trans rfl, (blk_cell BK117.out 5).trans rfl, (blk_cell BK117.out 6).trans rfl, (blk_cell BK117.out 7).trans rfl, (blk_cell BK117.out 8).trans rfl, (blk_cell BK117.out 9).trans rfl, (blk_cell BK117.out 10).trans rfl, (blk_cell BK117.out 11).trans rfl, (blk_cell BK117.out 12).trans rfl, (blk_cell BK117.out 13).trans rfl, (blk_cell BK117.out 14).trans rfl⟩ (fun hHeld => ?_)
     clear hK K
     refine norm_ (a' := ?_) ?_ ?_
     rotate_left
     ·show Act.put _ (some 52) _ = _
      simp only [Act.put, List.setIfInBounds_toArray, List.set_cons_zero, List.set_cons_succ, i64_w, i32_w]
      rfl
     refine pz_ 18 53 (tb_ 34 524287) HT_.out ?_
     refine pz_ 19 54 (tb_ 34 1048575) HT_.out ?_
     refine take_ (i := 20) (N := some 55) (v := ?_) (a' := ?_) (tb_ 34 2097151) rfl rfl (take_ofW HT_.out HW_.out (by kernel_rfl)) (fun _ _ _ h => h) (Or.inl ⟨by rfl, ?_⟩) hHeld ?_ ?_
     rotate_left
     ·rintro w' ⟨s0, s1, s2, s3, s4, s5, s6, s7, s8, s9, s10, s11, s12, s13, s14, s15, s16, s17, s18, s19, s20, s21, s22, s23, s24, s25, s26⟩
      go_simp
      with_reducible rfl
     rotate_left
     ·simp only [Act.put, List.setIfInBounds_toArray, List.set_cons_zero, List.set_cons_succ, i64_w, i32_w]
      rfl
     refine take_ (i := 22) (N := some 57) (v := ?_) (a' := ?_) (tb_ 34 6291455) rfl rfl (take_ofW HT_.out HW_.out (by kernel_rfl)) (fun _ _ _ h => h) (Or.inl ⟨by rfl, ?_⟩) hHeld ?_ ?_
     rotate_left
     ·rintro w' ⟨s0, s1, s2, s3, s4, s5, s6, s7, s8, s9, s10, s11, s12, s13, s14, s15, s16, s17, s18, s19, s20, s21, s22, s23, s24, s25, s26⟩
      go_simp
      with_reducible rfl
     rotate_left
     ·simp only [Act.put, List.setIfInBounds_toArray, List.set_cons_zero, List.set_cons_succ, i64_w, i32_w]
      rfl
     refine one_ (i := 21) (N := some 56) (tb_ 34 8388607) rfl rfl (one_of HT_.out (by kernel_rfl)) (by decide) (fun K hK => ?_)
     refine goes_ Tryz.func18 (by kernel_rfl) rfl #[.agg #[.int .i64 a2_0, .int .i64 a2_1, .int .i64 a2_2, .string a2_3, .string t127, .slice Ao36 t118.length co36, .string a2_6, .int .i64 a2_7, .int .i64 a2_8, .bool a2_9, .string a2_10, .int .u64 a2_11]] (by rfl) rfl rfl z22_ ?_
     with_reducible refine (redact_Event.calls k a2_0 a2_1 a2_2 a2_3 t127 _ _ t118 a2_6 a2_7 a2_8 a2_9 a2_10 a2_11 t147 t148 t149 t150 t151 t152 t155 t156 t157 t158 t159 t160 _ ?gw20_ ?side1c9 ?side2c9 A23.out).mono ?_
     case gw20_ => exact z1_
     (case side1c9 => repeat (first | exact (Kd.V_reads' HO120.out).2.2 | (with_reducible refine Kd.C_alloc ?_ _) | (with_reducible refine Kd.C_drewN ?_ _) | (with_reducible refine Kd.C_drew ?_)))
     (case side2c9 => exact (Kd.V_reads' HO120.out).2.1)
     rintro e w59 ⟨v153, rfl, ho0, hb⟩
     refine ⟨_, rfl, ?_⟩
     have n0_ := Aside0.mk (Kd.V_below z45_ hb)
     have n1_ := Aside0.mk (Kd.V_below z46_ hb)
     have n2_ := Aside0.mk (Kd.V_below z47_ hb)
     have n3_ := Aside0.mk (Kd.V_below z48_ hb)
     have n4_ := Aside0.mk (Kd.V_below z49_ hb)
     have n5_ := Aside0.mk (Kd.V_below z50_ hb)
     have n6_ := Aside0.mk (Kd.R_below z51_ hb)
     have n7_ := Aside0.mk (Kd.V_lower (Kd.V_mono (ok' := fun k_ => some k_ ≠ (.slice Ao58 t143.length co58 : Value).ownBlock ∧ k_ ≠ gb116 ∧ k_ ≠ gb117) ho0 (fun k_ hk_ => ⟨(Kd.fresh' (Kd.R_lt z51_) k_ hk_), (Kd.freshB (g := gb116) (o := .cells #[.int .i64 a2_0, .int .i64 a2_1, .int .i64 a2_2, .string a2_3, .string t127, .slice Ao36 t118.length co36, .string a2_6, .int .i64 a2_7, .int .i64 a2_8, .bool a2_9, .string a2_10, .int .u64 a2_11] 36 (0, 0)) z38_ k_ hk_), (Kd.freshB (g := gb117) (o := .cells #[.int .i64 a3_0, .int .i64 a3_1, .string a3_2, .string t128, .int .i64 a3_4, .int .i64 a3_5, .int .i64 a3_6, .int .i64 a3_7, .string a3_8, .slice Ao38 t121.length co38, .string a3_10, .int .i64 a3_11, .slice Ao40 t124.length co40, .string a3_13, .int .u64 a3_14] 42 (0, 0)) z39_ k_ hk_)⟩)) (below_size z12_))
     have n8_ := Aside0.mk (blk_below (g := gb116) (o := .cells #[.int .i64 a2_0, .int .i64 a2_1, .int .i64 a2_2, .string a2_3, .string t127, .slice Ao36 t118.length co36, .string a2_6, .int .i64 a2_7, .int .i64 a2_8, .bool a2_9, .string a2_10, .int .u64 a2_11] 36 (0, 0)) z38_ hb)
     have n9_ := Aside0.mk (blk_below (g := gb117) (o := .cells #[.int .i64 a3_0, .int .i64 a3_1, .string a3_2, .string t128, .int .i64 a3_4, .int .i64 a3_5, .int .i64 a3_6, .int .i64 a3_7, .string a3_8, .slice Ao38 t121.length co38, .string a3_10, .int .i64 a3_11, .slice Ao40 t124.length co40, .string a3_13, .int .u64 a3_14] 42 (0, 0)) z39_ hb)
     have n10_ := Aside0.mk (below_step z12_ hb)
     clear HO120; clear HO123; clear HO126; clear HO136; clear HO139; clear HO142; clear HO145; clear BK116; clear BK117; clear HB
     have HO120 := n0_
     have HO123 := n1_
     have HO126 := n2_
     have HO136 := n3_
     have HO139 := n4_
     have HO142 := n5_
     have HO145 := n6_
     have HO154 := n7_
     have BK116 := n8_
     have BK117 := n9_
     have HB := n10_
     clear n0_ n1_ n2_ n3_ n4_ n5_ n6_ n7_ n8_ n9_ n10_
     (try clear hb)
     (try clear hb2)
     (try clear hk)
     (try clear hi)
     (try clear ho0)
     refine hK.out _ _ ⟨(blk_cell BK116.out 0).trans rfl, (blk_cell BK116.out 1).trans rfl, (blk_cell BK116.out 2).trans rfl, (blk_cell BK116.out 3).trans rfl, (blk_cell BK116.out 4).trans rfl, (blk_cell BK116.out 5).trans rfl, (blk_cell BK116.out 6).trans rfl, (blk_cell BK116.out 7).trans rfl, (blk_cell BK116.out 8).trans rfl, (blk_cell BK116.out 9).trans rfl, (blk_cell BK116.out 10).trans rfl, (blk_cell BK116.out 11).trans rfl, (blk_cell BK117.out 0).trans rfl, (blk_cell BK117.out 1).trans rfl, (blk_cell BK117.out 2).trans rfl, (blk_cell BK117.out 3).trans rfl, (blk_cell BK117.out 4).trans rfl, (blk_cell BK117.out 5).trans rfl, (blk_cell BK117.out 6).trans rfl, (blk_cell BK117.out 7).trans rfl, (blk_cell BK117.out 8).trans rfl, (blk_cell BK117.out 9).trans rfl, (blk_cell BK117.out 10).trans rfl, (blk_cell BK117.out 11).trans rfl, (blk_cell BK117.out 12).trans rfl, (blk_cell BK117.out 13).trans rfl, (blk_cell BK117.out 14).trans rfl⟩ (fun hHeld => ?_)
     clear hK K
     refine norm_ (a' := ?_) ?_ ?_
     rotate_left
     ·show Act.put _ (some 56) _ = _
      simp only [Act.put, List.setIfInBounds_toArray, List.set_cons_zero, List.set_cons_succ, i64_w, i32_w]
      rfl
     refine one_ (i := 23) (N := some 58) (tb_ 34 16777215) rfl rfl (one_of HT_.out (by kernel_rfl)) (by decide) (fun K hK => ?_)
     refine goes_ Tryz.func19 (by kernel_rfl) rfl #[.agg #[.int .i64 a2_0, .int .i64 a2_1, .int .i64 a2_2, .string a2_3, .string t127, .slice Ao36 t118.length co36, .string a2_6, .int .i64 a2_7, .int .i64 a2_8, .bool a2_9, .string a2_10, .int .u64 a2_11]] (by rfl) rfl rfl z22_ ?_
     with_reducible refine (pursuivantref27_Event.calls k a2_0 a2_1 a2_2 a2_3 t127 _ _ t118 a2_6 a2_7 a2_8 a2_9 a2_10 a2_11 t161 t162 t163 t164 t165 t166 t169 t170 t171 t172 t173 t174 _ ?gw21_ ?side1c10 ?side2c10 A24.out).mono ?_
     case gw21_ => exact z1_
     (case side1c10 => repeat (first | exact (Kd.V_reads' HO120.out).2.2 | (with_reducible refine Kd.C_alloc ?_ _) | (with_reducible refine Kd.C_drewN ?_ _) | (with_reducible refine Kd.C_drew ?_)))
     (case side2c10 => exact (Kd.V_reads' HO120.out).2.1)
     rintro e w60 ⟨v167, rfl, ho0, hb⟩
     refine ⟨_, rfl, ?_⟩
     have n0_ := Aside0.mk (Kd.V_elder' z45_ (Kd.R_base ho0) hb)
     have n1_ := Aside0.mk (Kd.V_elder' z46_ (Kd.R_base ho0) hb)
     have n2_ := Aside0.mk (Kd.V_elder' z47_ (Kd.R_base ho0) hb)
     have n3_ := Aside0.mk (Kd.V_elder' z48_ (Kd.R_base ho0) hb)
     have n4_ := Aside0.mk (Kd.V_elder' z49_ (Kd.R_base ho0) hb)
     have n5_ := Aside0.mk (Kd.V_elder' z50_ (Kd.R_base ho0) hb)
     have n6_ := Aside0.mk (Kd.R_elder' z51_ (Kd.R_base ho0) hb)
     have n7_ := Aside0.mk (Kd.V_elder' z52_ (Kd.R_base ho0) hb)
     have n8_ := Aside0.mk (Kd.R_lower (Kd.R_new' ho0 (Kd.R_lt z51_)) (below_size z12_))
     have n9_ := Aside0.mk (blk_below (g := gb116) (o := .cells #[.int .i64 a2_0, .int .i64 a2_1, .int .i64 a2_2, .string a2_3, .string t127, .slice Ao36 t118.length co36, .string a2_6, .int .i64 a2_7, .int .i64 a2_8, .bool a2_9, .string a2_10, .int .u64 a2_11] 36 (0, 0)) z38_ hb)
     have n10_ := Aside0.mk (blk_below (g := gb117) (o := .cells #[.int .i64 a3_0, .int .i64 a3_1, .string a3_2, .string t128, .int .i64 a3_4, .int .i64 a3_5, .int .i64 a3_6, .int .i64 a3_7, .string a3_8, .slice Ao38 t121.length co38, .string a3_10, .int .i64 a3_11, .slice Ao40 t124.length co40, .string a3_13, .int .u64 a3_14] 42 (0, 0)) z39_ hb)
     have n11_ := Aside0.mk (below_step z12_ hb)
     clear HO120; clear HO123; clear HO126; clear HO136; clear HO139; clear HO142; clear HO145; clear HO154; clear BK116; clear BK117; clear HB
     have HO120 := n0_
     have HO123 := n1_
     have HO126 := n2_
     have HO136 := n3_
     have HO139 := n4_
     have HO142 := n5_
     have HO145 := n6_
     have HO154 := n7_
     have HO168 := n8_
     have BK116 := n9_
     have BK117 := n10_
     have HB := n11_
     clear n0_ n1_ n2_ n3_ n4_ n5_ n6_ n7_ n8_ n9_ n10_ n11_
     (try clear hb)
     (try clear hb2)
     (try clear hk)
     (try clear hi)
     (try clear ho0)
     obtain ⟨Ao61, co61, eo61⟩ := Kd.V_slice HO154.out
     (first | subst eo61 | (injection eo61 with f1_ f2_ f3_; have f4_ := f1_.symm; have f5_ := f3_.symm; clear f1_ f2_ f3_; subst f4_; subst f5_))
     obtain ⟨Ao62, co62, eo62⟩ := Kd.R_slice HO168.out
     (first | subst eo62 | (injection eo62 with f1_ f2_ f3_; have f4_ := f1_.symm; have f5_ := f3_.symm; clear f1_ f2_ f3_; subst f4_; subst f5_))
     refine hK.out _ _ ⟨(blk_cell BK116.out 0).trans rfl, (blk_cell BK116.out 1).trans rfl, (blk_cell BK116.out 2).trans rfl, (blk_cell BK116.out 3).trans rfl, (blk_cell BK116.out 4).trans rfl, (blk_cell BK116.out 5).trans rfl, (blk_cell BK116.out 6).trans rfl, (blk_cell BK116.out 7).trans rfl, (blk_cell BK116.out 8).trans rfl, (blk_cell BK116.out 9).trans rfl, (blk_cell BK116.out 10).trans rfl, (blk_cell BK116.out 11).trans rfl, (blk_cell BK117.out 0).trans rfl, (blk_cell BK117.out 1).trans rfl, (blk_cell BK117.out 2).trans rfl, (blk_cell BK117.out 3).trans rfl, (blk_cell BK117.out 4).trans rfl, (blk_cell BK117.out 5).trans rfl, (blk_cell BK117.out 6).trans rfl, (blk_cell BK117.out 7).trans rfl, (blk_cell BK117.out 8).trans rfl, (blk_cell BK117.out 9).trans rfl, (blk_cell BK117.out 10).trans rfl, (blk_cell BK117.out 11).trans rfl, (blk_cell BK117.out 12).trans rfl, (blk_cell BK117.out 13).trans rfl, (blk_cell BK117.out 14).trans rfl⟩ (fun hHeld => ?_)
     clear hK K
     refine norm_ (a' := ?_) ?_ ?_
     rotate_left
     ·show Act.put _ (some 58) _ = _
      simp only [Act.put, List.setIfInBounds_toArray, List.set_cons_zero, List.set_cons_succ, i64_w, i32_w]
      rfl
     refine one_ (i := 24) (N := some 59) (tb_ 34 33554431) rfl rfl (one_of HT_.out (by kernel_rfl)) (by decide) (fun K hK => ?_)
     refine goes_ Tryz.func17 (by kernel_rfl) rfl #[.agg #[.int .i64 t147, .int .i64 t148, .int .i64 t149, .string t150, .string t151, .slice Ao61 t152.length co61, .string t155, .int .i64 t156, .int .i64 t157, .bool t158, .string t159, .int .u64 t160], .agg #[.int .i64 t161, .int .i64 t162, .int .i64 t163, .string t164, .string t165, .slice Ao62 t166.length co62, .string t169, .int .i64 t170, .int .i64 t171, .bool t172, .string t173, .int .u64 t174]] (by rfl) rfl rfl z22_ ?_
     with_reducible refine (pursuivantref18_SameEvent.calls k t147 t148 t149 t150 t151 _ _ t152 t155 t156 t157 t158 t159 t160 t161 t162 t163 t164 t165 _ _ t166 t169 t170 t171 t172 t173 t174 true _ ?gw22_ ?side1c11 ?side2c11 ?side3c11 ?side4c11 A25.out (by first | rfl | assumption)).mono ?_
     case gw22_ => exact z1_
     (case side1c11 => repeat (first | exact (Kd.V_reads' HO154.out).2.2 | (with_reducible refine Kd.C_alloc ?_ _) | (with_reducible refine Kd.C_drewN ?_ _) | (with_reducible refine Kd.C_drew ?_)))
     (case side2c11 => exact (Kd.V_reads' HO154.out).2.1)
     (case side3c11 => repeat (first | exact (Kd.R_reads' HO168.out).2.2 | (with_reducible refine Kd.C_alloc ?_ _) | (with_reducible refine Kd.C_drewN ?_ _) | (with_reducible refine Kd.C_drew ?_)))
     (case side4c11 => exact (Kd.R_reads' HO168.out).2.1)
     rintro e w63 ⟨rfl, hb⟩
     refine ⟨_, rfl, ?_⟩
     have n0_ := Aside0.mk (Kd.V_below z45_ hb)
     have n1_ := Aside0.mk (Kd.V_below z46_ hb)
     have n2_ := Aside0.mk (Kd.V_below z47_ hb)
     have n3_ := Aside0.mk (Kd.V_below z48_ hb)
     have n4_ := Aside0.mk (Kd.V_below z49_ hb)
     have n5_ := Aside0.mk (Kd.V_below z50_ hb)
     have n6_ := Aside0.mk (Kd.R_below z51_ hb)
     have n7_ := Aside0.mk (Kd.V_below z52_ hb)
     have n8_ := Aside0.mk (Kd.R_below z53_ hb)
     have n9_ := Aside0.mk (blk_below (g := gb116) (o := .cells #[.int .i64 a2_0, .int .i64 a2_1, .int .i64 a2_2, .string a2_3, .string t127, .slice Ao36 t118.length co36, .string a2_6, .int .i64 a2_7, .int .i64 a2_8, .bool a2_9, .string a2_10, .int .u64 a2_11] 36 (0, 0)) z38_ hb)
     have n10_ := Aside0.mk (blk_below (g := gb117) (o := .cells #[.int .i64 a3_0, .int .i64 a3_1, .string a3_2, .string t128, .int .i64 a3_4, .int .i64 a3_5, .int .i64 a3_6, .int .i64 a3_7, .string a3_8, .slice Ao38 t121.length co38, .string a3_10, .int .i64 a3_11, .slice Ao40 t124.length co40, .string a3_13, .int .u64 a3_14] 42 (0, 0)) z39_ hb)
     have n11_ := Aside0.mk (below_step z12_ hb)
     clear HO120; clear HO123; clear HO126; clear HO136; clear HO139; clear HO142; clear HO145; clear HO154; clear HO168; clear BK116; clear BK117; clear HB
     have HO120 := n0_
     have HO123 := n1_
     have HO126 := n2_
     have HO136 := n3_
     have HO139 := n4_
     have HO142 := n5_
     have HO145 := n6_
     have HO154 := n7_
     have HO168 := n8_
     have BK116 := n9_
     have BK117 := n10_
     have HB := n11_
     clear n0_ n1_ n2_ n3_ n4_ n5_ n6_ n7_ n8_ n9_ n10_ n11_
     (try clear hb)
     (try clear hb2)
     (try clear hk)
     (try clear hi)
     refine hK.out _ _ ⟨(blk_cell BK116.out 0).trans rfl, (blk_cell BK116.out 1).trans rfl, (blk_cell BK116.out 2).trans rfl, (blk_cell BK116.out 3).trans rfl, (blk_cell BK116.out 4).trans rfl, (blk_cell BK116.out 5).trans rfl, (blk_cell BK116.out 6).trans rfl, (blk_cell BK116.out 7).trans rfl, (blk_cell BK116.out 8).trans rfl, (blk_cell BK116.out 9).trans rfl, (blk_cell BK116.out 10).trans rfl, (blk_cell BK116.out 11).trans rfl, (blk_cell BK117.out 0).trans rfl, (blk_cell BK117.out 1).trans rfl, (blk_cell BK117.out 2).trans rfl, (blk_cell BK117.out 3).trans rfl, (blk_cell BK117.out 4).trans rfl, (blk_cell BK117.out 5).trans rfl, (blk_cell BK117.out 6).trans rfl, (blk_cell BK117.out 7).trans rfl, (blk_cell BK117.out 8).trans rfl, (blk_cell BK117.out 9).trans rfl, (blk_cell BK117.out 10).trans rfl, (blk_cell BK117.out 11).trans rfl, (blk_cell BK117.out 12).trans rfl, (blk_cell BK117.out 13).trans rfl, (blk_cell BK117.out 14).trans rfl⟩ (fun hHeld => ?_)
     clear hK K
     refine norm_ (a' := ?_) ?_ ?_
     rotate_left
     ·show Act.put _ (some 59) _ = _
      simp only [Act.put, List.setIfInBounds_toArray, List.set_cons_zero, List.set_cons_succ, i64_w, i32_w]
      rfl
     refine pz_ 25 60 (tb_ 34 67108863) HT_.out ?_
     refine pz_ 26 61 (tb_ 34 134217727) HT_.out ?_
     refine take_ (i := 27) (N := some 62) (v := ?_) (a' := ?_) (tb_ 34 268435455) rfl rfl (take_ofW HT_.out HW_.out (by kernel_rfl)) (fun _ _ _ h => h) (Or.inl ⟨by rfl, ?_⟩) hHeld ?_ ?_
     rotate_left
     ·rintro w' ⟨s0, s1, s2, s3, s4, s5, s6, s7, s8, s9, s10, s11, s12, s13, s14, s15, s16, s17, s18, s19, s20, s21, s22, s23, s24, s25, s26⟩
      go_simp
      with_reducible rfl
     rotate_left
     ·simp only [Act.put, List.setIfInBounds_toArray, List.set_cons_zero, List.set_cons_succ, i64_w, i32_w]
      rfl
     refine take_ (i := 29) (N := some 64) (v := ?_) (a' := ?_) (tb_ 34 805306367) rfl rfl (take_ofW HT_.out HW_.out (by kernel_rfl)) (fun _ _ _ h => h) (Or.inl ⟨by rfl, ?_⟩) hHeld ?_ ?_
     rotate_left
     ·rintro w' ⟨s0, s1, s2, s3, s4, s5, s6, s7, s8, s9, s10, s11, s12, s13, s14, s15, s16, s17, s18, s19, s20, s21, s22, s23, s24, s25, s26⟩
      go_simp
      with_reducible rfl
     rotate_left
     ·simp only [Act.put, List.setIfInBounds_toArray, List.set_cons_zero, List.set_cons_succ, i64_w, i32_w]
      rfl
     refine one_ (i := 28) (N := some 63) (tb_ 34 1073741823) rfl rfl (one_of HT_.out (by kernel_rfl)) (by decide) (fun K hK => ?_)
     refine goes_ Tryz.func21 (by kernel_rfl) rfl #[.agg #[.int .i64 a3_0, .int .i64 a3_1, .string a3_2, .string t128, .int .i64 a3_4, .int .i64 a3_5, .int .i64 a3_6, .int .i64 a3_7, .string a3_8, .slice Ao38 t121.length co38, .string a3_10, .int .i64 a3_11, .slice Ao40 t124.length co40, .string a3_13, .int .u64 a3_14]] (by rfl) rfl rfl z22_ ?_
     with_reducible refine (redact_Input.calls k a3_0 a3_1 a3_2 t128 a3_4 a3_5 a3_6 a3_7 a3_8 _ _ t121 a3_10 a3_11 _ _ t124 a3_13 a3_14 t176 t177 t178 t179 t180 t181 t182 t183 t184 t185 t188 t189 t190 t193 t194 _ ?gw23_ ?side1c12 ?side2c12 ?side3c12 ?side4c12 A27.out).mono ?_
     case gw23_ => exact z1_
     (case side1c12 => repeat (first | exact (Kd.V_reads' HO123.out).2.2 | (with_reducible refine Kd.C_alloc ?_ _) | (with_reducible refine Kd.C_drewN ?_ _) | (with_reducible refine Kd.C_drew ?_)))
     (case side2c12 => exact (Kd.V_reads' HO123.out).2.1)
     (case side3c12 => repeat (first | exact (Kd.V_reads' HO126.out).2.2 | (with_reducible refine Kd.C_alloc ?_ _) | (with_reducible refine Kd.C_drewN ?_ _) | (with_reducible refine Kd.C_drew ?_)))
     (case side4c12 => exact (Kd.V_reads' HO126.out).2.1)
     rintro e w64 ⟨v186, v191, rfl, ho0, ho1, hb⟩
     refine ⟨_, rfl, ?_⟩
     have n0_ := Aside0.mk (Kd.V_below z45_ hb)
     have n1_ := Aside0.mk (Kd.V_below z46_ hb)
     have n2_ := Aside0.mk (Kd.V_below z47_ hb)
     have n3_ := Aside0.mk (Kd.V_below z48_ hb)
     have n4_ := Aside0.mk (Kd.V_below z49_ hb)
     have n5_ := Aside0.mk (Kd.V_below z50_ hb)
     have n6_ := Aside0.mk (Kd.R_below z51_ hb)
     have n7_ := Aside0.mk (Kd.V_below z52_ hb)
     have n8_ := Aside0.mk (Kd.R_below z53_ hb)
     have n9_ := Aside0.mk (Kd.V_lower (Kd.V_mono (ok' := fun k_ => some k_ ≠ (.slice Ao58 t143.length co58 : Value).ownBlock ∧ some k_ ≠ (.slice Ao62 t166.length co62 : Value).ownBlock ∧ k_ ≠ gb116 ∧ k_ ≠ gb117) ho0 (fun k_ hk_ => ⟨(Kd.fresh' (Kd.R_lt z51_) k_ hk_), (Kd.fresh' (Kd.R_lt z53_) k_ hk_), (Kd.freshB (g := gb116) (o := .cells #[.int .i64 a2_0, .int .i64 a2_1, .int .i64 a2_2, .string a2_3, .string t127, .slice Ao36 t118.length co36, .string a2_6, .int .i64 a2_7, .int .i64 a2_8, .bool a2_9, .string a2_10, .int .u64 a2_11] 36 (0, 0)) z38_ k_ hk_), (Kd.freshB (g := gb117) (o := .cells #[.int .i64 a3_0, .int .i64 a3_1, .string a3_2, .string t128, .int .i64 a3_4, .int .i64 a3_5, .int .i64 a3_6, .int .i64 a3_7, .string a3_8, .slice Ao38 t121.length co38, .string a3_10, .int .i64 a3_11, .slice Ao40 t124.length co40, .string a3_13, .int .u64 a3_14] 42 (0, 0)) z39_ k_ hk_)⟩)) (below_size z12_))
     have n10_ := Aside0.mk (Kd.V_lower (Kd.V_mono (ok' := fun k_ => some k_ ≠ (.slice Ao58 t143.length co58 : Value).ownBlock ∧ some k_ ≠ (.slice Ao62 t166.length co62 : Value).ownBlock ∧ k_ ≠ gb116 ∧ k_ ≠ gb117) ho1 (fun k_ hk_ => ⟨(Kd.fresh' (Kd.R_lt z51_) k_ hk_), (Kd.fresh' (Kd.R_lt z53_) k_ hk_), (Kd.freshB (g := gb116) (o := .cells #[.int .i64 a2_0, .int .i64 a2_1, .int .i64 a2_2, .string a2_3, .string t127, .slice Ao36 t118.length co36, .string a2_6, .int .i64 a2_7, .int .i64 a2_8, .bool a2_9, .string a2_10, .int .u64 a2_11] 36 (0, 0)) z38_ k_ hk_), (Kd.freshB (g := gb117) (o := .cells #[.int .i64 a3_0, .int .i64 a3_1, .string a3_2, .string t128, .int .i64 a3_4, .int .i64 a3_5, .int .i64 a3_6, .int .i64 a3_7, .string a3_8, .slice Ao38 t121.length co38, .string a3_10, .int .i64 a3_11, .slice Ao40 t124.length co40, .string a3_13, .int .u64 a3_14] 42 (0, 0)) z39_ k_ hk_)⟩)) (below_size z12_))
     have n11_ := Aside0.mk (blk_below (g := gb116) (o := .cells #[.int .i64 a2_0, .int .i64 a2_1, .int .i64 a2_2, .string a2_3, .string t127, .slice Ao36 t118.length co36, .string a2_6, .int .i64 a2_7, .int .i64 a2_8, .bool a2_9, .string a2_10, .int .u64 a2_11] 36 (0, 0)) z38_ hb)
     have n12_ := Aside0.mk (blk_below (g := gb117) (o := .cells #[.int .i64 a3_0, .int .i64 a3_1, .string a3_2, .string t128, .int .i64 a3_4, .int .i64 a3_5, .int .i64 a3_6, .int .i64 a3_7, .string a3_8, .slice Ao38 t121.length co38, .string a3_10, .int .i64 a3_11, .slice Ao40 t124.length co40, .string a3_13, .int .u64 a3_14] 42 (0, 0)) z39_ hb)
     have n13_ := Aside0.mk (below_step z12_ hb)
     clear HO120; clear HO123; clear HO126; clear HO136; clear HO139; clear HO142; clear HO145; clear HO154; clear HO168; clear BK116; clear BK117; clear HB
     have HO120 := n0_
     have HO123 := n1_
     have HO126 := n2_
     have HO136 := n3_
     have HO139 := n4_
     have HO142 := n5_
     have HO145 := n6_
     have HO154 := n7_
     have HO168 := n8_
     have HO187 := n9_
     have HO192 := n10_
     have BK116 := n11_
     have BK117 := n12_
     have HB := n13_
     clear n0_ n1_ n2_ n3_ n4_ n5_ n6_ n7_ n8_ n9_ n10_ n11_ n12_ n13_
     (try clear hb)
     (try clear hb2)
     (try clear hk)
     (try clear hi)
     (try clear ho0)
     (try clear ho1)
     refine hK.out _ _ ⟨(blk_cell BK116.out 0).trans rfl, (blk_cell BK116.out 1).trans rfl, (blk_cell BK116.out 2).trans rfl, (blk_cell BK116.out 3).trans rfl, (blk_cell BK116.out 4).trans rfl, (blk_cell BK116.out 5).trans rfl, (blk_cell BK116.out 6).trans rfl, (blk_cell BK116.out 7).trans rfl, (blk_cell BK116.out 8).trans rfl, (blk_cell BK116.out 9).trans rfl, (blk_cell BK116.out 10).trans rfl, (blk_cell BK116.out 11).trans rfl, (blk_cell BK117.out 0).trans rfl, (blk_cell BK117.out 1).trans rfl, (blk_cell BK117.out 2).trans rfl, (blk_cell BK117.out 3).trans rfl, (blk_cell BK117.out 4).trans rfl, (blk_cell BK117.out 5).trans rfl, (blk_cell BK117.out 6).trans rfl, (blk_cell BK117.out 7).trans rfl, (blk_cell BK117.out 8).trans rfl, (blk_cell BK117.out 9).trans rfl, (blk_cell BK117.out 10).trans rfl, (blk_cell BK117.out 11).trans rfl, (blk_cell BK117.out 12).trans rfl, (blk_cell BK117.out 13).trans rfl, (blk_cell BK117.out 14).trans rfl⟩ (fun hHeld => ?_)
     clear hK K
     refine norm_ (a' := ?_) ?_ ?_
     rotate_left
     ·show Act.put _ (some 63) _ = _
      simp only [Act.put, List.setIfInBounds_toArray, List.set_cons_zero, List.set_cons_succ, i64_w, i32_w]
      rfl
     refine one_ (i := 30) (N := some 65) (tb_ 34 2147483647) rfl rfl (one_of HT_.out (by kernel_rfl)) (by decide) (fun K hK => ?_)
     refine goes_ Tryz.func22 (by kernel_rfl) rfl #[.agg #[.int .i64 a3_0, .int .i64 a3_1, .string a3_2, .string t128, .int .i64 a3_4, .int .i64 a3_5, .int .i64 a3_6, .int .i64 a3_7, .string a3_8, .slice Ao38 t121.length co38, .string a3_10, .int .i64 a3_11, .slice Ao40 t124.length co40, .string a3_13, .int .u64 a3_14]] (by rfl) rfl rfl z22_ ?_
     with_reducible refine (pursuivantref27_Input.calls k a3_0 a3_1 a3_2 t128 a3_4 a3_5 a3_6 a3_7 a3_8 _ _ t121 a3_10 a3_11 _ _ t124 a3_13 a3_14 t195 t196 t197 t198 t199 t200 t201 t202 t203 t204 t207 t208 t209 t212 t213 _ ?gw24_ ?side1c13 ?side2c13 ?side3c13 ?side4c13 A28.out).mono ?_
     case gw24_ => exact z1_
     (case side1c13 => repeat (first | exact (Kd.V_reads' HO123.out).2.2 | (with_reducible refine Kd.C_alloc ?_ _) | (with_reducible refine Kd.C_drewN ?_ _) | (with_reducible refine Kd.C_drew ?_)))
     (case side2c13 => exact (Kd.V_reads' HO123.out).2.1)
     (case side3c13 => repeat (first | exact (Kd.V_reads' HO126.out).2.2 | (with_reducible refine Kd.C_alloc ?_ _) | (with_reducible refine Kd.C_drewN ?_ _) | (with_reducible refine Kd.C_drew ?_)))
     (case side4c13 => exact (Kd.V_reads' HO126.out).2.1)
     rintro e w65 ⟨v205, v210, rfl, ho0, ho1, hb⟩
     refine ⟨_, rfl, ?_⟩
     have n0_ := Aside0.mk (Kd.V_mono (Kd.V_told (Kd.V_told (Kd.V_old z45_ hb) (Kd.R_base ho0)) (Kd.R_base ho1)) (fun _ h_ => h_.1))
     have n1_ := Aside0.mk (Kd.V_mono (Kd.V_told (Kd.V_told (Kd.V_old z46_ hb) (Kd.R_base ho0)) (Kd.R_base ho1)) (fun _ h_ => h_.1))
     have n2_ := Aside0.mk (Kd.V_mono (Kd.V_told (Kd.V_told (Kd.V_old z47_ hb) (Kd.R_base ho0)) (Kd.R_base ho1)) (fun _ h_ => h_.1))
     have n3_ := Aside0.mk (Kd.V_mono (Kd.V_told (Kd.V_told (Kd.V_old z48_ hb) (Kd.R_base ho0)) (Kd.R_base ho1)) (fun _ h_ => h_.1))
     have n4_ := Aside0.mk (Kd.V_mono (Kd.V_told (Kd.V_told (Kd.V_old z49_ hb) (Kd.R_base ho0)) (Kd.R_base ho1)) (fun _ h_ => h_.1))
     have n5_ := Aside0.mk (Kd.V_mono (Kd.V_told (Kd.V_told (Kd.V_old z50_ hb) (Kd.R_base ho0)) (Kd.R_base ho1)) (fun _ h_ => h_.1))
     have n6_ := Aside0.mk (Kd.R_mono (Kd.R_told (Kd.R_told (Kd.R_old z51_ hb) (Kd.R_base ho0)) (Kd.R_base ho1)) (fun _ h_ => h_.1))
     have n7_ := Aside0.mk (Kd.V_mono (Kd.V_told (Kd.V_told (Kd.V_old z52_ hb) (Kd.R_base ho0)) (Kd.R_base ho1)) (fun _ h_ => h_.1))
     have n8_ := Aside0.mk (Kd.R_mono (Kd.R_told (Kd.R_told (Kd.R_old z53_ hb) (Kd.R_base ho0)) (Kd.R_base ho1)) (fun _ h_ => h_.1))
     have n9_ := Aside0.mk (Kd.V_mono (Kd.V_told (Kd.V_told (Kd.V_old (by (with_reducible repeat (first | apply Kd.V_alloc | apply Kd.V_drewN | apply Kd.V_drew)); exact HO187.out) hb) (Kd.R_base ho0)) (Kd.R_base ho1)) (fun _ h_ => h_.1))
     have n10_ := Aside0.mk (Kd.V_mono (Kd.V_told (Kd.V_told (Kd.V_old (by (with_reducible repeat (first | apply Kd.V_alloc | apply Kd.V_drewN | apply Kd.V_drew)); exact HO192.out) hb) (Kd.R_base ho0)) (Kd.R_base ho1)) (fun _ h_ => h_.1))
     have n11_ := Aside0.mk (Kd.R_lower (Kd.R_new' (Kd.R_new' ho0 (Kd.R_lt z51_)) (Kd.R_lt z53_)) (below_size z12_))
     have n12_ := Aside0.mk (Kd.R_lower (Kd.R_new' (Kd.R_new' ho1 (Kd.R_lt z51_)) (Kd.R_lt z53_)) (below_size z12_))
     have n13_ := Aside0.mk (blk_below (g := gb116) (o := .cells #[.int .i64 a2_0, .int .i64 a2_1, .int .i64 a2_2, .string a2_3, .string t127, .slice Ao36 t118.length co36, .string a2_6, .int .i64 a2_7, .int .i64 a2_8, .bool a2_9, .string a2_10, .int .u64 a2_11] 36 (0, 0)) z38_ hb)
     have n14_ := Aside0.mk (blk_below (g := gb117) (o := .cells #[.int .i64 a3_0, .int .i64 a3_1, .string a3_2, .string t128, .int .i64 a3_4, .int .i64 a3_5, .int .i64 a3_6, .int .i64 a3_7, .string a3_8, .slice Ao38 t121.length co38, .string a3_10, .int .i64 a3_11, .slice Ao40 t124.length co40, .string a3_13, .int .u64 a3_14] 42 (0, 0)) z39_ hb)
     have n15_ := Aside0.mk (below_step z12_ hb)
     clear HO120; clear HO123; clear HO126; clear HO136; clear HO139; clear HO142; clear HO145; clear HO154; clear HO168; clear HO187; clear HO192; clear BK116; clear BK117; clear HB
     have HO120 := n0_
     have HO123 := n1_
     have HO126 := n2_
     have HO136 := n3_
     have HO139 := n4_
     have HO142 := n5_
     have HO145 := n6_
     have HO154 := n7_
     have HO168 := n8_
     have HO187 := n9_
     have HO192 := n10_
     have HO206 := n11_
     have HO211 := n12_
     have BK116 := n13_
     have BK117 := n14_
     have HB := n15_
     clear n0_ n1_ n2_ n3_ n4_ n5_ n6_ n7_ n8_ n9_ n10_ n11_ n12_ n13_ n14_ n15_
     (try clear hb)
     (try clear hb2)
     (try clear hk)
     (try clear hi)
     (try clear ho0)
     (try clear ho1)
     obtain ⟨Ao66, co66, eo66⟩ := Kd.V_slice HO187.out
     (first | subst eo66 | (injection eo66 with f1_ f2_ f3_; have f4_ := f1_.symm; have f5_ := f3_.symm; clear f1_ f2_ f3_; subst f4_; subst f5_))
     obtain ⟨Ao67, co67, eo67⟩ := Kd.V_slice HO192.out
     (first | subst eo67 | (injection eo67 with f1_ f2_ f3_; have f4_ := f1_.symm; have f5_ := f3_.symm; clear f1_ f2_ f3_; subst f4_; subst f5_))
     obtain ⟨Ao68, co68, eo68⟩ := Kd.R_slice HO206.out
     (first | subst eo68 | (injection eo68 with f1_ f2_ f3_; have f4_ := f1_.symm; have f5_ := f3_.symm; clear f1_ f2_ f3_; subst f4_; subst f5_))
     obtain ⟨Ao69, co69, eo69⟩ := Kd.R_slice HO211.out
     (first | subst eo69 | (injection eo69 with f1_ f2_ f3_; have f4_ := f1_.symm; have f5_ := f3_.symm; clear f1_ f2_ f3_; subst f4_; subst f5_))
     refine hK.out _ _ ⟨(blk_cell BK116.out 0).trans rfl, (blk_cell BK116.out 1).trans rfl, (blk_cell BK116.out 2).trans rfl, (blk_cell BK116.out 3).trans rfl, (blk_cell BK116.out 4).trans rfl, (blk_cell BK116.out 5).trans rfl, (blk_cell BK116.out 6).trans rfl, (blk_cell BK116.out 7).trans rfl, (blk_cell BK116.out 8).trans rfl, (blk_cell BK116.out 9).trans rfl, (blk_cell BK116.out 10).trans rfl, (blk_cell BK116.out 11).trans rfl, (blk_cell BK117.out 0).trans rfl, (blk_cell BK117.out 1).trans rfl, (blk_cell BK117.out 2).trans rfl, (blk_cell BK117.out 3).trans rfl, (blk_cell BK117.out 4).trans rfl, (blk_cell BK117.out 5).trans rfl, (blk_cell BK117.out 6).trans rfl, (blk_cell BK117.out 7).trans rfl, (blk_cell BK117.out 8).trans rfl, (blk_cell BK117.out 9).trans rfl, (blk_cell BK117.out 10).trans rfl, (blk_cell BK117.out 11).trans rfl, (blk_cell BK117.out 12).trans rfl, (blk_cell BK117.out 13).trans rfl, (blk_cell BK117.out 14).trans rfl⟩ (fun hHeld => ?_)
     clear hK K
     refine norm_ (a' := ?_) ?_ ?_
     rotate_left
     ·show Act.put _ (some 65) _ = _
      simp only [Act.put, List.setIfInBounds_toArray, List.set_cons_zero, List.set_cons_succ, i64_w, i32_w]
      rfl
     refine one_ (i := 31) (N := some 66) (tb_ 34 4294967295) rfl rfl (one_of HT_.out (by kernel_rfl)) (by decide) (fun K hK => ?_)
     refine goes_ Tryz.func20 (by kernel_rfl) rfl #[.agg #[.int .i64 t176, .int .i64 t177, .string t178, .string t179, .int .i64 t180, .int .i64 t181, .int .i64 t182, .int .i64 t183, .string t184, .slice Ao66 t185.length co66, .string t188, .int .i64 t189, .slice Ao67 t190.length co67, .string t193, .int .u64 t194], .agg #[.int .i64 t195, .int .i64 t196, .string t197, .string t198, .int .i64 t199, .int .i64 t200, .int .i64 t201, .int .i64 t202, .string t203, .slice Ao68 t204.length co68, .string t207, .int .i64 t208, .slice Ao69 t209.length co69, .string t212, .int .u64 t213]] (by rfl) rfl rfl z22_ ?_
     with_reducible refine (pursuivantref21_SameInput.calls k t176 t177 t178 t179 t180 t181 t182 t183 t184 _ _ t185 t188 t189 _ _ t190 t193 t194 t195 t196 t197 t198 t199 t200 t201 t202 t203 _ _ t204 t207 t208 _ _ t209 t212 t213 t214 _ ?gw25_ ?side1c14 ?side2c14 ?side3c14 ?side4c14 ?side5c14 ?side6c14 ?side7c14 ?side8c14 A29.out (by first | rfl | assumption)).mono ?_
     case gw25_ => exact z1_
     (case side1c14 => repeat (first | exact (Kd.V_reads' HO187.out).2.2 | (with_reducible refine Kd.C_alloc ?_ _) | (with_reducible refine Kd.C_drewN ?_ _) | (with_reducible refine Kd.C_drew ?_)))
     (case side2c14 => exact (Kd.V_reads' HO187.out).2.1)
     (case side3c14 => repeat (first | exact (Kd.V_reads' HO192.out).2.2 | (with_reducible refine Kd.C_alloc ?_ _) | (with_reducible refine Kd.C_drewN ?_ _) | (with_reducible refine Kd.C_drew ?_)))
     (case side4c14 => exact (Kd.V_reads' HO192.out).2.1)
     (case side5c14 => repeat (first | exact (Kd.R_reads' HO206.out).2.2 | (with_reducible refine Kd.C_alloc ?_ _) | (with_reducible refine Kd.C_drewN ?_ _) | (with_reducible refine Kd.C_drew ?_)))
     (case side6c14 => exact (Kd.R_reads' HO206.out).2.1)
     (case side7c14 => repeat (first | exact (Kd.R_reads' HO211.out).2.2 | (with_reducible refine Kd.C_alloc ?_ _) | (with_reducible refine Kd.C_drewN ?_ _) | (with_reducible refine Kd.C_drew ?_)))
     (case side8c14 => exact (Kd.R_reads' HO211.out).2.1)
     rintro e w70 ⟨rfl, hb⟩
     refine ⟨_, rfl, ?_⟩
     have n0_ := Aside0.mk (Kd.V_below z45_ hb)
     have n1_ := Aside0.mk (Kd.V_below z46_ hb)
     have n2_ := Aside0.mk (Kd.V_below z47_ hb)
     have n3_ := Aside0.mk (Kd.V_below z48_ hb)
     have n4_ := Aside0.mk (Kd.V_below z49_ hb)
     have n5_ := Aside0.mk (Kd.V_below z50_ hb)
     have n6_ := Aside0.mk (Kd.R_below z51_ hb)
     have n7_ := Aside0.mk (Kd.V_below z52_ hb)
     have n8_ := Aside0.mk (Kd.R_below z53_ hb)
     have n9_ := Aside0.mk (Kd.V_below (by (with_reducible repeat (first | apply Kd.V_alloc | apply Kd.V_drewN | apply Kd.V_drew)); exact HO187.out) hb)
     have n10_ := Aside0.mk (Kd.V_below (by (with_reducible repeat (first | apply Kd.V_alloc | apply Kd.V_drewN | apply Kd.V_drew)); exact HO192.out) hb)
     have n11_ := Aside0.mk (Kd.R_below (by (with_reducible repeat (first | apply Kd.R_alloc | apply Kd.R_drewN | apply Kd.R_drew)); exact HO206.out) hb)
     have n12_ := Aside0.mk (Kd.R_below (by (with_reducible repeat (first | apply Kd.R_alloc | apply Kd.R_drewN | apply Kd.R_drew)); exact HO211.out) hb)
     have n13_ := Aside0.mk (blk_below (g := gb116) (o := .cells #[.int .i64 a2_0, .int .i64 a2_1, .int .i64 a2_2, .string a2_3, .string t127, .slice Ao36 t118.length co36, .string a2_6, .int .i64 a2_7, .int .i64 a2_8, .bool a2_9, .string a2_10, .int .u64 a2_11] 36 (0, 0)) z38_ hb)
     have n14_ := Aside0.mk (blk_below (g := gb117) (o := .cells #[.int .i64 a3_0, .int .i64 a3_1, .string a3_2, .string t128, .int .i64 a3_4, .int .i64 a3_5, .int .i64 a3_6, .int .i64 a3_7, .string a3_8, .slice Ao38 t121.length co38, .string a3_10, .int .i64 a3_11, .slice Ao40 t124.length co40, .string a3_13, .int .u64 a3_14] 42 (0, 0)) z39_ hb)
     have n15_ := Aside0.mk (below_step z12_ hb)
     clear HO120; clear HO123; clear HO126; clear HO136; clear HO139; clear HO142; clear HO145; clear HO154; clear HO168; clear HO187; clear HO192; clear HO206; clear HO211; clear BK116; clear BK117; clear HB
     have HO120 := n0_
     have HO123 := n1_
     have HO126 := n2_
     have HO136 := n3_
     have HO139 := n4_
     have HO142 := n5_
     have HO145 := n6_
     have HO154 := n7_
     have HO168 := n8_
     have HO187 := n9_
     have HO192 := n10_
     have HO206 := n11_
     have HO211 := n12_
     have BK116 := n13_
     have BK117 := n14_
     have HB := n15_
     clear n0_ n1_ n2_ n3_ n4_ n5_ n6_ n7_ n8_ n9_ n10_ n11_ n12_ n13_ n14_ n15_
     (try clear hb)
     (try clear hb2)
     (try clear hk)
     (try clear hi)
     refine hK.out _ _ ⟨(blk_cell BK116.out 0).trans rfl, (blk_cell BK116.out 1).trans rfl, (blk_cell BK116.out 2).trans rfl, (blk_cell BK116.out 3).trans rfl, (blk_cell BK116.out 4).trans rfl, (blk_cell BK116.out 5).trans rfl, (blk_cell BK116.out 6).trans rfl, (blk_cell BK116.out 7).trans rfl, (blk_cell BK116.out 8).trans rfl, (blk_cell BK116.out 9).trans rfl, (blk_cell BK116.out 10).trans rfl, (blk_cell BK116.out 11).trans rfl, (blk_cell BK117.out 0).trans rfl, (blk_cell BK117.out 1).trans rfl, (blk_cell BK117.out 2).trans rfl, (blk_cell BK117.out 3).trans rfl, (blk_cell BK117.out 4).trans rfl, (blk_cell BK117.out 5).trans rfl, (blk_cell BK117.out 6).trans rfl, (blk_cell BK117.out 7).trans rfl, (blk_cell BK117.out 8).trans rfl, (blk_cell BK117.out 9).trans rfl, (blk_cell BK117.out 10).trans rfl, (blk_cell BK117.out 11).trans rfl, (blk_cell BK117.out 12).trans rfl, (blk_cell BK117.out 13).trans rfl, (blk_cell BK117.out 14).trans rfl⟩ (fun hHeld => ?_)
     clear hK K
     refine norm_ (a' := ?_) ?_ ?_
     rotate_left
     ·show Act.put _ (some 66) _ = _
      simp only [Act.put, List.setIfInBounds_toArray, List.set_cons_zero, List.set_cons_succ, i64_w, i32_w]
      rfl
     refine pz_ 32 67 (tb_ 34 8589934591) HT_.out ?_
     refine pz_ 33 8 (tb_ 34 17179869183) HT_.out ?_
     refine done_ (done_of HT_.out (by kernel_rfl)) ?_
     try go_wp2
     go_ret
     exact ⟨z25_, z12_⟩
    ·replace c26 := Bool.eq_false_iff.mpr c26
     subst c26
     have H1 : (some false) = some r := by rw [if_neg (show ¬ (false = true) by decide)] at H; exact H
     clear H
     have H := H1
     clear H1
     exact absurd ((Option.some.inj H).trans hr_) Bool.false_ne_true
   ·replace c22 := Bool.eq_false_iff.mpr c22
    subst c22
    have H1 : (some false) = some r := by rw [if_neg (show ¬ (false = true) by decide)] at H; exact H
    clear H
    have H := H1
    clear H1
    exact absurd ((Option.some.inj H).trans hr_) Bool.false_ne_true
  ·rw [if_neg c16] at H
   have c16b0 : (t131.toList == t133.toList) = false := beq_eq_false_iff_ne.mpr c16
   have c16b1 : (t131.toList != t133.toList) = true := bne_iff_ne.mpr c16
   exact absurd ((Option.some.inj H).trans hr_) Bool.false_ne_true
 ·replace c11 := Bool.eq_false_iff.mpr c11
  subst c11
  have H1 : (some false) = some r := by rw [if_neg (show ¬ (false = true) by decide)] at H; exact H
  clear H
  have H := H1
  clear H1
  exact absurd ((Option.some.inj H).trans hr_) Bool.false_ne_true

end Go.Proofs.YtoaleclnilbjcaaGreatDoor.Hand
