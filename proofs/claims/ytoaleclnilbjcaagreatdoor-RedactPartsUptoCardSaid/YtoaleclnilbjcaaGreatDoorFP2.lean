/- What each Go function here computes, and that its call computes it, over contracts proved by hand (written by this project's xprint.py, which drives the kit's print). -/
import Derived.Test.YtoaleclnilbjcaaGreatDoorZ
import Derived.Test.YtoaleclnilbjcaaGreatDoorK
import Derived.Test.YtoaleclnilbjcaaGreatDoorRdx
import Derived.Test.YtoaleclnilbjcaaGreatDoorFA1
import Derived.Test.YtoaleclnilbjcaaGreatDoorFU1
import Derived.Test.YtoaleclnilbjcaaGreatDoorFP1
namespace Go.Proofs.YtoaleclnilbjcaaGreatDoor.Hand
open Go.RowKit Go.Proofs.YtoaleclnilbjcaaGreatDoorW.PrintWords Go.Proofs.YtoaleclnilbjcaaGreatDoorW.PrintLast Go.Proofs.YtoaleclnilbjcaaGreatDoorW.PrintMore
attribute [local go_sem] Instr.field asAgg max2_int min2_int max_two min_two max_three min_three max_four min_four   -- for this text's walks alone
set_option linter.unusedVariables false
set_option linter.unusedSimpArgs false

attribute [local go_sem high] eqA58
def redact_ahead.l0 : Nat → ByteArray → ByteArray → List ByteArray → Int → Int → Option (ByteArray × Bool)
 | 0, _, _, _, _, _ => none
 | k + 1, x0, x4, x13, x14, x15 => if x15 < x14 then (if 0 ≤ x15 then (if x15 < (x13.length : Int) then ((strings_HasPrefix.f x4 (rdOf ByteArray.empty x13 x15)).bind fun t106 => (if t106 = true then (if 0 ≤ ((rdOf ByteArray.empty x13 x15).size : Int) then (if ((rdOf ByteArray.empty x13 x15).size : Int) ≤ (x0.size : Int) then (some (x0.extract 0 (((rdOf ByteArray.empty x13 x15).size : Int) : Int).toNat, true)) else (none)) else (none)) else (redact_ahead.l0 k x0 x4 x13 x14 (wrap64 (x15 + 1))))) else (none)) else (none)) else (some ((⟨#[]⟩ : ByteArray), false))
def redact_ahead.f (k : Nat) (a0 : ByteArray) : Option (ByteArray × Bool) := if 0 ≤ (mn (a0.size : Int) 8) then (if (mn (a0.size : Int) 8) ≤ (a0.size : Int) then ((ascii_Lower.f (a0.extract 0 ((mn (a0.size : Int) 8) : Int).toNat)).bind fun t101 => ((some (([(⟨#[47, 47]⟩ : ByteArray), (⟨#[104, 116, 116, 112, 58, 47, 47]⟩ : ByteArray), (⟨#[104, 116, 116, 112, 115, 58, 47, 47]⟩ : ByteArray)] : List ByteArray) : List ByteArray)).bind fun y102 => (redact_ahead.l0 k a0 t101 y102 (y102.length : Int) 0))) else (none)) else (none)
set_option maxHeartbeats 8000000 in
set_option maxRecDepth 100000 in
theorem redact_ahead.calls (k : Nat) (a0 r1 : ByteArray) (r2 : Bool) (w : World) (hG_ : GW w) (h : redact_ahead.f k a0 = some (r1, r2)) :
  Calls Tryz.prog 27 #[.string a0] w fun e w' => e = .returned (.tuple #[.string r1, .bool r2]) ∧ Below w.heap.size w w' := by
 have HB := Aside0.mk (Below.refl w.heap.size w)
 have H : (if 0 ≤ (mn (a0.size : Int) 8) then (if (mn (a0.size : Int) 8) ≤ (a0.size : Int) then ((ascii_Lower.f (a0.extract 0 ((mn (a0.size : Int) 8) : Int).toNat)).bind fun t101 => ((some (([(⟨#[47, 47]⟩ : ByteArray), (⟨#[104, 116, 116, 112, 58, 47, 47]⟩ : ByteArray), (⟨#[104, 116, 116, 112, 115, 58, 47, 47]⟩ : ByteArray)] : List ByteArray) : List ByteArray)).bind fun y102 => (redact_ahead.l0 k a0 t101 y102 (y102.length : Int) 0))) else (none)) else (none)) = some (r1, r2) := h
 clear h
 obtain ⟨ji2, hji2⟩ : ∃ j_ : Int, (mn (a0.size : Int) 8) = j_ := ⟨_, rfl⟩
 replace H : (if 0 ≤ (ji2) then (if (ji2) ≤ (a0.size : Int) then ((ascii_Lower.f (a0.extract 0 ((ji2) : Int).toNat)).bind fun t101 => ((some (([(⟨#[47, 47]⟩ : ByteArray), (⟨#[104, 116, 116, 112, 58, 47, 47]⟩ : ByteArray), (⟨#[104, 116, 116, 112, 115, 58, 47, 47]⟩ : ByteArray)] : List ByteArray) : List ByteArray)).bind fun y102 => (redact_ahead.l0 k a0 t101 y102 (y102.length : Int) 0))) else (none)) else (none)) = some (r1, r2) := by first | (rw [hji2] at H; exact H) | (simp only [hji2] at H ⊢; exact H)
 (try (have hji2h : ji2 ≤ 8 := by (rw [← hji2]; unfold mn; (repeat' split) <;> omega)))
 (try (have hji2g : ji2 ≤ 64 := by omega))
 (try (have hji2l : 0 ≤ ji2 := by (rw [← hji2]; unfold mn; (repeat' split) <;> omega)))
 (try (have hji2m : 0 ≤ ji2 := by omega))
 have hji2_ : (if 8 < (a0.size : Int) then 8 else (a0.size : Int)) = ji2 := hji2
 by_cases c3 : 0 ≤ (ji2)
 ·rw [if_pos c3] at H
  have c3b0 := eq_true c3; have c3b1 : decide (0 ≤ (ji2)) = true := decide_eq_true c3; clear c3
  by_cases c4 : (ji2) ≤ (a0.size : Int)
  ·rw [if_pos c4] at H
   have c4b0 := eq_true c4; have c4b1 : decide ((ji2) ≤ (a0.size : Int)) = true := decide_eq_true c4; clear c4
   replace H := Option.bind_eq_some_iff.mp H
   obtain ⟨t101, A50, H⟩ := H
   replace H : ((some (([(⟨#[47, 47]⟩ : ByteArray), (⟨#[104, 116, 116, 112, 58, 47, 47]⟩ : ByteArray), (⟨#[104, 116, 116, 112, 115, 58, 47, 47]⟩ : ByteArray)] : List ByteArray) : List ByteArray)).bind fun y102 => (redact_ahead.l0 k a0 t101 y102 (y102.length : Int) 0)) = some (r1, r2) := H
   have A5 := Aside0.mk A50; clear A50
   obtain ⟨y102, hy102⟩ : ∃ y_ : List ByteArray, y_ = (([(⟨#[47, 47]⟩ : ByteArray), (⟨#[104, 116, 116, 112, 58, 47, 47]⟩ : ByteArray), (⟨#[104, 116, 116, 112, 115, 58, 47, 47]⟩ : ByteArray)] : List ByteArray)) := ⟨_, rfl⟩
   replace H : (redact_ahead.l0 k a0 t101 y102 (y102.length : Int) 0) = some (r1, r2) := by first | (rw [hy102]; with_reducible exact H) | (have H2_ := (Option.bind_some _ _).symm.trans H; rw [hy102]; with_reducible exact H2_) | (have H2_ := (Option.bind_some _ _).symm.trans H; with_reducible exact H2_) | with_reducible exact H | (rw [hy102]; exact H) | exact H
   have Ny102 := Aside0.mk hy102; clear hy102
   have H' := Aside0.mk H
   clear H
   go_enter Tryz.func27, Tryz.ntmps27
   go_wp2_with (first | ((with_reducible refine gate_callee (f := 34) rfl ?_); refine goesL_ (some 12) rfl rfl Tryz.func34 (by kernel_rfl) rfl #[.string (a0.extract 0 ((ji2) : Int).toNat)] rfl (by (try simp only [List.map_toArray, List.map_cons, List.map_nil]); first | done | (simp only [hji2]; rfl) | rfl | (simp only [List.length_drop, List.length_take]; rfl)) ?_; (with_reducible refine (ascii_Lower.calls (a0.extract 0 ((ji2) : Int).toNat) t101 _ ?gw1_ A5.out).mono ?_); (case gw1_ => exact z5_); rintro e w6 ⟨rfl, hb⟩; refine ⟨_, rfl, ?_⟩; have n0_ := Aside0.mk (below_step z23_ hb); clear HB; have HB := n0_; clear n0_; (try clear hb); (try clear hb2); (try clear hk); (try clear hi)) | ((with_reducible refine gate_dst (N := 13) rfl ?_); refine Kd.R_lit Kd.string _ 9 ?hg (N := 13) ?hd (xs := ([(⟨#[47, 47]⟩ : ByteArray), (⟨#[104, 116, 116, 112, 58, 47, 47]⟩ : ByteArray), (⟨#[104, 116, 116, 112, 115, 58, 47, 47]⟩ : ByteArray)] : List ByteArray)) (inner := [.string (⟨#[47, 47]⟩ : ByteArray), .string (⟨#[104, 116, 116, 112, 58, 47, 47]⟩ : ByteArray), .string (⟨#[104, 116, 116, 112, 115, 58, 47, 47]⟩ : ByteArray)]) (ok := fun _ => True) (okp := fun _ => True) ?hr ?hp (fun _ hk => hk) trivial (Below.refl _ _) (Nat.le_refl _) (by simp) ?_; (case hd => rfl); (case hg => rfl); (case hr => first | (go_simp; done) | (go_simp; rfl)); (case hp => exact (Reps.one (show Kd.M Kd.string _ _ _ (⟨#[47, 47]⟩ : ByteArray) [.string (⟨#[47, 47]⟩ : ByteArray)] from rfl) (Reps.one (show Kd.M Kd.string _ _ _ (⟨#[104, 116, 116, 112, 58, 47, 47]⟩ : ByteArray) [.string (⟨#[104, 116, 116, 112, 58, 47, 47]⟩ : ByteArray)] from rfl) (Reps.one (show Kd.M Kd.string _ _ _ (⟨#[104, 116, 116, 112, 115, 58, 47, 47]⟩ : ByteArray) [.string (⟨#[104, 116, 116, 112, 115, 58, 47, 47]⟩ : ByteArray)] from rfl) (Reps.none _ _))))); intro v103 w7 ho8 hb hg_ hnew_; clear hg_ hnew_; (first | rw [← Ny102.out] at ho8 | (simp only [Int.reduceToNat] at ho8; rw [← Ny102.out] at ho8)); have n0_ := Aside0.mk (Kd.R_lower ho8 (below_size z23_)); have n1_ := Aside0.mk (below_step z23_ hb); clear HB; have HO104 := n0_; have HB := n1_; clear n0_ n1_; clear hb ho8; obtain ⟨Ao9, co9, eo9⟩ := Kd.R_slice HO104.out; subst eo9))
   go_loopg [15] k (fun kq v15 w' => ∃ (x15_1 : Int), v15 = .int .i64 x15_1 ∧ Aside0 (redact_ahead.l0 kq a0 t101 y102 (y102.length : Int) x15_1 = some (r1, r2)) ∧ Aside0 (kq ≤ k) ∧ Aside0 (Kd.R Kd.string 9 w' w.heap.size (fun _ => True) (.slice Ao9 y102.length co9) y102) ∧ Aside0 (Below w.heap.size w w'))
   case atStart => exact ⟨(0), z56_, H', ⟨Nat.le_refl _⟩, ⟨by (with_reducible repeat (first | apply Kd.R_alloc | apply Kd.R_drewN | apply Kd.R_drew)); exact HO104.out⟩, ⟨z23_⟩⟩
   case round =>
    clear H'; (try clear c3); (try clear c3b0); (try clear c3b1); (try clear c4); (try clear c4b0); (try clear c4b1)
    obtain ⟨x15_1, rfl, HA, HK1, HO_13, HB⟩ := hrel
    cases gk with
    | zero => exact absurd HA.out (by simp [redact_ahead.l0])
    | succ k1 =>
     have H := HA.out
     clear HA
     simp only [redact_ahead.l0] at H
     by_cases c10 : x15_1 < (y102.length : Int)
     ·rw [if_pos c10] at H
      have c10b0 : decide (x15_1 < (y102.length : Int)) = true := decide_eq_true c10; clear c10
      by_cases c11 : 0 ≤ x15_1
      ·rw [if_pos c11] at H
       have c11b0 : decide (0 ≤ x15_1) = true := decide_eq_true c11; clear c11
       by_cases c12 : x15_1 < (y102.length : Int)
       ·rw [if_pos c12] at H
        have c12b0 : decide (x15_1 < (y102.length : Int)) = true := decide_eq_true c12; clear c12
        replace H := Option.bind_eq_some_iff.mp H
        obtain ⟨t106, A130, H⟩ := H
        replace H : (if t106 = true then (if 0 ≤ ((rdOf ByteArray.empty y102 x15_1).size : Int) then (if ((rdOf ByteArray.empty y102 x15_1).size : Int) ≤ (a0.size : Int) then (some (a0.extract 0 (((rdOf ByteArray.empty y102 x15_1).size : Int) : Int).toNat, true)) else (none)) else (none)) else (redact_ahead.l0 k1 a0 t101 y102 (y102.length : Int) (wrap64 (x15_1 + 1)))) = some (r1, r2) := H
        have A13 := Aside0.mk A130; clear A130
        by_cases c14 : t106 = true
        ·subst c14
         have H1 : (if 0 ≤ ((rdOf ByteArray.empty y102 x15_1).size : Int) then (if ((rdOf ByteArray.empty y102 x15_1).size : Int) ≤ (a0.size : Int) then (some (a0.extract 0 (((rdOf ByteArray.empty y102 x15_1).size : Int) : Int).toNat, true)) else (none)) else (none)) = some (r1, r2) := by rw [if_pos rfl] at H; exact H
         clear H
         have H := H1
         clear H1
         by_cases c15 : 0 ≤ ((rdOf ByteArray.empty y102 x15_1).size : Int)
         ·rw [if_pos c15] at H
          have c15b0 := eq_true c15; have c15b1 : decide (0 ≤ ((rdOf ByteArray.empty y102 x15_1).size : Int)) = true := decide_eq_true c15; clear c15
          by_cases c16 : ((rdOf ByteArray.empty y102 x15_1).size : Int) ≤ (a0.size : Int)
          ·rw [if_pos c16] at H
           have c16b0 := eq_true c16; have c16b1 : decide (((rdOf ByteArray.empty y102 x15_1).size : Int) ≤ (a0.size : Int)) = true := decide_eq_true c16; clear c16
           simp only [Option.some.injEq, Prod.mk.injEq] at H
           obtain ⟨rfl, rfl⟩ := H
           have p105 : 0 ≤ (x15_1 : Int) := of_decide_eq_true z61_
           have q105 : x15_1 < (y102.length : Int) := of_decide_eq_true z61_
           obtain ⟨ad105, e105, hx105_0⟩ := Kd.at_string (Kd.R_reads' HO_13.out).2.2 x15_1 p105 q105
           cases e105
           replace p105 := eq_true p105
           replace q105 := eq_true q105
           go_wp2_with (first | ((with_reducible refine gate_callee (f := 62) rfl ?_); refine goesL_ (some 21) rfl rfl Tryz.func62 (by kernel_rfl) rfl #[.string t101, .string (rdOf ByteArray.empty y102 x15_1)] rfl z22_ ?_; (with_reducible refine (strings_HasPrefix.calls t101 (rdOf ByteArray.empty y102 x15_1) true _ ?gw2_ A13.out).mono ?_); (case gw2_ => exact z5_); rintro e w' ⟨rfl, ⟨nd, rfl⟩⟩; refine ⟨_, rfl, ?_⟩))
           go_ret2
           exact ⟨by first | rfl | (simp [nil_bne, nil_beq]; done) | (simp [errW_none, errW_some] <;> rfl) | (simp only [← hji2]; first | rfl | (simp [errW_none, errW_some] <;> rfl)) | (simp [*, errW_none, errW_some] <;> rfl), z23_⟩
          ·rw [if_neg c16] at H
           exact absurd H (by simp)
         ·rw [if_neg c15] at H
          exact absurd H (by simp)
        ·replace c14 := Bool.eq_false_iff.mpr c14
         subst c14
         have H1 : (redact_ahead.l0 k1 a0 t101 y102 (y102.length : Int) (wrap64 (x15_1 + 1))) = some (r1, r2) := by rw [if_neg (show ¬ (false = true) by decide)] at H; exact H
         clear H
         have H := H1
         clear H1
         have H' := Aside0.mk H
         clear H
         have p105 : 0 ≤ (x15_1 : Int) := of_decide_eq_true z61_
         have q105 : x15_1 < (y102.length : Int) := of_decide_eq_true z61_
         obtain ⟨ad105, e105, hx105_0⟩ := Kd.at_string (Kd.R_reads' HO_13.out).2.2 x15_1 p105 q105
         cases e105
         replace p105 := eq_true p105
         replace q105 := eq_true q105
         go_wp2_with (first | ((with_reducible refine gate_callee (f := 62) rfl ?_); refine goesL_ (some 21) rfl rfl Tryz.func62 (by kernel_rfl) rfl #[.string t101, .string (rdOf ByteArray.empty y102 x15_1)] rfl z22_ ?_; (with_reducible refine (strings_HasPrefix.calls t101 (rdOf ByteArray.empty y102 x15_1) false _ ?gw3_ A13.out).mono ?_); (case gw3_ => exact z5_); rintro e w' ⟨rfl, ⟨nd, rfl⟩⟩; refine ⟨_, rfl, ?_⟩))
         go_roundg k1
         case measure => have := HK1.out; omega
         case rel => exact ⟨(wrap64 (x15_1 + 1)), z56_, H', ⟨z66_⟩, ⟨by (with_reducible repeat (first | apply Kd.R_alloc | apply Kd.R_drewN | apply Kd.R_drew)); exact HO_13.out⟩, ⟨z23_⟩⟩
       ·rw [if_neg c12] at H
        exact absurd H (by simp)
      ·rw [if_neg c11] at H
       exact absurd H (by simp)
     ·rw [if_neg c10] at H
      have c10b0 : decide (x15_1 < (y102.length : Int)) = false := decide_eq_false c10; clear c10
      simp only [Option.some.injEq, Prod.mk.injEq] at H
      obtain ⟨rfl, rfl⟩ := H
      go_wp2
      go_ret2
      exact ⟨by first | rfl | (simp [nil_bne, nil_beq]; done) | (simp [errW_none, errW_some] <;> rfl) | (simp only [← hji2]; first | rfl | (simp [errW_none, errW_some] <;> rfl)) | (simp [*, errW_none, errW_some] <;> rfl), z23_⟩
  ·rw [if_neg c4] at H
   exact absurd H (by simp)
 ·rw [if_neg c3] at H
  exact absurd H (by simp)

def redact_user.f (k : Nat) (a0 : ByteArray) : Option (Bool) := if a0.toList = ([] : List UInt8) then (some false) else ((url_Good.f k (⟨#[104, 116, 116, 112]⟩ : ByteArray) a0 (⟨#[97]⟩ : ByteArray) 0 (⟨#[47]⟩ : ByteArray) false (⟨#[]⟩ : ByteArray) false (⟨#[]⟩ : ByteArray)).bind fun t107 => (some t107))
set_option maxHeartbeats 8000000 in
set_option maxRecDepth 100000 in
theorem redact_user.calls (k : Nat) (a0 : ByteArray) (r : Bool) (w : World) (hG_ : GW w) (h : redact_user.f k a0 = some r) :
  Calls Tryz.prog 30 #[.string a0] w fun e w' => e = .returned (.bool r) ∧ Below w.heap.size w w' := by
 have hu67 := Tryz.underlying67
 have HB := Aside0.mk (Below.refl w.heap.size w)
 have H : (if a0.toList = ([] : List UInt8) then (some false) else ((url_Good.f k (⟨#[104, 116, 116, 112]⟩ : ByteArray) a0 (⟨#[97]⟩ : ByteArray) 0 (⟨#[47]⟩ : ByteArray) false (⟨#[]⟩ : ByteArray) false (⟨#[]⟩ : ByteArray)).bind fun t107 => (some t107))) = some r := h
 clear h
 by_cases c2 : a0.toList = ([] : List UInt8)
 ·rw [if_pos c2] at H
  have c2b0 : (a0.toList == ([] : List UInt8)) = true := beq_iff_eq.mpr c2
  try have c2e0 : a0.toList.isEmpty = true := by rw [← nil_beq]; exact c2b0
  have c2b1 : (a0.toList != ([] : List UInt8)) = false := bne_eq_false_iff_eq.mpr c2
  clear c2
  obtain rfl := Option.some.inj H
  go_enter Tryz.func30, Tryz.ntmps30
  go_wp2
  go_ret
  exact ⟨z25_, z23_⟩
 ·rw [if_neg c2] at H
  have c2b0 : (a0.toList == ([] : List UInt8)) = false := beq_eq_false_iff_ne.mpr c2
  try have c2e0 : a0.toList.isEmpty = false := by rw [← nil_beq]; exact c2b0
  have c2b1 : (a0.toList != ([] : List UInt8)) = true := bne_iff_ne.mpr c2
  replace H := Option.bind_eq_some_iff.mp H
  obtain ⟨t107, A30, H⟩ := H
  replace H : (some t107) = some r := H
  have A3 := Aside0.mk A30; clear A30
  obtain rfl := Option.some.inj H
  go_enter Tryz.func30, Tryz.ntmps30
  go_wp2_with (first | (go_at_call 68; (fail_if_success (have z_ := U_1)); have U_1 := trivial; (with_reducible refine (url_Good.calls k (⟨#[104, 116, 116, 112]⟩ : ByteArray) a0 (⟨#[97]⟩ : ByteArray) 0 (⟨#[47]⟩ : ByteArray) false (⟨#[]⟩ : ByteArray) false (⟨#[]⟩ : ByteArray) t107 _ ?gw4_ A3.out).mono ?_); (case gw4_ => exact z5_); rintro e w4 ⟨rfl, hb⟩; have n0_ := Aside0.mk (below_step z23_ hb); clear HB; have HB := n0_; clear n0_; (try clear hb); (try clear hb2); (try clear hk); (try clear hi)))
  go_ret
  exact ⟨z25_, z23_⟩

mutual
def redact_URL.j0 : Nat → ByteArray → ByteArray → Bool → Option (ByteArray)
 | 0, _, _, _ => none
 | k + 1, x0, x3, x19 => if x19 = true then (some x0) else (if 0 ≤ (x3.size : Int) then (if (x3.size : Int) ≤ (x0.size : Int) then ((strings_IndexAny.f (x0.extract x3.size x0.size) (⟨#[47, 63, 35]⟩ : ByteArray)).bind fun t110 => (if t110 < 0 then (redact_URL.j1 k x0 x3 (x0.extract x3.size x0.size) ((x0.extract x3.size x0.size).size : Int)) else (redact_URL.j1 k x0 x3 (x0.extract x3.size x0.size) t110))) else (none)) else (none))
def redact_URL.j1 : Nat → ByteArray → ByteArray → ByteArray → Int → Option (ByteArray)
 | 0, _, _, _, _ => none
 | k + 1, x0, x3, x5, x6 => if 0 ≤ x6 then (if x6 ≤ (x5.size : Int) then ((strings_LastIndexByte.f (x5.extract 0 (x6 : Int).toNat) 64).bind fun t111 => (if t111 < 0 then (some x0) else (if 0 ≤ t111 then (if t111 ≤ (x5.size : Int) then ((redact_user.f k (x5.extract 0 (t111 : Int).toNat)).bind fun t112 => (if t112 = true then (if x3.size + 1 ≤ 9223372036854775807 then (if (x3 ++ (⟨#[42]⟩ : ByteArray)).size + (x5.extract (t111 : Int).toNat x5.size).size ≤ 9223372036854775807 then (some ((x3 ++ (⟨#[42]⟩ : ByteArray)) ++ (x5.extract (t111 : Int).toNat x5.size))) else (none)) else (none)) else (some x0))) else (none)) else (none)))) else (none)) else (none)
end
def redact_URL.f (k : Nat) (a0 : ByteArray) : Option (ByteArray) := (redact_ahead.f k a0).bind fun bt108 => (if bt108.2 = true then (redact_URL.j0 k a0 bt108.1 (decide ((a0.size : Int) > 2048))) else (redact_URL.j0 k a0 bt108.1 true))
set_option maxHeartbeats 8000000 in
set_option maxRecDepth 100000 in
theorem redact_URL.calls (k : Nat) (a0 r : ByteArray) (w : World) (hG_ : GW w) (h : redact_URL.f k a0 = some r) :
  Calls Tryz.prog 10 #[.string a0] w fun e w' => e = .returned (.string r) ∧ Below w.heap.size w w' := by
 have HB := Aside0.mk (Below.refl w.heap.size w)
 have H : ((redact_ahead.f k a0).bind fun bt108 => (if bt108.2 = true then (redact_URL.j0 k a0 bt108.1 (decide ((a0.size : Int) > 2048))) else (redact_URL.j0 k a0 bt108.1 true))) = some r := h
 clear h
 replace H := Option.bind_eq_some_iff.mp H
 obtain ⟨⟨t108, t109⟩, A20, H⟩ := H
 replace H : (if t109 = true then (redact_URL.j0 k a0 t108 (decide ((a0.size : Int) > 2048))) else (redact_URL.j0 k a0 t108 true)) = some r := H
 have A2 := Aside0.mk A20; clear A20; have HC3 := Aside0.mk H; clear H
 go_enter Tryz.func10, Tryz.ntmps10
 go_upto_region 2 with (first | ((with_reducible refine gate_callee (f := 27) rfl ?_); refine goesL_ (some 10) rfl rfl Tryz.func27 (by kernel_rfl) rfl #[.string a0] rfl z22_ ?_; (with_reducible refine (redact_ahead.calls k a0 t108 t109 _ ?gw5_ A2.out).mono ?_); (case gw5_ => exact z5_); rintro e w4 ⟨rfl, hb⟩; refine ⟨_, rfl, ?_⟩; have n0_ := Aside0.mk (below_step z23_ hb); clear HB; have HB := n0_; clear n0_; (try clear hb); (try clear hb2); (try clear hk); (try clear hi)))
 (try simp only [Act.put, List.setIfInBounds_toArray, List.set_cons_zero, List.set_cons_succ])
 go_cut [19] (fun v19 wc => ∃ (kq : Nat) (x19_2 : Bool), v19 = .bool x19_2 ∧ Aside0 (redact_URL.j0 kq a0 t108 x19_2 = some r) ∧ Aside0 (kq ≤ k) ∧ Aside0 (Below w.heap.size w wc))
 case first =>
  have H := HC3.out
  clear HC3
  by_cases c5 : t109 = true
  ·subst c5
   have H1 : (redact_URL.j0 k a0 t108 (decide ((a0.size : Int) > 2048))) = some r := by rw [if_pos rfl] at H; exact H
   clear H
   have H := H1
   clear H1
   have H' := Aside0.mk H
   clear H; go_wp2; go_meet
   case rel => exact ⟨_, (decide ((a0.size : Int) > 2048)), z56_, H', ⟨z63_⟩, ⟨z23_⟩⟩
  ·replace c5 := Bool.eq_false_iff.mpr c5
   subst c5
   have H1 : (redact_URL.j0 k a0 t108 true) = some r := by rw [if_neg (show ¬ (false = true) by decide)] at H; exact H
   clear H
   have H := H1
   clear H1
   have H' := Aside0.mk H
   clear H; go_wp2; go_meet
   case rel => exact ⟨_, (true), z56_, H', ⟨z63_⟩, ⟨z23_⟩⟩
 case rest =>
  clear HC3
  obtain ⟨kq, x19_2, rfl, HA, HJ2, HB⟩ := hcut
  cases kq with
  | zero => exact absurd HA.out (by simp [redact_URL.j0])
  | succ kj2 =>
   have H := HA.out
   clear HA
   simp only [redact_URL.j0] at H
   by_cases c6 : x19_2 = true
   ·subst c6
    have H1 : (some a0) = some r := by rw [if_pos rfl] at H; exact H
    clear H
    have H := H1
    clear H1
    obtain rfl := Option.some.inj H
    go_wp2
    go_ret
    exact ⟨z25_, z23_⟩
   ·replace c6 := Bool.eq_false_iff.mpr c6
    subst c6
    have H1 : (if 0 ≤ (t108.size : Int) then (if (t108.size : Int) ≤ (a0.size : Int) then ((strings_IndexAny.f (a0.extract t108.size a0.size) (⟨#[47, 63, 35]⟩ : ByteArray)).bind fun t110 => (if t110 < 0 then (redact_URL.j1 kj2 a0 t108 (a0.extract t108.size a0.size) ((a0.extract t108.size a0.size).size : Int)) else (redact_URL.j1 kj2 a0 t108 (a0.extract t108.size a0.size) t110))) else (none)) else (none)) = some r := by rw [if_neg (show ¬ (false = true) by decide)] at H; exact H
    clear H
    have H := H1
    clear H1
    by_cases c7 : 0 ≤ (t108.size : Int)
    ·rw [if_pos c7] at H
     have c7b0 := eq_true c7; have c7b1 : decide (0 ≤ (t108.size : Int)) = true := decide_eq_true c7; clear c7
     by_cases c8 : (t108.size : Int) ≤ (a0.size : Int)
     ·rw [if_pos c8] at H
      have c8b0 := eq_true c8; have c8b1 : decide ((t108.size : Int) ≤ (a0.size : Int)) = true := decide_eq_true c8; clear c8
      replace H := Option.bind_eq_some_iff.mp H
      obtain ⟨t110, A90, H⟩ := H
      replace H : (if t110 < 0 then (redact_URL.j1 kj2 a0 t108 (a0.extract t108.size a0.size) ((a0.extract t108.size a0.size).size : Int)) else (redact_URL.j1 kj2 a0 t108 (a0.extract t108.size a0.size) t110)) = some r := H
      have A9 := Aside0.mk A90; clear A90; have HC10 := Aside0.mk H; clear H
      go_upto_if 28 with (first | ((with_reducible refine gate_callee (f := 28) rfl ?_); refine goesL_ (some 26) rfl rfl Tryz.func28 (by kernel_rfl) rfl #[.string (a0.extract t108.size a0.size), .string (⟨#[47, 63, 35]⟩ : ByteArray)] rfl z22_ ?_; (with_reducible refine (strings_IndexAny.calls (a0.extract t108.size a0.size) (⟨#[47, 63, 35]⟩ : ByteArray) t110 _ ?gw6_ A9.out).mono ?_); (case gw6_ => exact z5_); rintro e w11 ⟨rfl, hb⟩; refine ⟨_, rfl, ?_⟩; have n0_ := Aside0.mk (below_step z23_ hb); clear HB; have HB := n0_; clear n0_; (try clear hb); (try clear hb2); (try clear hk); (try clear hi)))
      (try simp only [Act.put, List.setIfInBounds_toArray, List.set_cons_zero, List.set_cons_succ])
      go_cut [6] (fun v6 wc => ∃ (kq : Nat) (x6_9 : Int), v6 = .int .i64 x6_9 ∧ Aside0 (redact_URL.j1 kq a0 t108 (a0.extract t108.size a0.size) x6_9 = some r) ∧ Aside0 (kq ≤ kj2) ∧ Aside0 (Below w.heap.size w wc))
      case first =>
       have H := HC10.out
       clear HC10
       by_cases c12 : t110 < 0
       ·rw [if_pos c12] at H
        have c12b0 : decide (t110 < 0) = true := decide_eq_true c12; clear c12
        (first | rw [c12b0] | (simp only [i64_w, i32_w]; rw [c12b0]) | skip)
        have H' := Aside0.mk H
        clear H; go_wp2; go_meet
        case rel => exact ⟨_, (((a0.extract t108.size a0.size).size : Int)), z56_, H', ⟨z60_⟩, ⟨z23_⟩⟩
       ·rw [if_neg c12] at H
        have c12b0 : decide (t110 < 0) = false := decide_eq_false c12; clear c12
        (first | rw [c12b0] | (simp only [i64_w, i32_w]; rw [c12b0]) | skip)
        have H' := Aside0.mk H
        clear H; go_wp2; go_meet
        case rel => exact ⟨_, (t110), z56_, H', ⟨z60_⟩, ⟨z23_⟩⟩
      case rest =>
       clear HC10; (try clear c6); (try clear c7); (try clear c7b0); (try clear c7b1); (try clear c8); (try clear c8b0); (try clear c8b1)
       obtain ⟨kq, x6_9, rfl, HA, HJ9, HB⟩ := hcut
       cases kq with
       | zero => exact absurd HA.out (by simp [redact_URL.j1])
       | succ kj9 =>
        have H := HA.out
        clear HA
        simp only [redact_URL.j1] at H
        by_cases c13 : 0 ≤ x6_9
        ·rw [if_pos c13] at H
         have c13b0 := eq_true c13; have c13b1 : decide (0 ≤ x6_9) = true := decide_eq_true c13; clear c13
         by_cases c14 : x6_9 ≤ ((a0.extract t108.size a0.size).size : Int)
         ·rw [if_pos c14] at H
          have c14b0 := eq_true c14
          have c14n := c14
          (try simp only [Int.toNat_natCast, ByteArray.size_extract, Nat.min_self, Nat.sub_zero] at c14n)
          have c14n0 := eq_true c14n; clear c14n; have c14b1 : decide (x6_9 ≤ ((a0.extract t108.size a0.size).size : Int)) = true := decide_eq_true c14; clear c14
          replace H := Option.bind_eq_some_iff.mp H
          obtain ⟨t111, A150, H⟩ := H
          replace H : (if t111 < 0 then (some a0) else (if 0 ≤ t111 then (if t111 ≤ ((a0.extract t108.size a0.size).size : Int) then ((redact_user.f kj9 ((a0.extract t108.size a0.size).extract 0 (t111 : Int).toNat)).bind fun t112 => (if t112 = true then (if t108.size + 1 ≤ 9223372036854775807 then (if (t108 ++ (⟨#[42]⟩ : ByteArray)).size + ((a0.extract t108.size a0.size).extract (t111 : Int).toNat (a0.extract t108.size a0.size).size).size ≤ 9223372036854775807 then (some ((t108 ++ (⟨#[42]⟩ : ByteArray)) ++ ((a0.extract t108.size a0.size).extract (t111 : Int).toNat (a0.extract t108.size a0.size).size))) else (none)) else (none)) else (some a0))) else (none)) else (none))) = some r := H
          have A15 := Aside0.mk A150; clear A150
          by_cases c16 : t111 < 0
          ·rw [if_pos c16] at H
           have c16b0 : decide (t111 < 0) = true := decide_eq_true c16; clear c16
           obtain rfl := Option.some.inj H
           go_wp2_with (first | ((with_reducible refine gate_callee (f := 29) rfl ?_); refine goesL_ (some 34) rfl rfl Tryz.func29 (by kernel_rfl) rfl #[.string ((a0.extract t108.size a0.size).extract 0 (x6_9 : Int).toNat), .int .u8 64] rfl z22_ ?_; (with_reducible refine (strings_LastIndexByte.calls ((a0.extract t108.size a0.size).extract 0 (x6_9 : Int).toNat) 64 t111 _ ?gw7_ A15.out).mono ?_); (case gw7_ => exact z5_); rintro e w' ⟨rfl, ⟨nd, rfl⟩⟩; refine ⟨_, rfl, ?_⟩))
           go_ret
           exact ⟨z25_, z23_⟩
          ·rw [if_neg c16] at H
           have c16b0 : decide (t111 < 0) = false := decide_eq_false c16; clear c16
           by_cases c17 : 0 ≤ t111
           ·rw [if_pos c17] at H
            have c17b0 := eq_true c17; have c17b1 : decide (0 ≤ t111) = true := decide_eq_true c17; clear c17
            by_cases c18 : t111 ≤ ((a0.extract t108.size a0.size).size : Int)
            ·rw [if_pos c18] at H
             have c18b0 := eq_true c18
             have c18n := c18
             (try simp only [Int.toNat_natCast, ByteArray.size_extract, Nat.min_self, Nat.sub_zero] at c18n)
             have c18n0 := eq_true c18n; clear c18n; have c18b1 : decide (t111 ≤ ((a0.extract t108.size a0.size).size : Int)) = true := decide_eq_true c18; clear c18
             replace H := Option.bind_eq_some_iff.mp H
             obtain ⟨t112, A190, H⟩ := H
             replace H : (if t112 = true then (if t108.size + 1 ≤ 9223372036854775807 then (if (t108 ++ (⟨#[42]⟩ : ByteArray)).size + ((a0.extract t108.size a0.size).extract (t111 : Int).toNat (a0.extract t108.size a0.size).size).size ≤ 9223372036854775807 then (some ((t108 ++ (⟨#[42]⟩ : ByteArray)) ++ ((a0.extract t108.size a0.size).extract (t111 : Int).toNat (a0.extract t108.size a0.size).size))) else (none)) else (none)) else (some a0)) = some r := H
             have A19 := Aside0.mk A190; clear A190
             by_cases c20 : t112 = true
             ·subst c20
              have H1 : (if t108.size + 1 ≤ 9223372036854775807 then (if (t108 ++ (⟨#[42]⟩ : ByteArray)).size + ((a0.extract t108.size a0.size).extract (t111 : Int).toNat (a0.extract t108.size a0.size).size).size ≤ 9223372036854775807 then (some ((t108 ++ (⟨#[42]⟩ : ByteArray)) ++ ((a0.extract t108.size a0.size).extract (t111 : Int).toNat (a0.extract t108.size a0.size).size))) else (none)) else (none)) = some r := by rw [if_pos rfl] at H; exact H
              clear H
              have H := H1
              clear H1
              by_cases c21 : t108.size + 1 ≤ 9223372036854775807
              ·rw [if_pos c21] at H
               have c21b0 := eq_true c21; have c21b1 : decide (t108.size + 1 ≤ 9223372036854775807) = true := decide_eq_true c21
               try have c21b2 : (9223372036854775807 < t108.size + 1) = False := eq_false (Nat.not_lt.2 c21)
               try have c21c0 : (9223372036854775807 ≤ t108.size) = False := eq_false (by omega)
               try have c21c1 : (t108.size < 9223372036854775807) = True := eq_true (by omega)
               have c22b0 := eq_true (of_decide_eq_true z61_ : 0 ≤ t111)
               have c23b0 := eq_true (of_decide_eq_true z61_ : t111 ≤ ((a0.extract t108.size a0.size).size : Int))
               by_cases c24 : (t108 ++ (⟨#[42]⟩ : ByteArray)).size + ((a0.extract t108.size a0.size).extract (t111 : Int).toNat (a0.extract t108.size a0.size).size).size ≤ 9223372036854775807
               ·rw [if_pos c24] at H
                have c24b0 := eq_true c24
                have c24n := c24
                (try simp only [Int.toNat_natCast, ByteArray.size_extract, Nat.min_self, Nat.sub_zero] at c24n)
                have c24n0 := eq_true c24n; clear c24n
                have c24f := eq_false (Nat.not_lt.2 c24)
                (try simp only [ByteArray.size_append, ByteArray.size_extract, Nat.min_self, Nat.sub_zero, Int.toNat_natCast, show (⟨#[42]⟩ : ByteArray).size = 1 from rfl] at c24f)
                try have c24m : ((t108.size + 1) + ((a0.extract t108.size a0.size).extract (t111 : Int).toNat (a0.extract t108.size a0.size).size).size ≤ 9223372036854775807) = True := by first | exact c24b0 | (have h_ := c24; simp only [ByteArray.size_append, Int.natCast_add] at h_; exact eq_true h_)
                have c24b1 : decide ((t108 ++ (⟨#[42]⟩ : ByteArray)).size + ((a0.extract t108.size a0.size).extract (t111 : Int).toNat (a0.extract t108.size a0.size).size).size ≤ 9223372036854775807) = true := decide_eq_true c24
                try have c24b1n : decide ((t108.size + 1) + ((a0.extract t108.size a0.size).extract (t111 : Int).toNat (a0.extract t108.size a0.size).size).size ≤ 9223372036854775807) = true := by first | exact c24b1 | (have h_ := c24b1; simp only [ByteArray.size_append, Int.natCast_add] at h_; exact h_)
                try have c24b2 : (9223372036854775807 < (t108 ++ (⟨#[42]⟩ : ByteArray)).size + ((a0.extract t108.size a0.size).extract (t111 : Int).toNat (a0.extract t108.size a0.size).size).size) = False := eq_false (Nat.not_lt.2 c24)
                try have c24b2n : (9223372036854775807 < (t108.size + 1) + ((a0.extract t108.size a0.size).extract (t111 : Int).toNat (a0.extract t108.size a0.size).size).size) = False := by first | exact c24b2 | (have h_ := c24b2; simp only [ByteArray.size_append, Int.natCast_add] at h_; exact h_)
                obtain rfl := Option.some.inj H
                go_wp2_with (first | ((with_reducible refine gate_callee (f := 29) rfl ?_); refine goesL_ (some 34) rfl rfl Tryz.func29 (by kernel_rfl) rfl #[.string ((a0.extract t108.size a0.size).extract 0 (x6_9 : Int).toNat), .int .u8 64] rfl z22_ ?_; (with_reducible refine (strings_LastIndexByte.calls ((a0.extract t108.size a0.size).extract 0 (x6_9 : Int).toNat) 64 t111 _ ?gw8_ A15.out).mono ?_); (case gw8_ => exact z5_); rintro e w' ⟨rfl, ⟨nd, rfl⟩⟩; refine ⟨_, rfl, ?_⟩) | (go_at_call 30; (fail_if_success (have z_ := U_2)); have U_2 := trivial; (with_reducible refine (redact_user.calls kj9 ((a0.extract t108.size a0.size).extract 0 (t111 : Int).toNat) true _ ?gw9_ A19.out).mono ?_); (case gw9_ => exact z5_); rintro e w25 ⟨rfl, hb⟩; have n0_ := Aside0.mk (below_step z23_ hb); clear HB; have HB := n0_; clear n0_; (try clear hb); (try clear hb2); (try clear hk); (try clear hi)))
                go_ret
                exact ⟨z25_, z23_⟩
               ·rw [if_neg c24] at H
                exact absurd H (by simp)
              ·rw [if_neg c21] at H
               exact absurd H (by simp)
             ·replace c20 := Bool.eq_false_iff.mpr c20
              subst c20
              have H1 : (some a0) = some r := by rw [if_neg (show ¬ (false = true) by decide)] at H; exact H
              clear H
              have H := H1
              clear H1
              obtain rfl := Option.some.inj H
              go_wp2_with (first | ((with_reducible refine gate_callee (f := 29) rfl ?_); refine goesL_ (some 34) rfl rfl Tryz.func29 (by kernel_rfl) rfl #[.string ((a0.extract t108.size a0.size).extract 0 (x6_9 : Int).toNat), .int .u8 64] rfl z22_ ?_; (with_reducible refine (strings_LastIndexByte.calls ((a0.extract t108.size a0.size).extract 0 (x6_9 : Int).toNat) 64 t111 _ ?gw10_ A15.out).mono ?_); (case gw10_ => exact z5_); rintro e w' ⟨rfl, ⟨nd, rfl⟩⟩; refine ⟨_, rfl, ?_⟩) | (go_at_call 30; (fail_if_success (have z_ := U_3)); have U_3 := trivial; (with_reducible refine (redact_user.calls kj9 ((a0.extract t108.size a0.size).extract 0 (t111 : Int).toNat) false _ ?gw11_ A19.out).mono ?_); (case gw11_ => exact z5_); rintro e w26 ⟨rfl, hb⟩; have n0_ := Aside0.mk (below_step z23_ hb); clear HB; have HB := n0_; clear n0_; (try clear hb); (try clear hb2); (try clear hk); (try clear hi)))
              go_ret
              exact ⟨z25_, z23_⟩
            ·rw [if_neg c18] at H
             exact absurd H (by simp)
           ·rw [if_neg c17] at H
            exact absurd H (by simp)
         ·rw [if_neg c14] at H
          exact absurd H (by simp)
        ·rw [if_neg c13] at H
         exact absurd H (by simp)
     ·rw [if_neg c8] at H
      exact absurd H (by simp)
    ·rw [if_neg c7] at H
     exact absurd H (by simp)

def pursuivantref27_begins.f (k : Nat) (a0 a1 : ByteArray) : Option (Bool) := if (a0.size : Int) ≥ (a1.size : Int) then (if 0 ≤ (a1.size : Int) then (if (a1.size : Int) ≤ (a0.size : Int) then ((pursuivantref04_Lower.f k (a0.extract 0 a1.size)).bind fun t113 => (some (t113.toList == a1.toList))) else (none)) else (none)) else (some false)
set_option maxHeartbeats 8000000 in
set_option maxRecDepth 100000 in
theorem pursuivantref27_begins.calls (k : Nat) (a0 a1 : ByteArray) (r : Bool) (w : World) (hG_ : GW w) (h : pursuivantref27_begins.f k a0 a1 = some r) :
  Calls Tryz.prog 31 #[.string a0, .string a1] w fun e w' => e = .returned (.bool r) ∧ Below w.heap.size w w' := by
 have HB := Aside0.mk (Below.refl w.heap.size w)
 have H : (if (a0.size : Int) ≥ (a1.size : Int) then (if 0 ≤ (a1.size : Int) then (if (a1.size : Int) ≤ (a0.size : Int) then ((pursuivantref04_Lower.f k (a0.extract 0 a1.size)).bind fun t113 => (some (t113.toList == a1.toList))) else (none)) else (none)) else (some false)) = some r := h
 clear h
 by_cases c3 : (a0.size : Int) ≥ (a1.size : Int)
 ·rw [if_pos c3] at H
  have c3b0 : decide ((a1.size : Int) ≤ (a0.size : Int)) = true := decide_eq_true c3
  have c3b1 : decide (a1.size ≤ a0.size) = true := decide_eq_true (Int.ofNat_le.mp c3)
  clear c3
  by_cases c4 : 0 ≤ (a1.size : Int)
  ·rw [if_pos c4] at H
   have c4b0 := eq_true c4; have c4b1 : decide (0 ≤ (a1.size : Int)) = true := decide_eq_true c4; clear c4
   by_cases c5 : (a1.size : Int) ≤ (a0.size : Int)
   ·rw [if_pos c5] at H
    have c5b0 := eq_true c5; have c5b1 : decide ((a1.size : Int) ≤ (a0.size : Int)) = true := decide_eq_true c5; clear c5
    replace H := Option.bind_eq_some_iff.mp H
    obtain ⟨t113, A60, H⟩ := H
    replace H : (some (t113.toList == a1.toList)) = some r := H
    have A6 := Aside0.mk A60; clear A60
    obtain rfl := Option.some.inj H
    go_enter Tryz.func31, Tryz.ntmps31
    go_wp2_with (first | (go_at_call 37; (fail_if_success (have z_ := U_4)); have U_4 := trivial; (with_reducible refine (pursuivantref04_Lower.calls k (a0.extract 0 a1.size) t113 _ ?gw12_ A6.out).mono ?_); (case gw12_ => exact z5_); rintro e w7 ⟨rfl, hb⟩; have n0_ := Aside0.mk (below_step z23_ hb); clear HB; have HB := n0_; clear n0_; (try clear hb); (try clear hb2); (try clear hk); (try clear hi)))
    go_ret
    exact ⟨z25_, z23_⟩
   ·rw [if_neg c5] at H
    exact absurd H (by simp)
  ·rw [if_neg c4] at H
   exact absurd H (by simp)
 ·rw [if_neg c3] at H
  have c3b0 : decide ((a1.size : Int) ≤ (a0.size : Int)) = false := decide_eq_false c3
  have c3b1 : decide (a1.size ≤ a0.size) = false := decide_eq_false (fun h => c3 (Int.ofNat_le.mpr h))
  clear c3
  obtain rfl := Option.some.inj H
  go_enter Tryz.func31, Tryz.ntmps31
  go_wp2
  go_ret
  exact ⟨z25_, z23_⟩

mutual
def pursuivantref27_URL.j0 : Nat → ByteArray → Int → Option (ByteArray)
 | 0, _, _ => none
 | k + 1, x0, x3 => (pursuivantref27_begins.f k x0 (⟨#[104, 116, 116, 112, 58, 47, 47]⟩ : ByteArray)).bind fun t115 => (if t115 = true then (pursuivantref27_URL.j1 k x0 7) else (pursuivantref27_URL.j1 k x0 x3))
def pursuivantref27_URL.j1 : Nat → ByteArray → Int → Option (ByteArray)
 | 0, _, _ => none
 | k + 1, x0, x3 => (pursuivantref27_begins.f k x0 (⟨#[104, 116, 116, 112, 115, 58, 47, 47]⟩ : ByteArray)).bind fun t116 => (if t116 = true then (pursuivantref27_URL.j2 k x0 8) else (pursuivantref27_URL.j2 k x0 x3))
def pursuivantref27_URL.j2 : Nat → ByteArray → Int → Option (ByteArray)
 | 0, _, _ => none
 | k + 1, x0, x3 => if x3 = 0 then (pursuivantref27_URL.j3 k x0 x3 true) else (pursuivantref27_URL.j3 k x0 x3 (decide ((x0.size : Int) > 2048)))
def pursuivantref27_URL.j3 : Nat → ByteArray → Int → Bool → Option (ByteArray)
 | 0, _, _, _ => none
 | k + 1, x0, x3, x18 => if x18 = true then (some x0) else (pursuivantref27_URL.l0 k x0 x3 (-1) x3)
def pursuivantref27_URL.l0 : Nat → ByteArray → Int → Int → Int → Option (ByteArray)
 | 0, _, _, _, _ => none
 | k + 1, x0, x3, x4, x5 => if x5 < (x0.size : Int) then (if 0 ≤ x5 then (if (bt x0 x5) = 47 then (pursuivantref27_URL.j5 k x0 x3 x4 x5 false) else (if (bt x0 x5) = 63 then (pursuivantref27_URL.j5 k x0 x3 x4 x5 false) else (pursuivantref27_URL.j5 k x0 x3 x4 x5 ((bt x0 x5) != 35)))) else (none)) else (pursuivantref27_URL.j5 k x0 x3 x4 x5 false)
def pursuivantref27_URL.j5 : Nat → ByteArray → Int → Int → Int → Bool → Option (ByteArray)
 | 0, _, _, _, _, _ => none
 | k + 1, x0, x3, x4, x5, x42 => if x42 = true then (if 0 ≤ x5 then (if x5 < (x0.size : Int) then (if (bt x0 x5) = 64 then (pursuivantref27_URL.l0 k x0 x3 x5 (wrap64 (x5 + 1))) else (pursuivantref27_URL.l0 k x0 x3 x4 (wrap64 (x5 + 1)))) else (none)) else (none)) else (if x4 ≤ x3 then (some x0) else (if 0 ≤ x3 then (if x3 ≤ x4 then (if x4 ≤ (x0.size : Int) then ((pursuivantref06_Good.f k (⟨#[104, 116, 116, 112]⟩ : ByteArray) (x0.extract (x3 : Int).toNat (x4 : Int).toNat) (⟨#[97]⟩ : ByteArray) 0 (⟨#[47]⟩ : ByteArray) false (⟨#[]⟩ : ByteArray) false (⟨#[]⟩ : ByteArray)).bind fun t117 => (if t117 = true then (if x3 ≤ (x0.size : Int) then (if (x0.extract 0 (x3 : Int).toNat).size + 1 ≤ 9223372036854775807 then (if 0 ≤ x4 then (if ((x0.extract 0 (x3 : Int).toNat) ++ (⟨#[42]⟩ : ByteArray)).size + (x0.extract (x4 : Int).toNat x0.size).size ≤ 9223372036854775807 then (some (((x0.extract 0 (x3 : Int).toNat) ++ (⟨#[42]⟩ : ByteArray)) ++ (x0.extract (x4 : Int).toNat x0.size))) else (none)) else (none)) else (none)) else (none)) else (some x0))) else (none)) else (none)) else (none)))
end
def pursuivantref27_URL.f (k : Nat) (a0 : ByteArray) : Option (ByteArray) := (pursuivantref27_begins.f k a0 (⟨#[47, 47]⟩ : ByteArray)).bind fun t114 => (if t114 = true then (pursuivantref27_URL.j0 k a0 2) else (pursuivantref27_URL.j0 k a0 0))
set_option maxHeartbeats 8000000 in
set_option maxRecDepth 100000 in
theorem pursuivantref27_URL.calls (k : Nat) (a0 r : ByteArray) (w : World) (hG_ : GW w) (h : pursuivantref27_URL.f k a0 = some r) :
  Calls Tryz.prog 13 #[.string a0] w fun e w' => e = .returned (.string r) ∧ Below w.heap.size w w' := by
 have hu67 := Tryz.underlying67
 have HB := Aside0.mk (Below.refl w.heap.size w)
 have H : ((pursuivantref27_begins.f k a0 (⟨#[47, 47]⟩ : ByteArray)).bind fun t114 => (if t114 = true then (pursuivantref27_URL.j0 k a0 2) else (pursuivantref27_URL.j0 k a0 0))) = some r := h
 clear h
 replace H := Option.bind_eq_some_iff.mp H
 obtain ⟨t114, A20, H⟩ := H
 replace H : (if t114 = true then (pursuivantref27_URL.j0 k a0 2) else (pursuivantref27_URL.j0 k a0 0)) = some r := H
 have A2 := Aside0.mk A20; clear A20; have HC3 := Aside0.mk H; clear H
 go_enter Tryz.func13, Tryz.ntmps13
 go_upto_if 7 with (first | (go_at_call 31; (fail_if_success (have z_ := U_5)); have U_5 := trivial; (with_reducible refine (pursuivantref27_begins.calls k a0 (⟨#[47, 47]⟩ : ByteArray) t114 _ ?gw13_ A2.out).mono ?_); (case gw13_ => exact z5_); rintro e w4 ⟨rfl, hb⟩; have n0_ := Aside0.mk (below_step z23_ hb); clear HB; have HB := n0_; clear n0_; (try clear hb); (try clear hb2); (try clear hk); (try clear hi)))
 repeat (go_quiet (first | (go_at_call 31; (fail_if_success (have z_ := U_6)); have U_6 := trivial; (with_reducible refine (pursuivantref27_begins.calls k a0 (⟨#[47, 47]⟩ : ByteArray) t114 _ ?gw14_ A2.out).mono ?_); (case gw14_ => exact z5_); rintro e w4 ⟨rfl, hb⟩; have n0_ := Aside0.mk (below_step z23_ hb); clear HB; have HB := n0_; clear n0_; (try clear hb); (try clear hb2); (try clear hk); (try clear hi))); go_upto_if 7 with (first | (go_at_call 31; (fail_if_success (have z_ := U_7)); have U_7 := trivial; (with_reducible refine (pursuivantref27_begins.calls k a0 (⟨#[47, 47]⟩ : ByteArray) t114 _ ?gw15_ A2.out).mono ?_); (case gw15_ => exact z5_); rintro e w4 ⟨rfl, hb⟩; have n0_ := Aside0.mk (below_step z23_ hb); clear HB; have HB := n0_; clear n0_; (try clear hb); (try clear hb2); (try clear hk); (try clear hi))))
 (try simp only [Act.put, List.setIfInBounds_toArray, List.set_cons_zero, List.set_cons_succ])
 go_cut [3] (fun v3 wc => ∃ (kq : Nat) (x3_2 : Int), v3 = .int .i64 x3_2 ∧ Aside0 (pursuivantref27_URL.j0 kq a0 x3_2 = some r) ∧ Aside0 (kq ≤ k) ∧ Aside0 (Below w.heap.size w wc))
 case first =>
  have H := HC3.out
  clear HC3
  by_cases c5 : t114 = true
  ·subst c5
   have H1 : (pursuivantref27_URL.j0 k a0 2) = some r := by rw [if_pos rfl] at H; exact H
   clear H
   have H := H1
   clear H1
   have H' := Aside0.mk H
   clear H; go_wp2
   repeat (go_quiet (fail); try go_wp2)
   go_meet
   case rel => exact ⟨_, (2), z56_, H', ⟨z63_⟩, ⟨z23_⟩⟩
  ·replace c5 := Bool.eq_false_iff.mpr c5
   subst c5
   have H1 : (pursuivantref27_URL.j0 k a0 0) = some r := by rw [if_neg (show ¬ (false = true) by decide)] at H; exact H
   clear H
   have H := H1
   clear H1
   have H' := Aside0.mk H
   clear H; go_wp2
   repeat (go_quiet (fail); try go_wp2)
   go_meet
   case rel => exact ⟨_, (0), z56_, H', ⟨z63_⟩, ⟨z23_⟩⟩
 case rest =>
  clear HC3
  obtain ⟨kq, x3_2, rfl, HA, HJ2, HB⟩ := hcut
  cases kq with
  | zero => exact absurd HA.out (by simp [pursuivantref27_URL.j0])
  | succ kj2 =>
   have H := HA.out
   clear HA
   simp only [pursuivantref27_URL.j0] at H
   replace H := Option.bind_eq_some_iff.mp H
   obtain ⟨t115, A60, H⟩ := H
   replace H : (if t115 = true then (pursuivantref27_URL.j1 kj2 a0 7) else (pursuivantref27_URL.j1 kj2 a0 x3_2)) = some r := H
   have A6 := Aside0.mk A60; clear A60; have HC7 := Aside0.mk H; clear H
   go_upto_if 9 with (first | (go_at_call 31; (fail_if_success (have z_ := U_8)); have U_8 := trivial; (with_reducible refine (pursuivantref27_begins.calls kj2 a0 (⟨#[104, 116, 116, 112, 58, 47, 47]⟩ : ByteArray) t115 _ ?gw16_ A6.out).mono ?_); (case gw16_ => exact z5_); rintro e w8 ⟨rfl, hb⟩; have n0_ := Aside0.mk (below_step z23_ hb); clear HB; have HB := n0_; clear n0_; (try clear hb); (try clear hb2); (try clear hk); (try clear hi)))
   repeat (go_quiet (first | (go_at_call 31; (fail_if_success (have z_ := U_9)); have U_9 := trivial; (with_reducible refine (pursuivantref27_begins.calls kj2 a0 (⟨#[104, 116, 116, 112, 58, 47, 47]⟩ : ByteArray) t115 _ ?gw17_ A6.out).mono ?_); (case gw17_ => exact z5_); rintro e w8 ⟨rfl, hb⟩; have n0_ := Aside0.mk (below_step z23_ hb); clear HB; have HB := n0_; clear n0_; (try clear hb); (try clear hb2); (try clear hk); (try clear hi))); go_upto_if 9 with (first | (go_at_call 31; (fail_if_success (have z_ := U_10)); have U_10 := trivial; (with_reducible refine (pursuivantref27_begins.calls kj2 a0 (⟨#[104, 116, 116, 112, 58, 47, 47]⟩ : ByteArray) t115 _ ?gw18_ A6.out).mono ?_); (case gw18_ => exact z5_); rintro e w8 ⟨rfl, hb⟩; have n0_ := Aside0.mk (below_step z23_ hb); clear HB; have HB := n0_; clear n0_; (try clear hb); (try clear hb2); (try clear hk); (try clear hi))))
   (try simp only [Act.put, List.setIfInBounds_toArray, List.set_cons_zero, List.set_cons_succ])
   go_cut [3] (fun v3 wc => ∃ (kq : Nat) (x3_6 : Int), v3 = .int .i64 x3_6 ∧ Aside0 (pursuivantref27_URL.j1 kq a0 x3_6 = some r) ∧ Aside0 (kq ≤ kj2) ∧ Aside0 (Below w.heap.size w wc))
   case first =>
    have H := HC7.out
    clear HC7
    by_cases c9 : t115 = true
    ·subst c9
     have H1 : (pursuivantref27_URL.j1 kj2 a0 7) = some r := by rw [if_pos rfl] at H; exact H
     clear H
     have H := H1
     clear H1
     have H' := Aside0.mk H
     clear H; go_wp2
     repeat (go_quiet (fail); try go_wp2)
     go_meet
     case rel => exact ⟨_, (7), z56_, H', ⟨z60_⟩, ⟨z23_⟩⟩
    ·replace c9 := Bool.eq_false_iff.mpr c9
     subst c9
     have H1 : (pursuivantref27_URL.j1 kj2 a0 x3_2) = some r := by rw [if_neg (show ¬ (false = true) by decide)] at H; exact H
     clear H
     have H := H1
     clear H1
     have H' := Aside0.mk H
     clear H; go_wp2
     repeat (go_quiet (fail); try go_wp2)
     go_meet
     case rel => exact ⟨_, (x3_2), z56_, H', ⟨z60_⟩, ⟨z23_⟩⟩
   case rest =>
    clear HC7
    obtain ⟨kq, x3_6, rfl, HA, HJ6, HB⟩ := hcut
    cases kq with
    | zero => exact absurd HA.out (by simp [pursuivantref27_URL.j1])
    | succ kj6 =>
     have H := HA.out
     clear HA
     simp only [pursuivantref27_URL.j1] at H
     replace H := Option.bind_eq_some_iff.mp H
     obtain ⟨t116, A100, H⟩ := H
     replace H : (if t116 = true then (pursuivantref27_URL.j2 kj6 a0 8) else (pursuivantref27_URL.j2 kj6 a0 x3_6)) = some r := H
     have A10 := Aside0.mk A100; clear A100; have HC11 := Aside0.mk H; clear H
     go_upto_if 11 with (first | (go_at_call 31; (fail_if_success (have z_ := U_11)); have U_11 := trivial; (with_reducible refine (pursuivantref27_begins.calls kj6 a0 (⟨#[104, 116, 116, 112, 115, 58, 47, 47]⟩ : ByteArray) t116 _ ?gw19_ A10.out).mono ?_); (case gw19_ => exact z5_); rintro e w12 ⟨rfl, hb⟩; have n0_ := Aside0.mk (below_step z23_ hb); clear HB; have HB := n0_; clear n0_; (try clear hb); (try clear hb2); (try clear hk); (try clear hi)))
     repeat (go_quiet (first | (go_at_call 31; (fail_if_success (have z_ := U_12)); have U_12 := trivial; (with_reducible refine (pursuivantref27_begins.calls kj6 a0 (⟨#[104, 116, 116, 112, 115, 58, 47, 47]⟩ : ByteArray) t116 _ ?gw20_ A10.out).mono ?_); (case gw20_ => exact z5_); rintro e w12 ⟨rfl, hb⟩; have n0_ := Aside0.mk (below_step z23_ hb); clear HB; have HB := n0_; clear n0_; (try clear hb); (try clear hb2); (try clear hk); (try clear hi))); go_upto_if 11 with (first | (go_at_call 31; (fail_if_success (have z_ := U_13)); have U_13 := trivial; (with_reducible refine (pursuivantref27_begins.calls kj6 a0 (⟨#[104, 116, 116, 112, 115, 58, 47, 47]⟩ : ByteArray) t116 _ ?gw21_ A10.out).mono ?_); (case gw21_ => exact z5_); rintro e w12 ⟨rfl, hb⟩; have n0_ := Aside0.mk (below_step z23_ hb); clear HB; have HB := n0_; clear n0_; (try clear hb); (try clear hb2); (try clear hk); (try clear hi))))
     (try simp only [Act.put, List.setIfInBounds_toArray, List.set_cons_zero, List.set_cons_succ])
     go_cut [3] (fun v3 wc => ∃ (kq : Nat) (x3_10 : Int), v3 = .int .i64 x3_10 ∧ Aside0 (pursuivantref27_URL.j2 kq a0 x3_10 = some r) ∧ Aside0 (kq ≤ kj6) ∧ Aside0 (Below w.heap.size w wc))
     case first =>
      have H := HC11.out
      clear HC11
      by_cases c13 : t116 = true
      ·subst c13
       have H1 : (pursuivantref27_URL.j2 kj6 a0 8) = some r := by rw [if_pos rfl] at H; exact H
       clear H
       have H := H1
       clear H1
       have H' := Aside0.mk H
       clear H; go_wp2
       repeat (go_quiet (fail); try go_wp2)
       go_meet
       case rel => exact ⟨_, (8), z56_, H', ⟨by have := HJ2.out; have := HJ6.out; first | omega | exact Nat.le_refl _⟩, ⟨z23_⟩⟩
      ·replace c13 := Bool.eq_false_iff.mpr c13
       subst c13
       have H1 : (pursuivantref27_URL.j2 kj6 a0 x3_6) = some r := by rw [if_neg (show ¬ (false = true) by decide)] at H; exact H
       clear H
       have H := H1
       clear H1
       have H' := Aside0.mk H
       clear H; go_wp2
       repeat (go_quiet (fail); try go_wp2)
       go_meet
       case rel => exact ⟨_, (x3_6), z56_, H', ⟨by have := HJ2.out; have := HJ6.out; first | omega | exact Nat.le_refl _⟩, ⟨z23_⟩⟩
     case rest =>
      clear HC11
      obtain ⟨kq, x3_10, rfl, HA, HJ10, HB⟩ := hcut
      cases kq with
      | zero => exact absurd HA.out (by simp [pursuivantref27_URL.j2])
      | succ kj10 =>
       have H := HA.out
       clear HA
       simp only [pursuivantref27_URL.j2] at H
       have HC14 := Aside0.mk H; clear H
       go_upto_region 8 with (fail)
       repeat (go_quiet (fail); go_upto_region 8 with (fail))
       go_cut [18] (fun v18 wc => ∃ (kq : Nat) (x18_13 : Bool), v18 = .bool x18_13 ∧ Aside0 (pursuivantref27_URL.j3 kq a0 x3_10 x18_13 = some r) ∧ Aside0 (kq ≤ kj10) ∧ Aside0 (Below w.heap.size w wc))
       case first =>
        have H := HC14.out
        clear HC14
        by_cases c15 : x3_10 = 0
        ·rw [if_pos c15] at H
         have c15b0 : (x3_10 == 0) = true := beq_iff_eq.mpr c15
         have c15b1 : (x3_10 != 0) = false := bne_eq_false_iff_eq.mpr c15
         clear c15
         (first | rw [c15b0] | (simp only [i64_w, i32_w]; rw [c15b0]) | skip)
         have H' := Aside0.mk H
         clear H; go_wp2
         repeat (go_quiet (fail); try go_wp2)
         go_meet
         case rel => exact ⟨_, (true), z56_, H', ⟨by have := HJ2.out; have := HJ6.out; have := HJ10.out; first | omega | exact Nat.le_refl _⟩, ⟨z23_⟩⟩
        ·rw [if_neg c15] at H
         have c15b0 : (x3_10 == 0) = false := beq_eq_false_iff_ne.mpr c15
         have c15b1 : (x3_10 != 0) = true := bne_iff_ne.mpr c15
         (first | rw [c15b0] | (simp only [i64_w, i32_w]; rw [c15b0]) | skip)
         have H' := Aside0.mk H
         clear H; go_wp2
         repeat (go_quiet (fail); try go_wp2)
         go_meet
         case rel => exact ⟨_, (decide ((a0.size : Int) > 2048)), z56_, H', ⟨by have := HJ2.out; have := HJ6.out; have := HJ10.out; first | omega | exact Nat.le_refl _⟩, ⟨z23_⟩⟩
       case rest =>
        clear HC14
        obtain ⟨kq, x18_13, rfl, HA, HJ13, HB⟩ := hcut
        cases kq with
        | zero => exact absurd HA.out (by simp [pursuivantref27_URL.j3])
        | succ kj13 =>
         have H := HA.out
         clear HA
         simp only [pursuivantref27_URL.j3] at H
         by_cases c16 : x18_13 = true
         ·subst c16
          have H1 : (some a0) = some r := by rw [if_pos rfl] at H; exact H
          clear H
          have H := H1
          clear H1
          obtain rfl := Option.some.inj H
          go_wp2
          repeat (go_quiet (fail); try go_wp2)
          go_ret
          exact ⟨z25_, z23_⟩
         ·replace c16 := Bool.eq_false_iff.mpr c16
          subst c16
          have H1 : (pursuivantref27_URL.l0 kj13 a0 x3_10 (-1) x3_10) = some r := by rw [if_neg (show ¬ (false = true) by decide)] at H; exact H
          clear H
          have H := H1
          clear H1
          have H' := Aside0.mk H
          clear H; go_wp2
          repeat (go_quiet (fail); try go_wp2)
          go_loopg [4, 5] kj13 (fun kq v4 v5 w' => ∃ (x4_5 x5_5 : Int), v4 = .int .i64 x4_5 ∧ v5 = .int .i64 x5_5 ∧ Aside0 (pursuivantref27_URL.l0 kq a0 x3_10 x4_5 x5_5 = some r) ∧ Aside0 (kq ≤ kj13) ∧ Aside0 (Below w.heap.size w w'))
          case atStart => exact ⟨((-1)), (x3_10), z56_, z56_, H', ⟨Nat.le_refl _⟩, ⟨z23_⟩⟩
          case round =>
           clear H'; (try clear c16)
           obtain ⟨x4_5, x5_5, rfl, rfl, HA, HK5, HB⟩ := hrel
           cases gk with
           | zero => exact absurd HA.out (by simp [pursuivantref27_URL.l0])
           | succ k5 =>
            have H := HA.out
            clear HA
            simp only [pursuivantref27_URL.l0] at H
            have HC17 := Aside0.mk H; clear H
            go_upto_region 12 with (fail)
            repeat (go_quiet (fail); go_upto_region 12 with (fail))
            go_cut [42] (fun v42 wc => ∃ (kq : Nat) (x42_16 : Bool), v42 = .bool x42_16 ∧ Aside0 (pursuivantref27_URL.j5 kq a0 x3_10 x4_5 x5_5 x42_16 = some r) ∧ Aside0 (kq ≤ k5) ∧ Aside0 (Below w.heap.size w wc))
            case first =>
             have H := HC17.out
             clear HC17
             by_cases c18 : x5_5 < (a0.size : Int)
             ·rw [if_pos c18] at H
              have c18b0 : decide (x5_5 < (a0.size : Int)) = true := decide_eq_true c18; clear c18
              (first | rw [c18b0] | (simp only [i64_w, i32_w]; rw [c18b0]) | skip)
              by_cases c19 : 0 ≤ x5_5
              ·rw [if_pos c19] at H
               have c19b0 : decide (0 ≤ x5_5) = true := decide_eq_true c19; clear c19
               by_cases c21 : (bt a0 x5_5) = 47
               ·rw [if_pos c21] at H
                have c21b0 : ((bt a0 x5_5) == 47) = true := beq_iff_eq.mpr c21
                have c21b1 : ((bt a0 x5_5) != 47) = false := bne_eq_false_iff_eq.mpr c21
                clear c21
                have H' := Aside0.mk H
                clear H
                have p20 : 0 ≤ (x5_5 : Int) := of_decide_eq_true z61_
                have q20 : x5_5 < (a0.size : Int) := of_decide_eq_true z61_
                have hx20 := bt_at a0 x5_5
                replace p20 := eq_true p20
                replace q20 := eq_true q20
                go_wp2
                repeat (go_quiet (fail); try go_wp2)
                go_meet
                case rel => exact ⟨_, (false), z56_, H', ⟨z30_⟩, ⟨z23_⟩⟩
               ·rw [if_neg c21] at H
                have c21b0 : ((bt a0 x5_5) == 47) = false := beq_eq_false_iff_ne.mpr c21
                have c21b1 : ((bt a0 x5_5) != 47) = true := bne_iff_ne.mpr c21
                by_cases c23 : (bt a0 x5_5) = 63
                ·rw [if_pos c23] at H
                 have c23b0 : ((bt a0 x5_5) == 63) = true := beq_iff_eq.mpr c23
                 have c23b1 : ((bt a0 x5_5) != 63) = false := bne_eq_false_iff_eq.mpr c23
                 clear c23
                 have H' := Aside0.mk H
                 clear H
                 have p20 : 0 ≤ (x5_5 : Int) := of_decide_eq_true z61_
                 have q20 : x5_5 < (a0.size : Int) := of_decide_eq_true z61_
                 have hx20 := bt_at a0 x5_5
                 replace p20 := eq_true p20
                 replace q20 := eq_true q20
                 have p22 : 0 ≤ (x5_5 : Int) := of_decide_eq_true z61_
                 have q22 : x5_5 < (a0.size : Int) := of_decide_eq_true z61_
                 have hx22 := bt_at a0 x5_5
                 replace p22 := eq_true p22
                 replace q22 := eq_true q22
                 go_wp2
                 repeat (go_quiet (fail); try go_wp2)
                 go_meet
                 case rel => exact ⟨_, (false), z56_, H', ⟨z30_⟩, ⟨z23_⟩⟩
                ·rw [if_neg c23] at H
                 have c23b0 : ((bt a0 x5_5) == 63) = false := beq_eq_false_iff_ne.mpr c23
                 have c23b1 : ((bt a0 x5_5) != 63) = true := bne_iff_ne.mpr c23
                 have H' := Aside0.mk H
                 clear H
                 have p20 : 0 ≤ (x5_5 : Int) := of_decide_eq_true z61_
                 have q20 : x5_5 < (a0.size : Int) := of_decide_eq_true z61_
                 have hx20 := bt_at a0 x5_5
                 replace p20 := eq_true p20
                 replace q20 := eq_true q20
                 have p22 : 0 ≤ (x5_5 : Int) := of_decide_eq_true z61_
                 have q22 : x5_5 < (a0.size : Int) := of_decide_eq_true z61_
                 have hx22 := bt_at a0 x5_5
                 replace p22 := eq_true p22
                 replace q22 := eq_true q22
                 have p24 : 0 ≤ (x5_5 : Int) := of_decide_eq_true z61_
                 have q24 : x5_5 < (a0.size : Int) := of_decide_eq_true z61_
                 have hx24 := bt_at a0 x5_5
                 replace p24 := eq_true p24
                 replace q24 := eq_true q24
                 go_wp2
                 repeat (go_quiet (fail); try go_wp2)
                 go_meet
                 case rel => exact ⟨_, (((bt a0 x5_5) != 35)), z56_, H', ⟨z30_⟩, ⟨z23_⟩⟩
              ·rw [if_neg c19] at H
               exact absurd H (by simp)
             ·rw [if_neg c18] at H
              have c18b0 : decide (x5_5 < (a0.size : Int)) = false := decide_eq_false c18; clear c18
              (first | rw [c18b0] | (simp only [i64_w, i32_w]; rw [c18b0]) | skip)
              have H' := Aside0.mk H
              clear H; go_wp2
              repeat (go_quiet (fail); try go_wp2)
              go_meet
              case rel => exact ⟨_, (false), z56_, H', ⟨z30_⟩, ⟨z23_⟩⟩
            case rest =>
             clear HC17; (try clear c16)
             obtain ⟨kq, x42_16, rfl, HA, HJ16, HB⟩ := hcut
             cases kq with
             | zero => exact absurd HA.out (by simp [pursuivantref27_URL.j5])
             | succ kj16 =>
              have H := HA.out
              clear HA
              simp only [pursuivantref27_URL.j5] at H
              by_cases c25 : x42_16 = true
              ·subst c25
               have H1 : (if 0 ≤ x5_5 then (if x5_5 < (a0.size : Int) then (if (bt a0 x5_5) = 64 then (pursuivantref27_URL.l0 kj16 a0 x3_10 x5_5 (wrap64 (x5_5 + 1))) else (pursuivantref27_URL.l0 kj16 a0 x3_10 x4_5 (wrap64 (x5_5 + 1)))) else (none)) else (none)) = some r := by rw [if_pos rfl] at H; exact H
               clear H
               have H := H1
               clear H1
               by_cases c26 : 0 ≤ x5_5
               ·rw [if_pos c26] at H
                have c26b0 : decide (0 ≤ x5_5) = true := decide_eq_true c26; clear c26
                by_cases c27 : x5_5 < (a0.size : Int)
                ·rw [if_pos c27] at H
                 have c27b0 : decide (x5_5 < (a0.size : Int)) = true := decide_eq_true c27; clear c27
                 by_cases c29 : (bt a0 x5_5) = 64
                 ·rw [if_pos c29] at H
                  have c29b0 : ((bt a0 x5_5) == 64) = true := beq_iff_eq.mpr c29
                  have c29b1 : ((bt a0 x5_5) != 64) = false := bne_eq_false_iff_eq.mpr c29
                  clear c29
                  have H' := Aside0.mk H
                  clear H
                  have p28 : 0 ≤ (x5_5 : Int) := of_decide_eq_true z61_
                  have q28 : x5_5 < (a0.size : Int) := of_decide_eq_true z61_
                  have hx28 := bt_at a0 x5_5
                  replace p28 := eq_true p28
                  replace q28 := eq_true q28
                  go_wp2
                  repeat (go_quiet (fail); try go_wp2)
                  go_roundg kj16
                  case measure => have := HJ2.out; have := HJ6.out; have := HJ10.out; have := HJ13.out; have := HK5.out; have := HJ16.out; omega
                  case rel => exact ⟨(x5_5), (wrap64 (x5_5 + 1)), z56_, z56_, H', ⟨by have := HJ2.out; have := HJ6.out; have := HJ10.out; have := HJ13.out; have := HK5.out; have := HJ16.out; omega⟩, ⟨z23_⟩⟩
                 ·rw [if_neg c29] at H
                  have c29b0 : ((bt a0 x5_5) == 64) = false := beq_eq_false_iff_ne.mpr c29
                  have c29b1 : ((bt a0 x5_5) != 64) = true := bne_iff_ne.mpr c29
                  have H' := Aside0.mk H
                  clear H
                  have p28 : 0 ≤ (x5_5 : Int) := of_decide_eq_true z61_
                  have q28 : x5_5 < (a0.size : Int) := of_decide_eq_true z61_
                  have hx28 := bt_at a0 x5_5
                  replace p28 := eq_true p28
                  replace q28 := eq_true q28
                  go_wp2
                  repeat (go_quiet (fail); try go_wp2)
                  go_roundg kj16
                  case measure => have := HJ2.out; have := HJ6.out; have := HJ10.out; have := HJ13.out; have := HK5.out; have := HJ16.out; omega
                  case rel => exact ⟨(x4_5), (wrap64 (x5_5 + 1)), z56_, z56_, H', ⟨by have := HJ2.out; have := HJ6.out; have := HJ10.out; have := HJ13.out; have := HK5.out; have := HJ16.out; omega⟩, ⟨z23_⟩⟩
                ·rw [if_neg c27] at H
                 exact absurd H (by simp)
               ·rw [if_neg c26] at H
                exact absurd H (by simp)
              ·replace c25 := Bool.eq_false_iff.mpr c25
               subst c25
               have H1 : (if x4_5 ≤ x3_10 then (some a0) else (if 0 ≤ x3_10 then (if x3_10 ≤ x4_5 then (if x4_5 ≤ (a0.size : Int) then ((pursuivantref06_Good.f kj16 (⟨#[104, 116, 116, 112]⟩ : ByteArray) (a0.extract (x3_10 : Int).toNat (x4_5 : Int).toNat) (⟨#[97]⟩ : ByteArray) 0 (⟨#[47]⟩ : ByteArray) false (⟨#[]⟩ : ByteArray) false (⟨#[]⟩ : ByteArray)).bind fun t117 => (if t117 = true then (if x3_10 ≤ (a0.size : Int) then (if (a0.extract 0 (x3_10 : Int).toNat).size + 1 ≤ 9223372036854775807 then (if 0 ≤ x4_5 then (if ((a0.extract 0 (x3_10 : Int).toNat) ++ (⟨#[42]⟩ : ByteArray)).size + (a0.extract (x4_5 : Int).toNat a0.size).size ≤ 9223372036854775807 then (some (((a0.extract 0 (x3_10 : Int).toNat) ++ (⟨#[42]⟩ : ByteArray)) ++ (a0.extract (x4_5 : Int).toNat a0.size))) else (none)) else (none)) else (none)) else (none)) else (some a0))) else (none)) else (none)) else (none))) = some r := by rw [if_neg (show ¬ (false = true) by decide)] at H; exact H
               clear H
               have H := H1
               clear H1
               by_cases c30 : x4_5 ≤ x3_10
               ·rw [if_pos c30] at H
                have c30b0 : decide (x4_5 ≤ x3_10) = true := decide_eq_true c30; clear c30
                obtain rfl := Option.some.inj H
                go_wp2
                repeat (go_quiet (fail); try go_wp2)
                go_ret
                exact ⟨z25_, z23_⟩
               ·rw [if_neg c30] at H
                have c30b0 : decide (x4_5 ≤ x3_10) = false := decide_eq_false c30; clear c30
                by_cases c31 : 0 ≤ x3_10
                ·rw [if_pos c31] at H
                 have c31b0 := eq_true c31; have c31b1 : decide (0 ≤ x3_10) = true := decide_eq_true c31; clear c31
                 by_cases c32 : x3_10 ≤ x4_5
                 ·rw [if_pos c32] at H
                  have c32b0 := eq_true c32; have c32b1 : decide (x3_10 ≤ x4_5) = true := decide_eq_true c32; clear c32
                  by_cases c33 : x4_5 ≤ (a0.size : Int)
                  ·rw [if_pos c33] at H
                   have c33b0 := eq_true c33; have c33b1 : decide (x4_5 ≤ (a0.size : Int)) = true := decide_eq_true c33; clear c33
                   replace H := Option.bind_eq_some_iff.mp H
                   obtain ⟨t117, A340, H⟩ := H
                   replace H : (if t117 = true then (if x3_10 ≤ (a0.size : Int) then (if (a0.extract 0 (x3_10 : Int).toNat).size + 1 ≤ 9223372036854775807 then (if 0 ≤ x4_5 then (if ((a0.extract 0 (x3_10 : Int).toNat) ++ (⟨#[42]⟩ : ByteArray)).size + (a0.extract (x4_5 : Int).toNat a0.size).size ≤ 9223372036854775807 then (some (((a0.extract 0 (x3_10 : Int).toNat) ++ (⟨#[42]⟩ : ByteArray)) ++ (a0.extract (x4_5 : Int).toNat a0.size))) else (none)) else (none)) else (none)) else (none)) else (some a0)) = some r := H
                   have A34 := Aside0.mk A340; clear A340
                   by_cases c35 : t117 = true
                   ·subst c35
                    have H1 : (if x3_10 ≤ (a0.size : Int) then (if (a0.extract 0 (x3_10 : Int).toNat).size + 1 ≤ 9223372036854775807 then (if 0 ≤ x4_5 then (if ((a0.extract 0 (x3_10 : Int).toNat) ++ (⟨#[42]⟩ : ByteArray)).size + (a0.extract (x4_5 : Int).toNat a0.size).size ≤ 9223372036854775807 then (some (((a0.extract 0 (x3_10 : Int).toNat) ++ (⟨#[42]⟩ : ByteArray)) ++ (a0.extract (x4_5 : Int).toNat a0.size))) else (none)) else (none)) else (none)) else (none)) = some r := by rw [if_pos rfl] at H; exact H
                    clear H
                    have H := H1
                    clear H1
                    have c36b0 := eq_true (of_decide_eq_true z61_ : 0 ≤ x3_10)
                    by_cases c37 : x3_10 ≤ (a0.size : Int)
                    ·rw [if_pos c37] at H
                     have c37b0 := eq_true c37; have c37b1 : decide (x3_10 ≤ (a0.size : Int)) = true := decide_eq_true c37; clear c37
                     by_cases c38 : (a0.extract 0 (x3_10 : Int).toNat).size + 1 ≤ 9223372036854775807
                     ·rw [if_pos c38] at H
                      have c38b0 := eq_true c38
                      have c38n := c38
                      (try simp only [Int.toNat_natCast, ByteArray.size_extract, Nat.min_self, Nat.sub_zero] at c38n)
                      have c38n0 := eq_true c38n; clear c38n
                      have c38f := eq_false (Nat.not_lt.2 c38)
                      (try simp only [ByteArray.size_append, ByteArray.size_extract, Nat.min_self, Nat.sub_zero, Int.toNat_natCast, show (⟨#[42]⟩ : ByteArray).size = 1 from rfl] at c38f)
                      have c38b1 : decide ((a0.extract 0 (x3_10 : Int).toNat).size + 1 ≤ 9223372036854775807) = true := decide_eq_true c38
                      try have c38b2 : (9223372036854775807 < (a0.extract 0 (x3_10 : Int).toNat).size + 1) = False := eq_false (Nat.not_lt.2 c38)
                      try have c38c0 : (9223372036854775807 ≤ (a0.extract 0 (x3_10 : Int).toNat).size) = False := eq_false (by omega)
                      try have c38c1 : ((a0.extract 0 (x3_10 : Int).toNat).size < 9223372036854775807) = True := eq_true (by omega)
                      try (have c38s0 := c38b2; simp only [ByteArray.size_extract, Nat.min_self] at c38s0)
                      try (have c38s1 := c38c0; simp only [ByteArray.size_extract, Nat.min_self] at c38s1)
                      try (have c38s2 := c38c1; simp only [ByteArray.size_extract, Nat.min_self] at c38s2)
                      try (have c38t0 := c38b2; simp only [ByteArray.size_extract, Nat.min_eq_left (show (x3_10 : Int).toNat ≤ a0.size by omega)] at c38t0)
                      try (have c38t1 := c38c0; simp only [ByteArray.size_extract, Nat.min_eq_left (show (x3_10 : Int).toNat ≤ a0.size by omega)] at c38t1)
                      try (have c38t2 := c38c1; simp only [ByteArray.size_extract, Nat.min_eq_left (show (x3_10 : Int).toNat ≤ a0.size by omega)] at c38t2)
                      by_cases c39 : 0 ≤ x4_5
                      ·rw [if_pos c39] at H
                       have c39b0 := eq_true c39; have c39b1 : decide (0 ≤ x4_5) = true := decide_eq_true c39; clear c39
                       have c40b0 := eq_true (of_decide_eq_true z61_ : x4_5 ≤ (a0.size : Int))
                       by_cases c41 : ((a0.extract 0 (x3_10 : Int).toNat) ++ (⟨#[42]⟩ : ByteArray)).size + (a0.extract (x4_5 : Int).toNat a0.size).size ≤ 9223372036854775807
                       ·rw [if_pos c41] at H
                        have c41b0 := eq_true c41
                        have c41n := c41
                        (try simp only [Int.toNat_natCast, ByteArray.size_extract, Nat.min_self, Nat.sub_zero] at c41n)
                        have c41n0 := eq_true c41n; clear c41n
                        have c41f := eq_false (Nat.not_lt.2 c41)
                        (try simp only [ByteArray.size_append, ByteArray.size_extract, Nat.min_self, Nat.sub_zero, Int.toNat_natCast, show (⟨#[42]⟩ : ByteArray).size = 1 from rfl] at c41f)
                        try have c41m : (((a0.extract 0 (x3_10 : Int).toNat).size + 1) + (a0.extract (x4_5 : Int).toNat a0.size).size ≤ 9223372036854775807) = True := by first | exact c41b0 | (have h_ := c41; simp only [ByteArray.size_append, Int.natCast_add] at h_; exact eq_true h_)
                        have c41b1 : decide (((a0.extract 0 (x3_10 : Int).toNat) ++ (⟨#[42]⟩ : ByteArray)).size + (a0.extract (x4_5 : Int).toNat a0.size).size ≤ 9223372036854775807) = true := decide_eq_true c41
                        try have c41b1n : decide (((a0.extract 0 (x3_10 : Int).toNat).size + 1) + (a0.extract (x4_5 : Int).toNat a0.size).size ≤ 9223372036854775807) = true := by first | exact c41b1 | (have h_ := c41b1; simp only [ByteArray.size_append, Int.natCast_add] at h_; exact h_)
                        try have c41b2 : (9223372036854775807 < ((a0.extract 0 (x3_10 : Int).toNat) ++ (⟨#[42]⟩ : ByteArray)).size + (a0.extract (x4_5 : Int).toNat a0.size).size) = False := eq_false (Nat.not_lt.2 c41)
                        try have c41b2n : (9223372036854775807 < ((a0.extract 0 (x3_10 : Int).toNat).size + 1) + (a0.extract (x4_5 : Int).toNat a0.size).size) = False := by first | exact c41b2 | (have h_ := c41b2; simp only [ByteArray.size_append, Int.natCast_add] at h_; exact h_)
                        obtain rfl := Option.some.inj H
                        go_wp2_with (first | (go_at_call 32; (fail_if_success (have z_ := U_14)); have U_14 := trivial; (with_reducible refine (pursuivantref06_Good.calls kj16 (⟨#[104, 116, 116, 112]⟩ : ByteArray) (a0.extract (x3_10 : Int).toNat (x4_5 : Int).toNat) (⟨#[97]⟩ : ByteArray) 0 (⟨#[47]⟩ : ByteArray) false (⟨#[]⟩ : ByteArray) false (⟨#[]⟩ : ByteArray) true _ ?gw22_ A34.out).mono ?_); (case gw22_ => exact z5_); rintro e w42 ⟨rfl, hb⟩; have n0_ := Aside0.mk (below_step z23_ hb); clear HB; have HB := n0_; clear n0_; (try clear hb); (try clear hb2); (try clear hk); (try clear hi)))
                        have q1 : x3_10 ≤ (a0.size : Int) := of_eq_true (by assumption)
                        have q2 : x3_10.toNat ≤ a0.size := by omega
                        have q3 : (9223372036854775807 < x3_10.toNat + 1) = False := by have h := c38; simp only [ByteArray.size_extract, Nat.sub_zero, Nat.min_eq_left q2] at h; exact eq_false (by omega)
                        have q4 : (9223372036854775807 < x3_10.toNat + 1 + (a0.size - x4_5.toNat)) = False := by have h := c41f; rw [Nat.min_eq_left q2] at h; exact h
                        refine start_ (n := 9) (S := fun _ => True) (ds := []) (tb_ 9 0) (by kernel_rfl) rfl rfl trivial (fun hHeld => ?_)
                        refine with_tab (T := rtab .any (opsOf Tryz.f13 18)) rfl (fun HT_ => ?_)
                        refine pz_ 0 63 (tb_ 9 1) HT_.out ?_
                        refine pz_ 1 64 (tb_ 9 3) HT_.out ?_
                        refine pz_ 2 65 (tb_ 9 7) HT_.out ?_
                        refine pz_ 3 66 (tb_ 9 15) HT_.out ?_
                        refine pz_ 4 67 (tb_ 9 31) HT_.out ?_
                        refine pz_ 5 68 (tb_ 9 63) HT_.out ?_
                        refine pz_ 6 69 (tb_ 9 127) HT_.out ?_
                        refine pz_ 7 70 (tb_ 9 255) HT_.out ?_
                        refine pz_ 8 2 (tb_ 9 511) HT_.out ?_
                        refine done_ (done_of HT_.out (by kernel_rfl)) ?_
                        clear HT_ hHeld; go_wp2
                        go_ret
                        exact ⟨z25_, z23_⟩
                       ·rw [if_neg c41] at H
                        exact absurd H (by simp)
                      ·rw [if_neg c39] at H
                       exact absurd H (by simp)
                     ·rw [if_neg c38] at H
                      exact absurd H (by simp)
                    ·rw [if_neg c37] at H
                     exact absurd H (by simp)
                   ·replace c35 := Bool.eq_false_iff.mpr c35
                    subst c35
                    have H1 : (some a0) = some r := by rw [if_neg (show ¬ (false = true) by decide)] at H; exact H
                    clear H
                    have H := H1
                    clear H1
                    obtain rfl := Option.some.inj H
                    go_wp2_with (first | (go_at_call 32; (fail_if_success (have z_ := U_17)); have U_17 := trivial; (with_reducible refine (pursuivantref06_Good.calls kj16 (⟨#[104, 116, 116, 112]⟩ : ByteArray) (a0.extract (x3_10 : Int).toNat (x4_5 : Int).toNat) (⟨#[97]⟩ : ByteArray) 0 (⟨#[47]⟩ : ByteArray) false (⟨#[]⟩ : ByteArray) false (⟨#[]⟩ : ByteArray) false _ ?gw25_ A34.out).mono ?_); (case gw25_ => exact z5_); rintro e w43 ⟨rfl, hb⟩; have n0_ := Aside0.mk (below_step z23_ hb); clear HB; have HB := n0_; clear n0_; (try clear hb); (try clear hb2); (try clear hk); (try clear hi)))
                    repeat (go_quiet (first | (go_at_call 32; (fail_if_success (have z_ := U_18)); have U_18 := trivial; (with_reducible refine (pursuivantref06_Good.calls kj16 (⟨#[104, 116, 116, 112]⟩ : ByteArray) (a0.extract (x3_10 : Int).toNat (x4_5 : Int).toNat) (⟨#[97]⟩ : ByteArray) 0 (⟨#[47]⟩ : ByteArray) false (⟨#[]⟩ : ByteArray) false (⟨#[]⟩ : ByteArray) false _ ?gw26_ A34.out).mono ?_); (case gw26_ => exact z5_); rintro e w43 ⟨rfl, hb⟩; have n0_ := Aside0.mk (below_step z23_ hb); clear HB; have HB := n0_; clear n0_; (try clear hb); (try clear hb2); (try clear hk); (try clear hi))); try go_wp2_with (first | (go_at_call 32; (fail_if_success (have z_ := U_19)); have U_19 := trivial; (with_reducible refine (pursuivantref06_Good.calls kj16 (⟨#[104, 116, 116, 112]⟩ : ByteArray) (a0.extract (x3_10 : Int).toNat (x4_5 : Int).toNat) (⟨#[97]⟩ : ByteArray) 0 (⟨#[47]⟩ : ByteArray) false (⟨#[]⟩ : ByteArray) false (⟨#[]⟩ : ByteArray) false _ ?gw27_ A34.out).mono ?_); (case gw27_ => exact z5_); rintro e w43 ⟨rfl, hb⟩; have n0_ := Aside0.mk (below_step z23_ hb); clear HB; have HB := n0_; clear n0_; (try clear hb); (try clear hb2); (try clear hk); (try clear hi))))
                    go_ret
                    exact ⟨z25_, z23_⟩
                  ·rw [if_neg c33] at H
                   exact absurd H (by simp)
                 ·rw [if_neg c32] at H
                  exact absurd H (by simp)
                ·rw [if_neg c31] at H
                 exact absurd H (by simp)

mutual
def pursuivantref27_Headers.l0 : Nat → List (S58) → List (S58) → Int → Option ((List (S58)))
 | 0, _, _, _ => none
 | k + 1, x0, x3, x4 => if x4 < (x0.length : Int) then (if 0 ≤ x4 then ((pursuivantref04_Lower.f k ((rd_T58 x0 x4).f0)).bind fun t123 => ((pursuivantref09_Value.f k ((rd_T58 x0 x4).f1)).bind fun t124 => (if t124 = true then (if ((rd_T58 x0 x4).f1).toList = ([] : List UInt8) then (pursuivantref27_Headers.j1 k x0 x3 x4 t123 false ((rd_T58 x0 x4).f0) ((rd_T58 x0 x4).f1)) else (if t123.toList = ([99, 111, 111, 107, 105, 101] : List UInt8) then (pursuivantref27_Headers.j1 k x0 x3 x4 t123 true ((rd_T58 x0 x4).f0) ((rd_T58 x0 x4).f1)) else (if t123.toList = ([115, 101, 116, 45, 99, 111, 111, 107, 105, 101] : List UInt8) then (pursuivantref27_Headers.j1 k x0 x3 x4 t123 true ((rd_T58 x0 x4).f0) ((rd_T58 x0 x4).f1)) else (if t123.toList = ([97, 117, 116, 104, 111, 114, 105, 122, 97, 116, 105, 111, 110] : List UInt8) then (pursuivantref27_Headers.j1 k x0 x3 x4 t123 true ((rd_T58 x0 x4).f0) ((rd_T58 x0 x4).f1)) else (pursuivantref27_Headers.j1 k x0 x3 x4 t123 (t123.toList == ([112, 114, 111, 120, 121, 45, 97, 117, 116, 104, 111, 114, 105, 122, 97, 116, 105, 111, 110] : List UInt8)) ((rd_T58 x0 x4).f0) ((rd_T58 x0 x4).f1)))))) else (pursuivantref27_Headers.j1 k x0 x3 x4 t123 false ((rd_T58 x0 x4).f0) ((rd_T58 x0 x4).f1))))) else (none)) else (some x3)
def pursuivantref27_Headers.j1 : Nat → List (S58) → List (S58) → Int → ByteArray → Bool → ByteArray → ByteArray → Option ((List (S58)))
 | 0, _, _, _, _, _, _, _ => none
 | k + 1, x0, x3, x4, x6, x44, x123000, x123001 => if x44 = true then (pursuivantref27_Headers.j2 k x0 x3 x4 x6 x123000 (⟨#[42]⟩ : ByteArray)) else (pursuivantref27_Headers.j2 k x0 x3 x4 x6 x123000 x123001)
def pursuivantref27_Headers.j2 : Nat → List (S58) → List (S58) → Int → ByteArray → ByteArray → ByteArray → Option ((List (S58)))
 | 0, _, _, _, _, _, _ => none
 | k + 1, x0, x3, x4, x6, x123000, x123001 => (pursuivantref09_Value.f k x123001).bind fun t125 => (if t125 = true then (if x6.toList = ([108, 111, 99, 97, 116, 105, 111, 110] : List UInt8) then ((pursuivantref27_URL.f k x123001).bind fun t126 => (if x3.length < 4398046511104 then (pursuivantref27_Headers.l0 k x0 (x3 ++ [(⟨x123000, t126⟩ : S58)]) (wrap64 (x4 + 1))) else (none))) else (if x3.length < 4398046511104 then (pursuivantref27_Headers.l0 k x0 (x3 ++ [(⟨x123000, x123001⟩ : S58)]) (wrap64 (x4 + 1))) else (none))) else (if x3.length < 4398046511104 then (pursuivantref27_Headers.l0 k x0 (x3 ++ [(⟨x123000, x123001⟩ : S58)]) (wrap64 (x4 + 1))) else (none)))
end
def pursuivantref27_Headers.f (k : Nat) (l0 : List (S58)) : Option ((List (S58))) := pursuivantref27_Headers.l0 k l0 (([] : List (S58))) 0
set_option maxHeartbeats 8000000 in
set_option maxRecDepth 100000 in
theorem pursuivantref27_Headers.calls (k : Nat) (A0 : Option Addr) (c0 : Nat) (l0 : List (S58)) (r : List (S58)) (w : World) (hG_ : GW w) (hr0 : Kd.C k58 w A0 l0.length l0) (hc0 : l0.length ≤ c0) (h : pursuivantref27_Headers.f k l0 = some r) :
  Calls Tryz.prog 16 #[.slice A0 l0.length c0] w fun e w' => ∃ v0_ : Value, e = .returned (v0_) ∧ Kd.R k58 58 w' w.heap.size (fun _ => True) v0_ r ∧ Below w.heap.size w w' := by
 have hu58 := Tryz.underlying58
 have HR0 := Aside0.mk hr0; have HC0 := Aside0.mk hc0; clear hr0 hc0
 have HB := Aside0.mk (Below.refl w.heap.size w)
 have H : (pursuivantref27_Headers.l0 k l0 (([] : List (S58))) 0) = some r := h
 clear h
 obtain ⟨y118, hy118⟩ : ∃ y_ : List (S58), y_ = (([] : List (S58))) := ⟨_, rfl⟩
 replace H : (pursuivantref27_Headers.l0 k l0 y118 0) = some r := by first | (rw [hy118]; with_reducible exact H) | (have H2_ := (Option.bind_some _ _).symm.trans H; rw [hy118]; with_reducible exact H2_) | (have H2_ := (Option.bind_some _ _).symm.trans H; with_reducible exact H2_) | with_reducible exact H | (rw [hy118]; exact H) | exact H
 have Ny118 := Aside0.mk hy118; clear hy118
 have H' := Aside0.mk H
 clear H
 go_enter Tryz.func16, Tryz.ntmps16
 go_wp2_with (first | ((with_reducible refine gate_dst (N := 7) rfl ?_); refine Kd.R_lit k58 _ 58 ?hg (N := 7) ?hd (xs := ([] : List (S58))) (inner := []) (ok := fun _ => True) (okp := fun _ => True) ?hr ?hp (fun _ hk => hk) trivial (Below.refl _ _) (Nat.le_refl _) (by simp) ?_; (case hd => rfl); (case hg => rfl); (case hr => first | (go_simp; done) | (go_simp; rfl)); (case hp => exact (Reps.none _ _)); intro v119 w2 ho3 hb hg_ hnew_; clear hg_ hnew_; (first | rw [← Ny118.out] at ho3 | (simp only [Int.reduceToNat] at ho3; rw [← Ny118.out] at ho3)); have n0_ := Aside0.mk (Kd.R_lower ho3 (below_size z23_)); have n1_ := Aside0.mk (below_step z23_ hb); clear HB; have HO120 := n0_; have HB := n1_; clear n0_ n1_; clear hb ho3))
 go_loopg [3, 4] k (fun kq v3 v4 w' => ∃ (x3_1 : List (S58)) (x4_1 : Int), v4 = .int .i64 x4_1 ∧ Aside0 (pursuivantref27_Headers.l0 kq l0 x3_1 x4_1 = some r) ∧ Aside0 (kq ≤ k) ∧ Aside0 (Kd.R k58 58 w' w.heap.size (fun _ => True) v3 x3_1) ∧ Aside0 (Below w.heap.size w w'))
 case atStart => exact ⟨(y118), (0), z56_, H', ⟨Nat.le_refl _⟩, ⟨by (with_reducible repeat (first | apply Kd.R_alloc | apply Kd.R_drewN | apply Kd.R_drew)); exact HO120.out⟩, ⟨z23_⟩⟩
 case round =>
  clear H'
  obtain ⟨x3_1, x4_1, rfl, HA, HK1, HO_3, HB⟩ := hrel
  cases gk with
  | zero => exact absurd HA.out (by simp [pursuivantref27_Headers.l0])
  | succ k1 =>
   have H := HA.out
   clear HA
   simp only [pursuivantref27_Headers.l0] at H
   by_cases c4 : x4_1 < (l0.length : Int)
   ·rw [if_pos c4] at H
    have c4b0 : decide (x4_1 < (l0.length : Int)) = true := decide_eq_true c4; clear c4
    by_cases c5 : 0 ≤ x4_1
    ·rw [if_pos c5] at H
     have c5b0 : decide (0 ≤ x4_1) = true := decide_eq_true c5; clear c5
     replace H := Option.bind_eq_some_iff.mp H
     obtain ⟨t123, A60, H⟩ := H
     replace H : ((pursuivantref09_Value.f k1 ((rd_T58 l0 x4_1).f1)).bind fun t124 => (if t124 = true then (if ((rd_T58 l0 x4_1).f1).toList = ([] : List UInt8) then (pursuivantref27_Headers.j1 k1 l0 x3_1 x4_1 t123 false ((rd_T58 l0 x4_1).f0) ((rd_T58 l0 x4_1).f1)) else (if t123.toList = ([99, 111, 111, 107, 105, 101] : List UInt8) then (pursuivantref27_Headers.j1 k1 l0 x3_1 x4_1 t123 true ((rd_T58 l0 x4_1).f0) ((rd_T58 l0 x4_1).f1)) else (if t123.toList = ([115, 101, 116, 45, 99, 111, 111, 107, 105, 101] : List UInt8) then (pursuivantref27_Headers.j1 k1 l0 x3_1 x4_1 t123 true ((rd_T58 l0 x4_1).f0) ((rd_T58 l0 x4_1).f1)) else (if t123.toList = ([97, 117, 116, 104, 111, 114, 105, 122, 97, 116, 105, 111, 110] : List UInt8) then (pursuivantref27_Headers.j1 k1 l0 x3_1 x4_1 t123 true ((rd_T58 l0 x4_1).f0) ((rd_T58 l0 x4_1).f1)) else (pursuivantref27_Headers.j1 k1 l0 x3_1 x4_1 t123 (t123.toList == ([112, 114, 111, 120, 121, 45, 97, 117, 116, 104, 111, 114, 105, 122, 97, 116, 105, 111, 110] : List UInt8)) ((rd_T58 l0 x4_1).f0) ((rd_T58 l0 x4_1).f1)))))) else (pursuivantref27_Headers.j1 k1 l0 x3_1 x4_1 t123 false ((rd_T58 l0 x4_1).f0) ((rd_T58 l0 x4_1).f1)))) = some r := H
     have A6 := Aside0.mk A60; clear A60; have HC7 := Aside0.mk H; clear H
     have p121 : 0 ≤ (x4_1 : Int) := of_decide_eq_true z61_
     have q121 : x4_1 < (l0.length : Int) := of_decide_eq_true z61_
     obtain ⟨ad121, e121, hx121_0, hx121_1⟩ := at_T58 HR0.out x4_1 p121 q121
     cases e121
     replace hx121_0 := (HB.out.cell (World.block_lt_of_cell? w _ hx121_0)).trans hx121_0
     replace hx121_1 := (HB.out.cell (World.block_lt_of_cell? w _ hx121_1)).trans hx121_1
     replace p121 := eq_true p121
     replace q121 := eq_true q121
     go_upto_region 7 with (first | ((with_reducible refine gate_dst (N := 5) rfl ?_); refine box_event ?hg (N := 5) ?hd (cs := #[.string (⟨#[]⟩ : ByteArray), .string (⟨#[]⟩ : ByteArray)]) (t := 58) ?hr ?_; (case hd => rfl); (case hg => rfl); (case hr => first | (go_simp; done) | (go_simp; rfl)); intro gb122 hg w8 hbox hb; have n0_ := Aside0.mk (Kd.R_below (Kd.R_elderB z54_ gb122 (Nat.le_of_eq hg.symm)) hb); have n1_ := Aside0.mk (below_step z23_ hb); have n2_ := Aside0.mk (hbox); have n3_ := Aside0.mk ((by rw [hg]; exact (below_size z23_) : w.heap.size ≤ gb122)); have n4_ := Aside0.mk ((by rw [hg]; exact (below_size z23_) : w.heap.size ≤ gb122)); clear HO_3; clear HB; have HO_3 := n0_; have HB := n1_; have BK122 := n2_; have GW122 := n3_; have GE122 := n4_; clear n0_ n1_ n2_ n3_ n4_; clear hb hbox hg; have hcz9_0 : w8.cell? ⟨gb122, 0, none⟩ = some (.string (⟨#[]⟩ : ByteArray)) := (blk_cell BK122.out 0).trans rfl; have hcz9_1 : w8.cell? ⟨gb122, 1, none⟩ = some (.string (⟨#[]⟩ : ByteArray)) := (blk_cell BK122.out 1).trans rfl; have hfz9_0 := blk_frozen BK122.out 0; have hfz9_1 := blk_frozen BK122.out 1) | ((with_reducible refine gate_callee (f := 37) rfl ?_); refine goesL_ (some 20) rfl rfl Tryz.func37 (by kernel_rfl) rfl #[.string ((rd_T58 l0 x4_1).f0)] rfl z22_ ?_; (with_reducible refine (pursuivantref04_Lower.calls k1 ((rd_T58 l0 x4_1).f0) t123 _ ?gw28_ A6.out).mono ?_); (case gw28_ => exact z4_); rintro e w10 ⟨rfl, hb⟩; refine ⟨_, rfl, ?_⟩; have n0_ := Aside0.mk (Kd.R_below (by (with_reducible repeat (first | apply Kd.R_alloc | apply Kd.R_drewN | apply Kd.R_drew)); exact (Kd.R_mono (Kd.R_far (p := ⟨gb122, 1, none⟩) (Kd.R_far (p := ⟨gb122, 0, none⟩) (Kd.R_mono HO_3.out (fun k_ hk => (⟨hk, hk.2⟩ : _ ∧ k_ ≠ gb122))) (fun _ hk => hk.2) (.string ((rd_T58 l0 x4_1).f0))) (fun _ hk => hk.2) (.string ((rd_T58 l0 x4_1).f1))) (fun _ h_ => h_.1))) hb); have n1_ := Aside0.mk (blk_below (g := gb122) (o := .cells #[.string ((rd_T58 l0 x4_1).f0), .string ((rd_T58 l0 x4_1).f1)] 58 (0, 0)) (by (with_reducible repeat (first | refine blk_drewN ?_ _ | refine blk_drew ?_ | refine blk_alloc ?_ _)); refine blk_put (cs := #[.string ((rd_T58 l0 x4_1).f0), .string (⟨#[]⟩ : ByteArray)]) ?_ 1 _ rfl; (with_reducible repeat (first | refine blk_drewN ?_ _ | refine blk_drew ?_ | refine blk_alloc ?_ _)); refine blk_put (cs := #[.string (⟨#[]⟩ : ByteArray), .string (⟨#[]⟩ : ByteArray)]) ?_ 0 _ rfl; (with_reducible repeat (first | refine blk_drewN ?_ _ | refine blk_drew ?_ | refine blk_alloc ?_ _)); exact BK122.out) hb); have n2_ := Aside0.mk (below_step z17_ hb); clear HO_3; clear BK122; clear HB; have HO_3 := n0_; have BK122 := n1_; have HB := n2_; clear n0_ n1_ n2_; (try clear hb); (try clear hb2); (try clear hk); (try clear hi)))
     (try simp only [Act.put, List.setIfInBounds_toArray, List.set_cons_zero, List.set_cons_succ])
     go_cut [44] (fun v44 wc => ∃ (kq : Nat) (x44_6 : Bool), v44 = .bool x44_6 ∧ Aside0 (pursuivantref27_Headers.j1 kq l0 x3_1 x4_1 t123 x44_6 ((rd_T58 l0 x4_1).f0) ((rd_T58 l0 x4_1).f1) = some r) ∧ Aside0 (kq ≤ k1) ∧ Aside0 (Kd.R k58 58 wc w.heap.size (fun k_ => k_ ≠ gb122) u3 x3_1) ∧ Aside0 (wc.heap[gb122]? = some (.cells #[.string ((rd_T58 l0 x4_1).f0), .string ((rd_T58 l0 x4_1).f1)] 58 (0, 0))) ∧ Aside0 (Below w.heap.size w wc))
     case first =>
      have H := HC7.out
      clear HC7
      replace H := Option.bind_eq_some_iff.mp H
      obtain ⟨t124, A110, H⟩ := H
      replace H : (if t124 = true then (if ((rd_T58 l0 x4_1).f1).toList = ([] : List UInt8) then (pursuivantref27_Headers.j1 k1 l0 x3_1 x4_1 t123 false ((rd_T58 l0 x4_1).f0) ((rd_T58 l0 x4_1).f1)) else (if t123.toList = ([99, 111, 111, 107, 105, 101] : List UInt8) then (pursuivantref27_Headers.j1 k1 l0 x3_1 x4_1 t123 true ((rd_T58 l0 x4_1).f0) ((rd_T58 l0 x4_1).f1)) else (if t123.toList = ([115, 101, 116, 45, 99, 111, 111, 107, 105, 101] : List UInt8) then (pursuivantref27_Headers.j1 k1 l0 x3_1 x4_1 t123 true ((rd_T58 l0 x4_1).f0) ((rd_T58 l0 x4_1).f1)) else (if t123.toList = ([97, 117, 116, 104, 111, 114, 105, 122, 97, 116, 105, 111, 110] : List UInt8) then (pursuivantref27_Headers.j1 k1 l0 x3_1 x4_1 t123 true ((rd_T58 l0 x4_1).f0) ((rd_T58 l0 x4_1).f1)) else (pursuivantref27_Headers.j1 k1 l0 x3_1 x4_1 t123 (t123.toList == ([112, 114, 111, 120, 121, 45, 97, 117, 116, 104, 111, 114, 105, 122, 97, 116, 105, 111, 110] : List UInt8)) ((rd_T58 l0 x4_1).f0) ((rd_T58 l0 x4_1).f1)))))) else (pursuivantref27_Headers.j1 k1 l0 x3_1 x4_1 t123 false ((rd_T58 l0 x4_1).f0) ((rd_T58 l0 x4_1).f1))) = some r := H
      have A11 := Aside0.mk A110; clear A110
      by_cases c12 : t124 = true
      ·subst c12
       have H1 : (if ((rd_T58 l0 x4_1).f1).toList = ([] : List UInt8) then (pursuivantref27_Headers.j1 k1 l0 x3_1 x4_1 t123 false ((rd_T58 l0 x4_1).f0) ((rd_T58 l0 x4_1).f1)) else (if t123.toList = ([99, 111, 111, 107, 105, 101] : List UInt8) then (pursuivantref27_Headers.j1 k1 l0 x3_1 x4_1 t123 true ((rd_T58 l0 x4_1).f0) ((rd_T58 l0 x4_1).f1)) else (if t123.toList = ([115, 101, 116, 45, 99, 111, 111, 107, 105, 101] : List UInt8) then (pursuivantref27_Headers.j1 k1 l0 x3_1 x4_1 t123 true ((rd_T58 l0 x4_1).f0) ((rd_T58 l0 x4_1).f1)) else (if t123.toList = ([97, 117, 116, 104, 111, 114, 105, 122, 97, 116, 105, 111, 110] : List UInt8) then (pursuivantref27_Headers.j1 k1 l0 x3_1 x4_1 t123 true ((rd_T58 l0 x4_1).f0) ((rd_T58 l0 x4_1).f1)) else (pursuivantref27_Headers.j1 k1 l0 x3_1 x4_1 t123 (t123.toList == ([112, 114, 111, 120, 121, 45, 97, 117, 116, 104, 111, 114, 105, 122, 97, 116, 105, 111, 110] : List UInt8)) ((rd_T58 l0 x4_1).f0) ((rd_T58 l0 x4_1).f1)))))) = some r := by rw [if_pos rfl] at H; exact H
       clear H
       have H := H1
       clear H1
       by_cases c13 : ((rd_T58 l0 x4_1).f1).toList = ([] : List UInt8)
       ·rw [if_pos c13] at H
        have c13b0 : (((rd_T58 l0 x4_1).f1).toList == ([] : List UInt8)) = true := beq_iff_eq.mpr c13
        have c13b1 : (((rd_T58 l0 x4_1).f1).toList != ([] : List UInt8)) = false := bne_eq_false_iff_eq.mpr c13
        clear c13
        (first | rw [c13b0] | (simp only [i64_w, i32_w]; rw [c13b0]) | skip)
        have H' := Aside0.mk H
        clear H; obtain ⟨hcz14_0, hcz14_1⟩ := blkc2_ BK122.out; obtain ⟨hfz14_0, hfz14_1⟩ := blkf2_ BK122.out
        go_wp2_with (first | ((with_reducible refine gate_callee (f := 38) rfl ?_); refine goesL_ (some 23) rfl rfl Tryz.func38 (by kernel_rfl) rfl #[.string ((rd_T58 l0 x4_1).f1)] rfl z22_ ?_; (with_reducible refine (pursuivantref09_Value.calls k1 ((rd_T58 l0 x4_1).f1) true _ ?gw29_ A11.out).mono ?_); (case gw29_ => exact z4_); rintro e w' ⟨rfl, ⟨nd, rfl⟩⟩; refine ⟨_, rfl, ?_⟩))
        go_meet
        case rel => exact ⟨_, (false), z56_, H', ⟨z59_⟩, ⟨z24_⟩, ⟨z34_⟩, ⟨z17_⟩⟩
       ·rw [if_neg c13] at H
        have c13b0 : (((rd_T58 l0 x4_1).f1).toList == ([] : List UInt8)) = false := beq_eq_false_iff_ne.mpr c13
        have c13b1 : (((rd_T58 l0 x4_1).f1).toList != ([] : List UInt8)) = true := bne_iff_ne.mpr c13
        (first | rw [c13b0] | (simp only [i64_w, i32_w]; rw [c13b0]) | skip)
        by_cases c15 : t123.toList = ([99, 111, 111, 107, 105, 101] : List UInt8)
        ·rw [if_pos c15] at H
         have c15b0 : (t123.toList == ([99, 111, 111, 107, 105, 101] : List UInt8)) = true := beq_iff_eq.mpr c15
         have c15b1 : (t123.toList != ([99, 111, 111, 107, 105, 101] : List UInt8)) = false := bne_eq_false_iff_eq.mpr c15
         clear c15
         have H' := Aside0.mk H
         clear H; obtain ⟨hcz16_0, hcz16_1⟩ := blkc2_ BK122.out; obtain ⟨hfz16_0, hfz16_1⟩ := blkf2_ BK122.out
         go_wp2_with (first | ((with_reducible refine gate_callee (f := 38) rfl ?_); refine goesL_ (some 23) rfl rfl Tryz.func38 (by kernel_rfl) rfl #[.string ((rd_T58 l0 x4_1).f1)] rfl z22_ ?_; (with_reducible refine (pursuivantref09_Value.calls k1 ((rd_T58 l0 x4_1).f1) true _ ?gw30_ A11.out).mono ?_); (case gw30_ => exact z4_); rintro e w' ⟨rfl, ⟨nd, rfl⟩⟩; refine ⟨_, rfl, ?_⟩))
         go_meet
         case rel => exact ⟨_, (true), z56_, H', ⟨z59_⟩, ⟨z24_⟩, ⟨z34_⟩, ⟨z17_⟩⟩
        ·rw [if_neg c15] at H
         have c15b0 : (t123.toList == ([99, 111, 111, 107, 105, 101] : List UInt8)) = false := beq_eq_false_iff_ne.mpr c15
         have c15b1 : (t123.toList != ([99, 111, 111, 107, 105, 101] : List UInt8)) = true := bne_iff_ne.mpr c15
         by_cases c17 : t123.toList = ([115, 101, 116, 45, 99, 111, 111, 107, 105, 101] : List UInt8)
         ·rw [if_pos c17] at H
          have c17b0 : (t123.toList == ([115, 101, 116, 45, 99, 111, 111, 107, 105, 101] : List UInt8)) = true := beq_iff_eq.mpr c17
          have c17b1 : (t123.toList != ([115, 101, 116, 45, 99, 111, 111, 107, 105, 101] : List UInt8)) = false := bne_eq_false_iff_eq.mpr c17
          clear c17
          have H' := Aside0.mk H
          clear H; obtain ⟨hcz18_0, hcz18_1⟩ := blkc2_ BK122.out; obtain ⟨hfz18_0, hfz18_1⟩ := blkf2_ BK122.out
          go_wp2_with (first | ((with_reducible refine gate_callee (f := 38) rfl ?_); refine goesL_ (some 23) rfl rfl Tryz.func38 (by kernel_rfl) rfl #[.string ((rd_T58 l0 x4_1).f1)] rfl z22_ ?_; (with_reducible refine (pursuivantref09_Value.calls k1 ((rd_T58 l0 x4_1).f1) true _ ?gw31_ A11.out).mono ?_); (case gw31_ => exact z4_); rintro e w' ⟨rfl, ⟨nd, rfl⟩⟩; refine ⟨_, rfl, ?_⟩))
          go_meet
          case rel => exact ⟨_, (true), z56_, H', ⟨z59_⟩, ⟨z24_⟩, ⟨z34_⟩, ⟨z17_⟩⟩
         ·rw [if_neg c17] at H
          have c17b0 : (t123.toList == ([115, 101, 116, 45, 99, 111, 111, 107, 105, 101] : List UInt8)) = false := beq_eq_false_iff_ne.mpr c17
          have c17b1 : (t123.toList != ([115, 101, 116, 45, 99, 111, 111, 107, 105, 101] : List UInt8)) = true := bne_iff_ne.mpr c17
          by_cases c19 : t123.toList = ([97, 117, 116, 104, 111, 114, 105, 122, 97, 116, 105, 111, 110] : List UInt8)
          ·rw [if_pos c19] at H
           have c19b0 : (t123.toList == ([97, 117, 116, 104, 111, 114, 105, 122, 97, 116, 105, 111, 110] : List UInt8)) = true := beq_iff_eq.mpr c19
           have c19b1 : (t123.toList != ([97, 117, 116, 104, 111, 114, 105, 122, 97, 116, 105, 111, 110] : List UInt8)) = false := bne_eq_false_iff_eq.mpr c19
           clear c19
           have H' := Aside0.mk H
           clear H; obtain ⟨hcz20_0, hcz20_1⟩ := blkc2_ BK122.out; obtain ⟨hfz20_0, hfz20_1⟩ := blkf2_ BK122.out
           go_wp2_with (first | ((with_reducible refine gate_callee (f := 38) rfl ?_); refine goesL_ (some 23) rfl rfl Tryz.func38 (by kernel_rfl) rfl #[.string ((rd_T58 l0 x4_1).f1)] rfl z22_ ?_; (with_reducible refine (pursuivantref09_Value.calls k1 ((rd_T58 l0 x4_1).f1) true _ ?gw32_ A11.out).mono ?_); (case gw32_ => exact z4_); rintro e w' ⟨rfl, ⟨nd, rfl⟩⟩; refine ⟨_, rfl, ?_⟩))
           go_meet
           case rel => exact ⟨_, (true), z56_, H', ⟨z59_⟩, ⟨z24_⟩, ⟨z34_⟩, ⟨z17_⟩⟩
          ·rw [if_neg c19] at H
           have c19b0 : (t123.toList == ([97, 117, 116, 104, 111, 114, 105, 122, 97, 116, 105, 111, 110] : List UInt8)) = false := beq_eq_false_iff_ne.mpr c19
           have c19b1 : (t123.toList != ([97, 117, 116, 104, 111, 114, 105, 122, 97, 116, 105, 111, 110] : List UInt8)) = true := bne_iff_ne.mpr c19
           have H' := Aside0.mk H
           clear H; obtain ⟨hcz21_0, hcz21_1⟩ := blkc2_ BK122.out; obtain ⟨hfz21_0, hfz21_1⟩ := blkf2_ BK122.out
           go_wp2_with (first | ((with_reducible refine gate_callee (f := 38) rfl ?_); refine goesL_ (some 23) rfl rfl Tryz.func38 (by kernel_rfl) rfl #[.string ((rd_T58 l0 x4_1).f1)] rfl z22_ ?_; (with_reducible refine (pursuivantref09_Value.calls k1 ((rd_T58 l0 x4_1).f1) true _ ?gw33_ A11.out).mono ?_); (case gw33_ => exact z4_); rintro e w' ⟨rfl, ⟨nd, rfl⟩⟩; refine ⟨_, rfl, ?_⟩))
           go_meet
           case rel => exact ⟨_, ((t123.toList == ([112, 114, 111, 120, 121, 45, 97, 117, 116, 104, 111, 114, 105, 122, 97, 116, 105, 111, 110] : List UInt8))), z56_, H', ⟨z59_⟩, ⟨z24_⟩, ⟨z34_⟩, ⟨z17_⟩⟩
      ·replace c12 := Bool.eq_false_iff.mpr c12
       subst c12
       have H1 : (pursuivantref27_Headers.j1 k1 l0 x3_1 x4_1 t123 false ((rd_T58 l0 x4_1).f0) ((rd_T58 l0 x4_1).f1)) = some r := by rw [if_neg (show ¬ (false = true) by decide)] at H; exact H
       clear H
       have H := H1
       clear H1
       have H' := Aside0.mk H
       clear H; obtain ⟨hcz22_0, hcz22_1⟩ := blkc2_ BK122.out; obtain ⟨hfz22_0, hfz22_1⟩ := blkf2_ BK122.out
       go_wp2_with (first | ((with_reducible refine gate_callee (f := 38) rfl ?_); refine goesL_ (some 23) rfl rfl Tryz.func38 (by kernel_rfl) rfl #[.string ((rd_T58 l0 x4_1).f1)] rfl z22_ ?_; (with_reducible refine (pursuivantref09_Value.calls k1 ((rd_T58 l0 x4_1).f1) false _ ?gw34_ A11.out).mono ?_); (case gw34_ => exact z4_); rintro e w' ⟨rfl, ⟨nd, rfl⟩⟩; refine ⟨_, rfl, ?_⟩))
       go_meet
       case rel => exact ⟨_, (false), z56_, H', ⟨z59_⟩, ⟨z24_⟩, ⟨z34_⟩, ⟨z17_⟩⟩
     case rest =>
      clear HC7; (try clear c4); (try clear c4b0); (try clear c5); (try clear c5b0); (try clear hcz9_0 hcz9_1); (try clear hfz9_0 hfz9_1); (try clear hx121_0); (try clear hx121_1); (try clear p121); (try clear q121)
      obtain ⟨kq, x44_6, rfl, HA, HJ6, HO_3, BK122, HB⟩ := hcut
      cases kq with
      | zero => exact absurd HA.out (by simp [pursuivantref27_Headers.j1])
      | succ kj6 =>
       have H := HA.out
       clear HA
       simp only [pursuivantref27_Headers.j1] at H
       have HC23 := Aside0.mk H; clear H
       go_upto_if 44 with (fail)
       go_cut [] (fun wc => ∃ (kq : Nat) (x123001_22 : ByteArray), Aside0 (pursuivantref27_Headers.j2 kq l0 x3_1 x4_1 t123 ((rd_T58 l0 x4_1).f0) x123001_22 = some r) ∧ Aside0 (kq ≤ kj6) ∧ Aside0 (Kd.R k58 58 wc w.heap.size (fun k_ => k_ ≠ gb122) u3 x3_1) ∧ Aside0 (wc.heap[gb122]? = some (.cells #[.string ((rd_T58 l0 x4_1).f0), .string x123001_22] 58 (0, 0))) ∧ Aside0 (Below w.heap.size w wc))
       case first =>
        have H := HC23.out
        clear HC23
        by_cases c24 : x44_6 = true
        ·subst c24
         have H1 : (pursuivantref27_Headers.j2 kj6 l0 x3_1 x4_1 t123 ((rd_T58 l0 x4_1).f0) (⟨#[42]⟩ : ByteArray)) = some r := by rw [if_pos rfl] at H; exact H
         clear H
         have H := H1
         clear H1
         have H' := Aside0.mk H
         clear H; obtain ⟨hcz25_0, hcz25_1⟩ := blkc2_ BK122.out; obtain ⟨hfz25_0, hfz25_1⟩ := blkf2_ BK122.out; go_wp2; go_meet
         case rel => exact ⟨_, ((⟨#[42]⟩ : ByteArray)), H', ⟨by have := HK1.out; have := HJ6.out; first | omega | exact Nat.le_refl _⟩, ⟨by (with_reducible repeat (first | apply Kd.R_alloc | apply Kd.R_drewN | apply Kd.R_drew)); exact Kd.R_mono (Kd.R_far (p := ⟨gb122, 1, none⟩) (Kd.R_mono HO_3.out (fun k_ hk => (⟨hk, hk⟩ : _ ∧ k_ ≠ gb122))) (fun _ hk => hk.2) (.string (⟨#[42]⟩ : ByteArray))) (fun _ hk => hk.1)⟩, ⟨by (with_reducible repeat (first | refine blk_drewN ?_ _ | refine blk_drew ?_ | refine blk_alloc ?_ _)); refine blk_put (cs := #[.string ((rd_T58 l0 x4_1).f0), .string ((rd_T58 l0 x4_1).f1)]) ?_ 1 _ rfl; (with_reducible repeat (first | refine blk_drewN ?_ _ | refine blk_drew ?_ | refine blk_alloc ?_ _)); exact BK122.out⟩, ⟨z17_⟩⟩
        ·replace c24 := Bool.eq_false_iff.mpr c24
         subst c24
         have H1 : (pursuivantref27_Headers.j2 kj6 l0 x3_1 x4_1 t123 ((rd_T58 l0 x4_1).f0) ((rd_T58 l0 x4_1).f1)) = some r := by rw [if_neg (show ¬ (false = true) by decide)] at H; exact H
         clear H
         have H := H1
         clear H1
         have H' := Aside0.mk H
         clear H; go_wp2; go_meet
         case rel => exact ⟨_, (((rd_T58 l0 x4_1).f1)), H', ⟨by have := HK1.out; have := HJ6.out; first | omega | exact Nat.le_refl _⟩, ⟨z54_⟩, ⟨z34_⟩, ⟨z17_⟩⟩
       case rest =>
        clear HC23; (try clear c4); (try clear c4b0); (try clear c5); (try clear c5b0); (try clear hcz9_0 hcz9_1); (try clear hfz9_0 hfz9_1); (try clear hx121_0); (try clear hx121_1); (try clear p121); (try clear q121)
        obtain ⟨kq, x123001_22, HA, HJ22, HO_3, BK122, HB⟩ := hcut
        cases kq with
        | zero => exact absurd HA.out (by simp [pursuivantref27_Headers.j2])
        | succ kj22 =>
         have H := HA.out
         clear HA
         simp only [pursuivantref27_Headers.j2] at H
         replace H := Option.bind_eq_some_iff.mp H
         obtain ⟨t125, A260, H⟩ := H
         replace H : (if t125 = true then (if t123.toList = ([108, 111, 99, 97, 116, 105, 111, 110] : List UInt8) then ((pursuivantref27_URL.f kj22 x123001_22).bind fun t126 => (if x3_1.length < 4398046511104 then (pursuivantref27_Headers.l0 kj22 l0 (x3_1 ++ [(⟨((rd_T58 l0 x4_1).f0), t126⟩ : S58)]) (wrap64 (x4_1 + 1))) else (none))) else (if x3_1.length < 4398046511104 then (pursuivantref27_Headers.l0 kj22 l0 (x3_1 ++ [(⟨((rd_T58 l0 x4_1).f0), x123001_22⟩ : S58)]) (wrap64 (x4_1 + 1))) else (none))) else (if x3_1.length < 4398046511104 then (pursuivantref27_Headers.l0 kj22 l0 (x3_1 ++ [(⟨((rd_T58 l0 x4_1).f0), x123001_22⟩ : S58)]) (wrap64 (x4_1 + 1))) else (none))) = some r := H
         have A26 := Aside0.mk A260; clear A260
         by_cases c27 : t125 = true
         ·subst c27
          have H1 : (if t123.toList = ([108, 111, 99, 97, 116, 105, 111, 110] : List UInt8) then ((pursuivantref27_URL.f kj22 x123001_22).bind fun t126 => (if x3_1.length < 4398046511104 then (pursuivantref27_Headers.l0 kj22 l0 (x3_1 ++ [(⟨((rd_T58 l0 x4_1).f0), t126⟩ : S58)]) (wrap64 (x4_1 + 1))) else (none))) else (if x3_1.length < 4398046511104 then (pursuivantref27_Headers.l0 kj22 l0 (x3_1 ++ [(⟨((rd_T58 l0 x4_1).f0), x123001_22⟩ : S58)]) (wrap64 (x4_1 + 1))) else (none))) = some r := by rw [if_pos rfl] at H; exact H
          clear H
          have H := H1
          clear H1
          by_cases c28 : t123.toList = ([108, 111, 99, 97, 116, 105, 111, 110] : List UInt8)
          ·rw [if_pos c28] at H
           have c28b0 : (t123.toList == ([108, 111, 99, 97, 116, 105, 111, 110] : List UInt8)) = true := beq_iff_eq.mpr c28
           have c28b1 : (t123.toList != ([108, 111, 99, 97, 116, 105, 111, 110] : List UInt8)) = false := bne_eq_false_iff_eq.mpr c28
           clear c28
           replace H := Option.bind_eq_some_iff.mp H
           obtain ⟨t126, A290, H⟩ := H
           replace H : (if x3_1.length < 4398046511104 then (pursuivantref27_Headers.l0 kj22 l0 (x3_1 ++ [(⟨((rd_T58 l0 x4_1).f0), t126⟩ : S58)]) (wrap64 (x4_1 + 1))) else (none)) = some r := H
           have A29 := Aside0.mk A290; clear A290
           by_cases c30 : x3_1.length < 4398046511104
           ·rw [if_pos c30] at H
            have LMc30 := Aside0.mk c30; clear c30
            obtain ⟨y127, hy127⟩ : ∃ y_ : List (S58), y_ = (x3_1 ++ [(⟨((rd_T58 l0 x4_1).f0), t126⟩ : S58)]) := ⟨_, rfl⟩
            replace H : (pursuivantref27_Headers.l0 kj22 l0 y127 (wrap64 (x4_1 + 1))) = some r := by first | (rw [hy127]; with_reducible exact H) | (have H2_ := (Option.bind_some _ _).symm.trans H; rw [hy127]; with_reducible exact H2_) | (have H2_ := (Option.bind_some _ _).symm.trans H; with_reducible exact H2_) | with_reducible exact H | (rw [hy127]; exact H) | exact H
            have Ny127 := Aside0.mk hy127; clear hy127
            have H' := Aside0.mk H
            clear H; obtain ⟨hcz31_0, hcz31_1⟩ := blkc2_ BK122.out; obtain ⟨hfz31_0, hfz31_1⟩ := blkf2_ BK122.out
            go_wp2_with (first | ((with_reducible refine gate_callee (f := 38) rfl ?_); refine goesL_ (some 48) rfl rfl Tryz.func38 (by kernel_rfl) rfl #[.string x123001_22] rfl z22_ ?_; (with_reducible refine (pursuivantref09_Value.calls kj22 x123001_22 true _ ?gw35_ A26.out).mono ?_); (case gw35_ => exact z4_); rintro e w' ⟨rfl, ⟨nd, rfl⟩⟩; refine ⟨_, rfl, ?_⟩; (try (rw [drewN_self wc]; generalize hq_ : World.drewN wc _ = wc; have n0_ : Aside0 (Kd.R k58 58 wc w.heap.size (fun k_ => k_ ≠ gb122) u3 x3_1) := ⟨by rw [← hq_]; exact z54_⟩; have n1_ : Aside0 (wc.heap[gb122]? = some (.cells #[.string ((rd_T58 l0 x4_1).f0), .string x123001_22] 58 (0, 0))) := ⟨by rw [← hq_]; exact z34_⟩; have n2_ : Aside0 (Below w.heap.size w wc) := ⟨by rw [← hq_]; exact z17_⟩; clear HO_3 BK122 HB hq_; have HO_3 := n0_; have BK122 := n1_; have HB := n2_; clear n0_ n1_ n2_; have hcz31_0 : wc.cell? ⟨gb122, 0, none⟩ = some (.string ((rd_T58 l0 x4_1).f0)) := (blk_cell BK122.out 0).trans rfl; have hcz31_1 : wc.cell? ⟨gb122, 1, none⟩ = some (.string x123001_22) := (blk_cell BK122.out 1).trans rfl; have hfz31_0 := blk_frozen BK122.out 0; have hfz31_1 := blk_frozen BK122.out 1))) | ((with_reducible refine gate_callee (f := 13) rfl ?_); refine goesL_ (some 55) rfl rfl Tryz.func13 (by kernel_rfl) rfl #[.string x123001_22] rfl z22_ ?_; (with_reducible refine (pursuivantref27_URL.calls kj22 x123001_22 t126 _ ?gw36_ A29.out).mono ?_); (case gw36_ => exact z4_); rintro e w32 ⟨rfl, hb⟩; refine ⟨_, rfl, ?_⟩; have n0_ := Aside0.mk (Kd.R_below z54_ hb); have n1_ := Aside0.mk (blk_below (g := gb122) (o := .cells #[.string ((rd_T58 l0 x4_1).f0), .string x123001_22] 58 (0, 0)) z34_ hb); have n2_ := Aside0.mk (below_step z17_ hb); clear HO_3; clear BK122; clear HB; have HO_3 := n0_; have BK122 := n1_; have HB := n2_; clear n0_ n1_ n2_; (try clear hb); (try clear hb2); (try clear hk); (try clear hi); have hcz33_0 : w32.cell? ⟨gb122, 0, none⟩ = some (.string ((rd_T58 l0 x4_1).f0)) := (blk_cell BK122.out 0).trans rfl; have hcz33_1 : w32.cell? ⟨gb122, 1, none⟩ = some (.string x123001_22) := (blk_cell BK122.out 1).trans rfl; have hfz33_0 := blk_frozen BK122.out 0; have hfz33_1 := blk_frozen BK122.out 1) | ((with_reducible refine gate_builtin (b := .append) (xs := #[.tmp 57, .tmp 59]) rfl ?_); at_builtin; refine Kd.R_append k58 (w0 := w) w.heap.size rfl (.tmp 57) (.tmp 59) 33 58 (.agg #[(.string ⟨#[]⟩), (.string ⟨#[]⟩)]) 32 rfl Tryz.underlying33 info58 rfl (by decide) (by omega) u3 x3_1 (⟨((rd_T58 l0 x4_1).f0), t126⟩ : S58) [.string ((rd_T58 l0 x4_1).f0), .string t126] (fun k_ => k_ ≠ gb122) (fun _ => False) rfl (by first | (go_simp; done) | (go_simp; rfl)) ?aP (fun _ hk => hk.elim) ?aF ?aO ?aB ?aS ?aL ?_; (case aP => exact k58_mkM _ _ _ (⟨((rd_T58 l0 x4_1).f0), t126⟩ : S58)); (case aB => exact z17_); (case aF => exact (fun k_ hk => Kd.freshB (g := gb122) (o := .cells #[.string ((rd_T58 l0 x4_1).f0), .string t126] 58 (0, 0)) (by (with_reducible repeat (first | refine blk_drewN ?_ _ | refine blk_drew ?_ | refine blk_alloc ?_ _)); refine blk_put (cs := #[.string ((rd_T58 l0 x4_1).f0), .string x123001_22]) ?_ 1 _ rfl; (with_reducible repeat (first | refine blk_drewN ?_ _ | refine blk_drew ?_ | refine blk_alloc ?_ _)); exact BK122.out) k_ hk)); (case aO => exact (by (with_reducible repeat (first | apply Kd.R_alloc | apply Kd.R_drewN | apply Kd.R_drew)); exact Kd.R_mono (Kd.R_far (p := ⟨gb122, 1, none⟩) (Kd.R_mono HO_3.out (fun k_ hk => (⟨hk, hk⟩ : _ ∧ k_ ≠ gb122))) (fun _ hk => hk.2) (.string t126)) (fun _ hk => hk.1))); (case aS => exact (below_size z17_)); (case aL => have := LMc30.out; omega); intro v128 w34 ho hb hg hat; rw [← Ny127.out] at ho; have n0_ := Aside0.mk (blk_grown (g := gb122) (o := .cells #[.string ((rd_T58 l0 x4_1).f0), .string t126] 58 (0, 0)) (by (with_reducible repeat (first | refine blk_drewN ?_ _ | refine blk_drew ?_ | refine blk_alloc ?_ _)); refine blk_put (cs := #[.string ((rd_T58 l0 x4_1).f0), .string x123001_22]) ?_ 1 _ rfl; (with_reducible repeat (first | refine blk_drewN ?_ _ | refine blk_drew ?_ | refine blk_alloc ?_ _)); exact BK122.out) hg (Kd.R_away HO_3.out (fun _ hk => hk))); have n1_ := Aside0.mk (hb); have n2_ := Aside0.mk (ho); clear BK122; clear HB; clear HO_3; have BK122 := n0_; have HB := n1_; have HO129 := n2_; clear n0_ n1_ n2_; clear ho hb hg hat))
            go_roundg kj22
            case measure => have := HK1.out; have := HJ6.out; have := HJ22.out; omega
            case rel => exact ⟨(y127), (wrap64 (x4_1 + 1)), z56_, H', ⟨z57_⟩, ⟨by (with_reducible repeat (first | apply Kd.R_alloc | apply Kd.R_drewN | apply Kd.R_drew)); exact Kd.R_mono HO129.out (fun _ hk => trivial)⟩, ⟨z17_⟩⟩
           ·rw [if_neg c30] at H
            exact absurd H (by simp)
          ·rw [if_neg c28] at H
           have c28b0 : (t123.toList == ([108, 111, 99, 97, 116, 105, 111, 110] : List UInt8)) = false := beq_eq_false_iff_ne.mpr c28
           have c28b1 : (t123.toList != ([108, 111, 99, 97, 116, 105, 111, 110] : List UInt8)) = true := bne_iff_ne.mpr c28
           by_cases c35 : x3_1.length < 4398046511104
           ·rw [if_pos c35] at H
            have LMc35 := Aside0.mk c35; clear c35
            obtain ⟨y130, hy130⟩ : ∃ y_ : List (S58), y_ = (x3_1 ++ [(⟨((rd_T58 l0 x4_1).f0), x123001_22⟩ : S58)]) := ⟨_, rfl⟩
            replace H : (pursuivantref27_Headers.l0 kj22 l0 y130 (wrap64 (x4_1 + 1))) = some r := by first | (rw [hy130]; with_reducible exact H) | (have H2_ := (Option.bind_some _ _).symm.trans H; rw [hy130]; with_reducible exact H2_) | (have H2_ := (Option.bind_some _ _).symm.trans H; with_reducible exact H2_) | with_reducible exact H | (rw [hy130]; exact H) | exact H
            have Ny130 := Aside0.mk hy130; clear hy130
            have H' := Aside0.mk H
            clear H; obtain ⟨hcz36_0, hcz36_1⟩ := blkc2_ BK122.out; obtain ⟨hfz36_0, hfz36_1⟩ := blkf2_ BK122.out
            go_wp2_with (first | ((with_reducible refine gate_callee (f := 38) rfl ?_); refine goesL_ (some 48) rfl rfl Tryz.func38 (by kernel_rfl) rfl #[.string x123001_22] rfl z22_ ?_; (with_reducible refine (pursuivantref09_Value.calls kj22 x123001_22 true _ ?gw37_ A26.out).mono ?_); (case gw37_ => exact z4_); rintro e w' ⟨rfl, ⟨nd, rfl⟩⟩; refine ⟨_, rfl, ?_⟩) | ((with_reducible refine gate_builtin (b := .append) (xs := #[.tmp 57, .tmp 59]) rfl ?_); at_builtin; refine Kd.R_append k58 (w0 := w) w.heap.size rfl (.tmp 57) (.tmp 59) 33 58 (.agg #[(.string ⟨#[]⟩), (.string ⟨#[]⟩)]) 32 rfl Tryz.underlying33 info58 rfl (by decide) (by omega) u3 x3_1 (⟨((rd_T58 l0 x4_1).f0), x123001_22⟩ : S58) [.string ((rd_T58 l0 x4_1).f0), .string x123001_22] (fun k_ => k_ ≠ gb122) (fun _ => False) rfl rfl ?aP (fun _ hk => hk.elim) ?aF ?aO ?aB ?aS ?aL ?_; (case aP => exact k58_mkM _ _ _ (⟨((rd_T58 l0 x4_1).f0), x123001_22⟩ : S58)); (case aB => exact z17_); (case aF => exact (fun k_ hk => Kd.freshB (g := gb122) (o := .cells #[.string ((rd_T58 l0 x4_1).f0), .string x123001_22] 58 (0, 0)) z34_ k_ hk)); (case aO => exact z54_); (case aS => exact (below_size z17_)); (case aL => have := LMc35.out; omega); intro v131 w37 ho hb hg hat; rw [← Ny130.out] at ho; have n0_ := Aside0.mk (blk_grown (g := gb122) (o := .cells #[.string ((rd_T58 l0 x4_1).f0), .string x123001_22] 58 (0, 0)) z34_ hg (Kd.R_away HO_3.out (fun _ hk => hk))); have n1_ := Aside0.mk (hb); have n2_ := Aside0.mk (ho); clear BK122; clear HB; clear HO_3; have BK122 := n0_; have HB := n1_; have HO132 := n2_; clear n0_ n1_ n2_; clear ho hb hg hat))
            go_roundg kj22
            case measure => have := HK1.out; have := HJ6.out; have := HJ22.out; omega
            case rel => exact ⟨(y130), (wrap64 (x4_1 + 1)), z56_, H', ⟨z57_⟩, ⟨by (with_reducible repeat (first | apply Kd.R_alloc | apply Kd.R_drewN | apply Kd.R_drew)); exact Kd.R_mono HO132.out (fun _ hk => trivial)⟩, ⟨z17_⟩⟩
           ·rw [if_neg c35] at H
            exact absurd H (by simp)
         ·replace c27 := Bool.eq_false_iff.mpr c27
          subst c27
          have H1 : (if x3_1.length < 4398046511104 then (pursuivantref27_Headers.l0 kj22 l0 (x3_1 ++ [(⟨((rd_T58 l0 x4_1).f0), x123001_22⟩ : S58)]) (wrap64 (x4_1 + 1))) else (none)) = some r := by rw [if_neg (show ¬ (false = true) by decide)] at H; exact H
          clear H
          have H := H1
          clear H1
          by_cases c38 : x3_1.length < 4398046511104
          ·rw [if_pos c38] at H
           have LMc38 := Aside0.mk c38; clear c38
           obtain ⟨y133, hy133⟩ : ∃ y_ : List (S58), y_ = (x3_1 ++ [(⟨((rd_T58 l0 x4_1).f0), x123001_22⟩ : S58)]) := ⟨_, rfl⟩
           replace H : (pursuivantref27_Headers.l0 kj22 l0 y133 (wrap64 (x4_1 + 1))) = some r := by first | (rw [hy133]; with_reducible exact H) | (have H2_ := (Option.bind_some _ _).symm.trans H; rw [hy133]; with_reducible exact H2_) | (have H2_ := (Option.bind_some _ _).symm.trans H; with_reducible exact H2_) | with_reducible exact H | (rw [hy133]; exact H) | exact H
           have Ny133 := Aside0.mk hy133; clear hy133
           have H' := Aside0.mk H
           clear H; obtain ⟨hcz39_0, hcz39_1⟩ := blkc2_ BK122.out; obtain ⟨hfz39_0, hfz39_1⟩ := blkf2_ BK122.out
           go_wp2_with (first | ((with_reducible refine gate_callee (f := 38) rfl ?_); refine goesL_ (some 48) rfl rfl Tryz.func38 (by kernel_rfl) rfl #[.string x123001_22] rfl z22_ ?_; (with_reducible refine (pursuivantref09_Value.calls kj22 x123001_22 false _ ?gw38_ A26.out).mono ?_); (case gw38_ => exact z4_); rintro e w' ⟨rfl, ⟨nd, rfl⟩⟩; refine ⟨_, rfl, ?_⟩) | ((with_reducible refine gate_builtin (b := .append) (xs := #[.tmp 57, .tmp 59]) rfl ?_); at_builtin; refine Kd.R_append k58 (w0 := w) w.heap.size rfl (.tmp 57) (.tmp 59) 33 58 (.agg #[(.string ⟨#[]⟩), (.string ⟨#[]⟩)]) 32 rfl Tryz.underlying33 info58 rfl (by decide) (by omega) u3 x3_1 (⟨((rd_T58 l0 x4_1).f0), x123001_22⟩ : S58) [.string ((rd_T58 l0 x4_1).f0), .string x123001_22] (fun k_ => k_ ≠ gb122) (fun _ => False) rfl rfl ?aP (fun _ hk => hk.elim) ?aF ?aO ?aB ?aS ?aL ?_; (case aP => exact k58_mkM _ _ _ (⟨((rd_T58 l0 x4_1).f0), x123001_22⟩ : S58)); (case aB => exact z17_); (case aF => exact (fun k_ hk => Kd.freshB (g := gb122) (o := .cells #[.string ((rd_T58 l0 x4_1).f0), .string x123001_22] 58 (0, 0)) z34_ k_ hk)); (case aO => exact z54_); (case aS => exact (below_size z17_)); (case aL => have := LMc38.out; omega); intro v134 w40 ho hb hg hat; rw [← Ny133.out] at ho; have n0_ := Aside0.mk (blk_grown (g := gb122) (o := .cells #[.string ((rd_T58 l0 x4_1).f0), .string x123001_22] 58 (0, 0)) z34_ hg (Kd.R_away HO_3.out (fun _ hk => hk))); have n1_ := Aside0.mk (hb); have n2_ := Aside0.mk (ho); clear BK122; clear HB; clear HO_3; have BK122 := n0_; have HB := n1_; have HO135 := n2_; clear n0_ n1_ n2_; clear ho hb hg hat))
           go_roundg kj22
           case measure => have := HK1.out; have := HJ6.out; have := HJ22.out; omega
           case rel => exact ⟨(y133), (wrap64 (x4_1 + 1)), z56_, H', ⟨z57_⟩, ⟨by (with_reducible repeat (first | apply Kd.R_alloc | apply Kd.R_drewN | apply Kd.R_drew)); exact Kd.R_mono HO135.out (fun _ hk => trivial)⟩, ⟨z17_⟩⟩
          ·rw [if_neg c38] at H
           exact absurd H (by simp)
    ·rw [if_neg c5] at H
     exact absurd H (by simp)
   ·rw [if_neg c4] at H
    have c4b0 : decide (x4_1 < (l0.length : Int)) = false := decide_eq_false c4; clear c4
    obtain rfl := Option.some.inj H
    go_wp2
    go_ret
    exact ⟨_, z25_, z54_, z23_⟩

def pursuivantref09_Same.l0 : Nat → List (S58) → List (S58) → Int → Option (Bool)
 | 0, _, _, _ => none
 | k + 1, x0, x1, x5 => if x5 < (x0.length : Int) then (if 0 ≤ x5 then (if x5 < (x1.length : Int) then (if (!((((rd_T58 x0 x5).f0).toList) == (((rd_T58 x1 x5).f0).toList)) || (!((((rd_T58 x0 x5).f1).toList) == (((rd_T58 x1 x5).f1).toList)))) = true then (some false) else (pursuivantref09_Same.l0 k x0 x1 (wrap64 (x5 + 1)))) else (none)) else (none)) else (some true)
def pursuivantref09_Same.f (k : Nat) (l0 : List (S58)) (l1 : List (S58)) : Option (Bool) := if (l0.length : Int) = (l1.length : Int) then (pursuivantref09_Same.l0 k l0 l1 0) else (some false)
set_option maxHeartbeats 8000000 in
set_option maxRecDepth 100000 in
theorem pursuivantref09_Same.calls (k : Nat) (A0 : Option Addr) (c0 : Nat) (l0 : List (S58)) (A1 : Option Addr) (c1 : Nat) (l1 : List (S58)) (r : Bool) (w : World) (hG_ : GW w) (hr0 : Kd.C k58 w A0 l0.length l0) (hc0 : l0.length ≤ c0) (hr1 : Kd.C k58 w A1 l1.length l1) (hc1 : l1.length ≤ c1) (h : pursuivantref09_Same.f k l0 l1 = some r) :
  Calls Tryz.prog 14 #[.slice A0 l0.length c0, .slice A1 l1.length c1] w fun e w' => e = .returned (.bool r) ∧ Drawn0 w w' := by
 have hu58 := Tryz.underlying58
 have HR0 := Aside0.mk hr0; have HC0 := Aside0.mk hc0; clear hr0 hc0; have HR1 := Aside0.mk hr1; have HC1 := Aside0.mk hc1; clear hr1 hc1
 have H : (if (l0.length : Int) = (l1.length : Int) then (pursuivantref09_Same.l0 k l0 l1 0) else (some false)) = some r := h
 clear h
 by_cases c3 : (l0.length : Int) = (l1.length : Int)
 ·rw [if_pos c3] at H
  have c3b0 : ((l0.length : Int) == (l1.length : Int)) = true := beq_iff_eq.mpr c3
  have c3b1 : ((l0.length : Int) != (l1.length : Int)) = false := bne_eq_false_iff_eq.mpr c3
  have c3b2 : (l0.length == l1.length) = true := by first | simpa using c3 | (simp at c3 ⊢; omega)
  clear c3
  have H' := Aside0.mk H
  clear H
  go_enter Tryz.func14, Tryz.ntmps14
  go_wp2
  repeat (go_quiet (fail); try go_wp2)
  go_loopg [5] k (fun kq v5 w' => ∃ (x5_1 : Int), v5 = .int .i64 x5_1 ∧ Aside0 (pursuivantref09_Same.l0 kq l0 l1 x5_1 = some r) ∧ Aside0 (kq ≤ k) ∧ Drawn0 w w')
  case atStart => exact ⟨(0), z56_, H', ⟨Nat.le_refl _⟩, z58_⟩
  case round =>
   clear H'; (try clear c1); (try clear c3); (try clear c3b0); (try clear c3b1); (try clear c3b2)
   obtain ⟨x5_1, rfl, HA, HK1, ⟨m1, rfl⟩⟩ := hrel
   cases gk with
   | zero => exact absurd HA.out (by simp [pursuivantref09_Same.l0])
   | succ k1 =>
    have H := HA.out
    clear HA
    simp only [pursuivantref09_Same.l0] at H
    by_cases c4 : x5_1 < (l0.length : Int)
    ·rw [if_pos c4] at H
     have c4b0 : decide (x5_1 < (l0.length : Int)) = true := decide_eq_true c4; clear c4
     by_cases c5 : 0 ≤ x5_1
     ·rw [if_pos c5] at H
      have c5b0 : decide (0 ≤ x5_1) = true := decide_eq_true c5; clear c5
      by_cases c6 : x5_1 < (l1.length : Int)
      ·rw [if_pos c6] at H
       have c6b0 : decide (x5_1 < (l1.length : Int)) = true := decide_eq_true c6; clear c6
       by_cases c7 : (!((((rd_T58 l0 x5_1).f0).toList) == (((rd_T58 l1 x5_1).f0).toList)) || (!((((rd_T58 l0 x5_1).f1).toList) == (((rd_T58 l1 x5_1).f1).toList)))) = true
       ·rw [if_pos c7] at H
        have c7b0 : (!((((rd_T58 l0 x5_1).f0).toList) == (((rd_T58 l1 x5_1).f0).toList)) || (!((((rd_T58 l0 x5_1).f1).toList) == (((rd_T58 l1 x5_1).f1).toList)))) = true := c7
        clear c7
        obtain rfl := Option.some.inj H
        have p136 : 0 ≤ (x5_1 : Int) := of_decide_eq_true z61_
        have q136 : x5_1 < (l0.length : Int) := of_decide_eq_true z61_
        obtain ⟨ad136, e136, hx136_0, hx136_1⟩ := at_T58 HR0.out x5_1 p136 q136
        cases e136
        replace p136 := eq_true p136
        replace q136 := eq_true q136
        have p137 : 0 ≤ (x5_1 : Int) := of_decide_eq_true z61_
        have q137 : x5_1 < (l1.length : Int) := of_decide_eq_true z61_
        obtain ⟨ad137, e137, hx137_0, hx137_1⟩ := at_T58 HR1.out x5_1 p137 q137
        cases e137
        replace p137 := eq_true p137
        replace q137 := eq_true q137
        go_wp2
        repeat (go_quiet (fail); try go_wp2)
        go_ret
        exact ⟨z56_, z58_⟩
       ·rw [if_neg c7] at H
        have c7b0 : (!((((rd_T58 l0 x5_1).f0).toList) == (((rd_T58 l1 x5_1).f0).toList)) || (!((((rd_T58 l0 x5_1).f1).toList) == (((rd_T58 l1 x5_1).f1).toList)))) = false := by simpa using c7
        clear c7
        have H' := Aside0.mk H
        clear H
        have p136 : 0 ≤ (x5_1 : Int) := of_decide_eq_true z61_
        have q136 : x5_1 < (l0.length : Int) := of_decide_eq_true z61_
        obtain ⟨ad136, e136, hx136_0, hx136_1⟩ := at_T58 HR0.out x5_1 p136 q136
        cases e136
        replace p136 := eq_true p136
        replace q136 := eq_true q136
        have p137 : 0 ≤ (x5_1 : Int) := of_decide_eq_true z61_
        have q137 : x5_1 < (l1.length : Int) := of_decide_eq_true z61_
        obtain ⟨ad137, e137, hx137_0, hx137_1⟩ := at_T58 HR1.out x5_1 p137 q137
        cases e137
        replace p137 := eq_true p137
        replace q137 := eq_true q137
        go_wp2
        repeat (go_quiet (fail); try go_wp2)
        go_roundg k1
        case measure => have := HK1.out; omega
        case rel => exact ⟨(wrap64 (x5_1 + 1)), z56_, H', ⟨z66_⟩, z58_⟩
      ·rw [if_neg c6] at H
       exact absurd H (by simp)
     ·rw [if_neg c5] at H
      exact absurd H (by simp)
    ·rw [if_neg c4] at H
     have c4b0 : decide (x5_1 < (l0.length : Int)) = false := decide_eq_false c4; clear c4
     obtain rfl := Option.some.inj H
     go_wp2
     repeat (go_quiet (fail); try go_wp2)
     go_ret
     exact ⟨z56_, z58_⟩
 ·rw [if_neg c3] at H
  have c3b0 : ((l0.length : Int) == (l1.length : Int)) = false := beq_eq_false_iff_ne.mpr c3
  have c3b1 : ((l0.length : Int) != (l1.length : Int)) = true := bne_iff_ne.mpr c3
  have c3b2 : (l0.length == l1.length) = false := by first | simpa using c3 | (simp at c3 ⊢; omega)
  obtain rfl := Option.some.inj H
  go_enter Tryz.func14, Tryz.ntmps14
  go_wp2
  repeat (go_quiet (fail); try go_wp2)
  go_ret
  exact ⟨z56_, z58_⟩

end Go.Proofs.YtoaleclnilbjcaaGreatDoor.Hand
