/- What each Go function here computes, and that its call computes it, over contracts proved by hand (written by this project's xprint.py, which drives the kit's print). -/
import Derived.Test.YtindkgcbglonhaaDoorZ
import Derived.Test.YtindkgcbglonhaaDoorK
import Derived.Test.YtindkgcbglonhaaDoorLib
import Derived.Test.YtindkgcbglonhaaDoorLow
namespace Go.Proofs.YtindkgcbglonhaaDoor.Hand
open Go.RowKit Go.Proofs.YtindkgcbglonhaaDoorW.PrintWords Go.Proofs.YtindkgcbglonhaaDoorW.PrintLast Go.Proofs.YtindkgcbglonhaaDoorW.PrintMore
attribute [local go_sem] max2_int min2_int max_two min_two max_three min_three max_four min_four   -- for this text's walks alone
set_option linter.unusedVariables false
set_option linter.unusedSimpArgs false

/-! ### host_label: function 59 -/
/-! ### host_Default: function 22 -/
/-! ### pursuivantref05_letter: function 60 -/
/-! ### pursuivantref05_Good: function 17 -/
/-! ### pursuivantref05_Under: function 19 -/
/-! ### pursuivantref05_Port: function 21 -/
/-! ### pursuivantref05_Default: function 23 -/
/-! ### safe_Method: function 25 -/
def safe_Method.f (a0 : ByteArray) : Option (ByteArray) := (ascii_Upper.f a0).bind fun t104 => (if t104.toList = ([68, 69, 76, 69, 84, 69] : List UInt8) then (some t104) else (if t104.toList = ([71, 69, 84] : List UInt8) then (some t104) else (if t104.toList = ([72, 69, 65, 68] : List UInt8) then (some t104) else (if t104.toList = ([79, 80, 84, 73, 79, 78, 83] : List UInt8) then (some t104) else (if t104.toList = ([80, 79, 83, 84] : List UInt8) then (some t104) else (if t104.toList = ([80, 85, 84] : List UInt8) then (some t104) else (some a0)))))))
set_option maxHeartbeats 8000000 in
set_option maxRecDepth 100000 in
theorem safe_Method.calls (a0 : ByteArray) (r : ByteArray) (w : World) (hG_ : GW w) (h : safe_Method.f a0 = some r) :
  Calls Tryd.prog 25 #[.string a0] w fun e w' => e = .returned (.string r) ∧ Below w.heap.size w w' := by
 have HB := Aside0.mk (Below.refl w.heap.size w)
 have H : ((ascii_Upper.f a0).bind fun t104 => (if t104.toList = ([68, 69, 76, 69, 84, 69] : List UInt8) then (some t104) else (if t104.toList = ([71, 69, 84] : List UInt8) then (some t104) else (if t104.toList = ([72, 69, 65, 68] : List UInt8) then (some t104) else (if t104.toList = ([79, 80, 84, 73, 79, 78, 83] : List UInt8) then (some t104) else (if t104.toList = ([80, 79, 83, 84] : List UInt8) then (some t104) else (if t104.toList = ([80, 85, 84] : List UInt8) then (some t104) else (some a0)))))))) = some r := h
 clear h
 replace H := Option.bind_eq_some_iff.mp H
 obtain ⟨t104, A20, H⟩ := H
 replace H : (if t104.toList = ([68, 69, 76, 69, 84, 69] : List UInt8) then (some t104) else (if t104.toList = ([71, 69, 84] : List UInt8) then (some t104) else (if t104.toList = ([72, 69, 65, 68] : List UInt8) then (some t104) else (if t104.toList = ([79, 80, 84, 73, 79, 78, 83] : List UInt8) then (some t104) else (if t104.toList = ([80, 79, 83, 84] : List UInt8) then (some t104) else (if t104.toList = ([80, 85, 84] : List UInt8) then (some t104) else (some a0))))))) = some r := H
 have A2 := Aside0.mk A20
 clear A20
 by_cases c3 : t104.toList = ([68, 69, 76, 69, 84, 69] : List UInt8)
 ·rw [if_pos c3] at H
  have c3b0 : (t104.toList == ([68, 69, 76, 69, 84, 69] : List UInt8)) = true := beq_iff_eq.mpr c3
  have c3b1 : (t104.toList != ([68, 69, 76, 69, 84, 69] : List UInt8)) = false := bne_eq_false_iff_eq.mpr c3
  clear c3
  obtain rfl := Option.some.inj H
  go_enter Tryd.func25, Tryd.ntmps25
  go_wp2_with (first | ((with_reducible refine gate_callee (f := 64) rfl ?_); refine goesL_ (some 5) rfl rfl Tryd.func64 (by kernel_rfl) rfl #[.string a0] rfl z2_ ?_; (with_reducible refine (ascii_Upper.calls a0 t104 _ ?gw12_ A2.out).mono ?_); (case gw12_ => first | exact hG_ | (refine GW.below hG_ ?_; first | (with_reducible exact HB.out) | (repeat (first | (with_reducible first | exact HB.out | apply below_alloc | apply pw_below_drewN | apply below_drew1 | apply below_drew | exact Below.refl _ _) | exact HB.out))) | (apply GW.drewN; exact hG_) | (apply GW.drew; exact hG_)); rintro e w4 ⟨rfl, hb⟩; refine ⟨_, rfl, ?_⟩; have n0_ := Aside0.mk (below_step z3_ hb); clear HB; have HB := n0_; clear n0_; (try clear hb); (try clear hb2); (try clear hk); (try clear hi)))
  go_ret
  exact ⟨z4_, z3_⟩
 ·rw [if_neg c3] at H
  have c3b0 : (t104.toList == ([68, 69, 76, 69, 84, 69] : List UInt8)) = false := beq_eq_false_iff_ne.mpr c3
  have c3b1 : (t104.toList != ([68, 69, 76, 69, 84, 69] : List UInt8)) = true := bne_iff_ne.mpr c3
  by_cases c5 : t104.toList = ([71, 69, 84] : List UInt8)
  ·rw [if_pos c5] at H
   have c5b0 : (t104.toList == ([71, 69, 84] : List UInt8)) = true := beq_iff_eq.mpr c5
   have c5b1 : (t104.toList != ([71, 69, 84] : List UInt8)) = false := bne_eq_false_iff_eq.mpr c5
   clear c5
   obtain rfl := Option.some.inj H
   go_enter Tryd.func25, Tryd.ntmps25
   go_wp2_with (first | ((with_reducible refine gate_callee (f := 64) rfl ?_); refine goesL_ (some 5) rfl rfl Tryd.func64 (by kernel_rfl) rfl #[.string a0] rfl z2_ ?_; (with_reducible refine (ascii_Upper.calls a0 t104 _ ?gw13_ A2.out).mono ?_); (case gw13_ => first | exact hG_ | (refine GW.below hG_ ?_; first | (with_reducible exact HB.out) | (repeat (first | (with_reducible first | exact HB.out | apply below_alloc | apply pw_below_drewN | apply below_drew1 | apply below_drew | exact Below.refl _ _) | exact HB.out))) | (apply GW.drewN; exact hG_) | (apply GW.drew; exact hG_)); rintro e w6 ⟨rfl, hb⟩; refine ⟨_, rfl, ?_⟩; have n0_ := Aside0.mk (below_step z3_ hb); clear HB; have HB := n0_; clear n0_; (try clear hb); (try clear hb2); (try clear hk); (try clear hi)))
   go_ret
   exact ⟨z4_, z3_⟩
  ·rw [if_neg c5] at H
   have c5b0 : (t104.toList == ([71, 69, 84] : List UInt8)) = false := beq_eq_false_iff_ne.mpr c5
   have c5b1 : (t104.toList != ([71, 69, 84] : List UInt8)) = true := bne_iff_ne.mpr c5
   by_cases c7 : t104.toList = ([72, 69, 65, 68] : List UInt8)
   ·rw [if_pos c7] at H
    have c7b0 : (t104.toList == ([72, 69, 65, 68] : List UInt8)) = true := beq_iff_eq.mpr c7
    have c7b1 : (t104.toList != ([72, 69, 65, 68] : List UInt8)) = false := bne_eq_false_iff_eq.mpr c7
    clear c7
    obtain rfl := Option.some.inj H
    go_enter Tryd.func25, Tryd.ntmps25
    go_wp2_with (first | ((with_reducible refine gate_callee (f := 64) rfl ?_); refine goesL_ (some 5) rfl rfl Tryd.func64 (by kernel_rfl) rfl #[.string a0] rfl z2_ ?_; (with_reducible refine (ascii_Upper.calls a0 t104 _ ?gw14_ A2.out).mono ?_); (case gw14_ => first | exact hG_ | (refine GW.below hG_ ?_; first | (with_reducible exact HB.out) | (repeat (first | (with_reducible first | exact HB.out | apply below_alloc | apply pw_below_drewN | apply below_drew1 | apply below_drew | exact Below.refl _ _) | exact HB.out))) | (apply GW.drewN; exact hG_) | (apply GW.drew; exact hG_)); rintro e w8 ⟨rfl, hb⟩; refine ⟨_, rfl, ?_⟩; have n0_ := Aside0.mk (below_step z3_ hb); clear HB; have HB := n0_; clear n0_; (try clear hb); (try clear hb2); (try clear hk); (try clear hi)))
    go_ret
    exact ⟨z4_, z3_⟩
   ·rw [if_neg c7] at H
    have c7b0 : (t104.toList == ([72, 69, 65, 68] : List UInt8)) = false := beq_eq_false_iff_ne.mpr c7
    have c7b1 : (t104.toList != ([72, 69, 65, 68] : List UInt8)) = true := bne_iff_ne.mpr c7
    by_cases c9 : t104.toList = ([79, 80, 84, 73, 79, 78, 83] : List UInt8)
    ·rw [if_pos c9] at H
     have c9b0 : (t104.toList == ([79, 80, 84, 73, 79, 78, 83] : List UInt8)) = true := beq_iff_eq.mpr c9
     have c9b1 : (t104.toList != ([79, 80, 84, 73, 79, 78, 83] : List UInt8)) = false := bne_eq_false_iff_eq.mpr c9
     clear c9
     obtain rfl := Option.some.inj H
     go_enter Tryd.func25, Tryd.ntmps25
     go_wp2_with (first | ((with_reducible refine gate_callee (f := 64) rfl ?_); refine goesL_ (some 5) rfl rfl Tryd.func64 (by kernel_rfl) rfl #[.string a0] rfl z2_ ?_; (with_reducible refine (ascii_Upper.calls a0 t104 _ ?gw15_ A2.out).mono ?_); (case gw15_ => first | exact hG_ | (refine GW.below hG_ ?_; first | (with_reducible exact HB.out) | (repeat (first | (with_reducible first | exact HB.out | apply below_alloc | apply pw_below_drewN | apply below_drew1 | apply below_drew | exact Below.refl _ _) | exact HB.out))) | (apply GW.drewN; exact hG_) | (apply GW.drew; exact hG_)); rintro e w10 ⟨rfl, hb⟩; refine ⟨_, rfl, ?_⟩; have n0_ := Aside0.mk (below_step z3_ hb); clear HB; have HB := n0_; clear n0_; (try clear hb); (try clear hb2); (try clear hk); (try clear hi)))
     go_ret
     exact ⟨z4_, z3_⟩
    ·rw [if_neg c9] at H
     have c9b0 : (t104.toList == ([79, 80, 84, 73, 79, 78, 83] : List UInt8)) = false := beq_eq_false_iff_ne.mpr c9
     have c9b1 : (t104.toList != ([79, 80, 84, 73, 79, 78, 83] : List UInt8)) = true := bne_iff_ne.mpr c9
     by_cases c11 : t104.toList = ([80, 79, 83, 84] : List UInt8)
     ·rw [if_pos c11] at H
      have c11b0 : (t104.toList == ([80, 79, 83, 84] : List UInt8)) = true := beq_iff_eq.mpr c11
      have c11b1 : (t104.toList != ([80, 79, 83, 84] : List UInt8)) = false := bne_eq_false_iff_eq.mpr c11
      clear c11
      obtain rfl := Option.some.inj H
      go_enter Tryd.func25, Tryd.ntmps25
      go_wp2_with (first | ((with_reducible refine gate_callee (f := 64) rfl ?_); refine goesL_ (some 5) rfl rfl Tryd.func64 (by kernel_rfl) rfl #[.string a0] rfl z2_ ?_; (with_reducible refine (ascii_Upper.calls a0 t104 _ ?gw16_ A2.out).mono ?_); (case gw16_ => first | exact hG_ | (refine GW.below hG_ ?_; first | (with_reducible exact HB.out) | (repeat (first | (with_reducible first | exact HB.out | apply below_alloc | apply pw_below_drewN | apply below_drew1 | apply below_drew | exact Below.refl _ _) | exact HB.out))) | (apply GW.drewN; exact hG_) | (apply GW.drew; exact hG_)); rintro e w12 ⟨rfl, hb⟩; refine ⟨_, rfl, ?_⟩; have n0_ := Aside0.mk (below_step z3_ hb); clear HB; have HB := n0_; clear n0_; (try clear hb); (try clear hb2); (try clear hk); (try clear hi)))
      go_ret
      exact ⟨z4_, z3_⟩
     ·rw [if_neg c11] at H
      have c11b0 : (t104.toList == ([80, 79, 83, 84] : List UInt8)) = false := beq_eq_false_iff_ne.mpr c11
      have c11b1 : (t104.toList != ([80, 79, 83, 84] : List UInt8)) = true := bne_iff_ne.mpr c11
      by_cases c13 : t104.toList = ([80, 85, 84] : List UInt8)
      ·rw [if_pos c13] at H
       have c13b0 : (t104.toList == ([80, 85, 84] : List UInt8)) = true := beq_iff_eq.mpr c13
       have c13b1 : (t104.toList != ([80, 85, 84] : List UInt8)) = false := bne_eq_false_iff_eq.mpr c13
       clear c13
       obtain rfl := Option.some.inj H
       go_enter Tryd.func25, Tryd.ntmps25
       go_wp2_with (first | ((with_reducible refine gate_callee (f := 64) rfl ?_); refine goesL_ (some 5) rfl rfl Tryd.func64 (by kernel_rfl) rfl #[.string a0] rfl z2_ ?_; (with_reducible refine (ascii_Upper.calls a0 t104 _ ?gw17_ A2.out).mono ?_); (case gw17_ => first | exact hG_ | (refine GW.below hG_ ?_; first | (with_reducible exact HB.out) | (repeat (first | (with_reducible first | exact HB.out | apply below_alloc | apply pw_below_drewN | apply below_drew1 | apply below_drew | exact Below.refl _ _) | exact HB.out))) | (apply GW.drewN; exact hG_) | (apply GW.drew; exact hG_)); rintro e w14 ⟨rfl, hb⟩; refine ⟨_, rfl, ?_⟩; have n0_ := Aside0.mk (below_step z3_ hb); clear HB; have HB := n0_; clear n0_; (try clear hb); (try clear hb2); (try clear hk); (try clear hi)))
       go_ret
       exact ⟨z4_, z3_⟩
      ·rw [if_neg c13] at H
       have c13b0 : (t104.toList == ([80, 85, 84] : List UInt8)) = false := beq_eq_false_iff_ne.mpr c13
       have c13b1 : (t104.toList != ([80, 85, 84] : List UInt8)) = true := bne_iff_ne.mpr c13
       obtain rfl := Option.some.inj H
       go_enter Tryd.func25, Tryd.ntmps25
       go_wp2_with (first | ((with_reducible refine gate_callee (f := 64) rfl ?_); refine goesL_ (some 5) rfl rfl Tryd.func64 (by kernel_rfl) rfl #[.string a0] rfl z2_ ?_; (with_reducible refine (ascii_Upper.calls a0 t104 _ ?gw18_ A2.out).mono ?_); (case gw18_ => first | exact hG_ | (refine GW.below hG_ ?_; first | (with_reducible exact HB.out) | (repeat (first | (with_reducible first | exact HB.out | apply below_alloc | apply pw_below_drewN | apply below_drew1 | apply below_drew | exact Below.refl _ _) | exact HB.out))) | (apply GW.drewN; exact hG_) | (apply GW.drew; exact hG_)); rintro e w15 ⟨rfl, hb⟩; refine ⟨_, rfl, ?_⟩; have n0_ := Aside0.mk (below_step z3_ hb); clear HB; have HB := n0_; clear n0_; (try clear hb); (try clear hb2); (try clear hk); (try clear hi)))
       go_ret
       exact ⟨z4_, z3_⟩

/-! ### safe_Bad: function 27 -/
def safe_Bad.f (a0 : ByteArray) : Option (Bool) := (ascii_Upper.f a0).bind fun t105 => (if t105.toList = ([67, 79, 78, 78, 69, 67, 84] : List UInt8) then (some true) else (if t105.toList = ([84, 82, 65, 67, 69] : List UInt8) then (some true) else (if t105.toList = ([84, 82, 65, 67, 75] : List UInt8) then (some true) else (some false))))
set_option maxHeartbeats 8000000 in
set_option maxRecDepth 100000 in
theorem safe_Bad.calls (a0 : ByteArray) (r : Bool) (w : World) (hG_ : GW w) (h : safe_Bad.f a0 = some r) :
  Calls Tryd.prog 27 #[.string a0] w fun e w' => e = .returned (.bool r) ∧ Below w.heap.size w w' := by
 have HB := Aside0.mk (Below.refl w.heap.size w)
 have H : ((ascii_Upper.f a0).bind fun t105 => (if t105.toList = ([67, 79, 78, 78, 69, 67, 84] : List UInt8) then (some true) else (if t105.toList = ([84, 82, 65, 67, 69] : List UInt8) then (some true) else (if t105.toList = ([84, 82, 65, 67, 75] : List UInt8) then (some true) else (some false))))) = some r := h
 clear h
 replace H := Option.bind_eq_some_iff.mp H
 obtain ⟨t105, A20, H⟩ := H
 replace H : (if t105.toList = ([67, 79, 78, 78, 69, 67, 84] : List UInt8) then (some true) else (if t105.toList = ([84, 82, 65, 67, 69] : List UInt8) then (some true) else (if t105.toList = ([84, 82, 65, 67, 75] : List UInt8) then (some true) else (some false)))) = some r := H
 have A2 := Aside0.mk A20
 clear A20
 by_cases c3 : t105.toList = ([67, 79, 78, 78, 69, 67, 84] : List UInt8)
 ·rw [if_pos c3] at H
  have c3b0 : (t105.toList == ([67, 79, 78, 78, 69, 67, 84] : List UInt8)) = true := beq_iff_eq.mpr c3
  have c3b1 : (t105.toList != ([67, 79, 78, 78, 69, 67, 84] : List UInt8)) = false := bne_eq_false_iff_eq.mpr c3
  clear c3
  obtain rfl := Option.some.inj H
  go_enter Tryd.func27, Tryd.ntmps27
  go_wp2_with (first | ((with_reducible refine gate_callee (f := 64) rfl ?_); refine goesL_ (some 4) rfl rfl Tryd.func64 (by kernel_rfl) rfl #[.string a0] rfl z2_ ?_; (with_reducible refine (ascii_Upper.calls a0 t105 _ ?gw19_ A2.out).mono ?_); (case gw19_ => first | exact hG_ | (refine GW.below hG_ ?_; first | (with_reducible exact HB.out) | (repeat (first | (with_reducible first | exact HB.out | apply below_alloc | apply pw_below_drewN | apply below_drew1 | apply below_drew | exact Below.refl _ _) | exact HB.out))) | (apply GW.drewN; exact hG_) | (apply GW.drew; exact hG_)); rintro e w4 ⟨rfl, hb⟩; refine ⟨_, rfl, ?_⟩; have n0_ := Aside0.mk (below_step z3_ hb); clear HB; have HB := n0_; clear n0_; (try clear hb); (try clear hb2); (try clear hk); (try clear hi)))
  go_ret
  exact ⟨z4_, z3_⟩
 ·rw [if_neg c3] at H
  have c3b0 : (t105.toList == ([67, 79, 78, 78, 69, 67, 84] : List UInt8)) = false := beq_eq_false_iff_ne.mpr c3
  have c3b1 : (t105.toList != ([67, 79, 78, 78, 69, 67, 84] : List UInt8)) = true := bne_iff_ne.mpr c3
  by_cases c5 : t105.toList = ([84, 82, 65, 67, 69] : List UInt8)
  ·rw [if_pos c5] at H
   have c5b0 : (t105.toList == ([84, 82, 65, 67, 69] : List UInt8)) = true := beq_iff_eq.mpr c5
   have c5b1 : (t105.toList != ([84, 82, 65, 67, 69] : List UInt8)) = false := bne_eq_false_iff_eq.mpr c5
   clear c5
   obtain rfl := Option.some.inj H
   go_enter Tryd.func27, Tryd.ntmps27
   go_wp2_with (first | ((with_reducible refine gate_callee (f := 64) rfl ?_); refine goesL_ (some 4) rfl rfl Tryd.func64 (by kernel_rfl) rfl #[.string a0] rfl z2_ ?_; (with_reducible refine (ascii_Upper.calls a0 t105 _ ?gw20_ A2.out).mono ?_); (case gw20_ => first | exact hG_ | (refine GW.below hG_ ?_; first | (with_reducible exact HB.out) | (repeat (first | (with_reducible first | exact HB.out | apply below_alloc | apply pw_below_drewN | apply below_drew1 | apply below_drew | exact Below.refl _ _) | exact HB.out))) | (apply GW.drewN; exact hG_) | (apply GW.drew; exact hG_)); rintro e w6 ⟨rfl, hb⟩; refine ⟨_, rfl, ?_⟩; have n0_ := Aside0.mk (below_step z3_ hb); clear HB; have HB := n0_; clear n0_; (try clear hb); (try clear hb2); (try clear hk); (try clear hi)))
   go_ret
   exact ⟨z4_, z3_⟩
  ·rw [if_neg c5] at H
   have c5b0 : (t105.toList == ([84, 82, 65, 67, 69] : List UInt8)) = false := beq_eq_false_iff_ne.mpr c5
   have c5b1 : (t105.toList != ([84, 82, 65, 67, 69] : List UInt8)) = true := bne_iff_ne.mpr c5
   by_cases c7 : t105.toList = ([84, 82, 65, 67, 75] : List UInt8)
   ·rw [if_pos c7] at H
    have c7b0 : (t105.toList == ([84, 82, 65, 67, 75] : List UInt8)) = true := beq_iff_eq.mpr c7
    have c7b1 : (t105.toList != ([84, 82, 65, 67, 75] : List UInt8)) = false := bne_eq_false_iff_eq.mpr c7
    clear c7
    obtain rfl := Option.some.inj H
    go_enter Tryd.func27, Tryd.ntmps27
    go_wp2_with (first | ((with_reducible refine gate_callee (f := 64) rfl ?_); refine goesL_ (some 4) rfl rfl Tryd.func64 (by kernel_rfl) rfl #[.string a0] rfl z2_ ?_; (with_reducible refine (ascii_Upper.calls a0 t105 _ ?gw21_ A2.out).mono ?_); (case gw21_ => first | exact hG_ | (refine GW.below hG_ ?_; first | (with_reducible exact HB.out) | (repeat (first | (with_reducible first | exact HB.out | apply below_alloc | apply pw_below_drewN | apply below_drew1 | apply below_drew | exact Below.refl _ _) | exact HB.out))) | (apply GW.drewN; exact hG_) | (apply GW.drew; exact hG_)); rintro e w8 ⟨rfl, hb⟩; refine ⟨_, rfl, ?_⟩; have n0_ := Aside0.mk (below_step z3_ hb); clear HB; have HB := n0_; clear n0_; (try clear hb); (try clear hb2); (try clear hk); (try clear hi)))
    go_ret
    exact ⟨z4_, z3_⟩
   ·rw [if_neg c7] at H
    have c7b0 : (t105.toList == ([84, 82, 65, 67, 75] : List UInt8)) = false := beq_eq_false_iff_ne.mpr c7
    have c7b1 : (t105.toList != ([84, 82, 65, 67, 75] : List UInt8)) = true := bne_iff_ne.mpr c7
    obtain rfl := Option.some.inj H
    go_enter Tryd.func27, Tryd.ntmps27
    go_wp2_with (first | ((with_reducible refine gate_callee (f := 64) rfl ?_); refine goesL_ (some 4) rfl rfl Tryd.func64 (by kernel_rfl) rfl #[.string a0] rfl z2_ ?_; (with_reducible refine (ascii_Upper.calls a0 t105 _ ?gw22_ A2.out).mono ?_); (case gw22_ => first | exact hG_ | (refine GW.below hG_ ?_; first | (with_reducible exact HB.out) | (repeat (first | (with_reducible first | exact HB.out | apply below_alloc | apply pw_below_drewN | apply below_drew1 | apply below_drew | exact Below.refl _ _) | exact HB.out))) | (apply GW.drewN; exact hG_) | (apply GW.drew; exact hG_)); rintro e w9 ⟨rfl, hb⟩; refine ⟨_, rfl, ?_⟩; have n0_ := Aside0.mk (below_step z3_ hb); clear HB; have HB := n0_; clear n0_; (try clear hb); (try clear hb2); (try clear hk); (try clear hi)))
    go_ret
    exact ⟨z4_, z3_⟩

/-! ### safe_Simple: function 29 -/
def safe_Simple.f (a0 : ByteArray) : Option (Bool) := if a0.toList = ([71, 69, 84] : List UInt8) then (some true) else (if a0.toList = ([72, 69, 65, 68] : List UInt8) then (some true) else (some (a0.toList == ([80, 79, 83, 84] : List UInt8))))
set_option maxHeartbeats 8000000 in
set_option maxRecDepth 100000 in
theorem safe_Simple.calls (a0 : ByteArray) (r : Bool) (w : World) (hG_ : GW w) (h : safe_Simple.f a0 = some r) :
  Calls Tryd.prog 29 #[.string a0] w fun e w' => e = .returned (.bool r) ∧ Drawn0 w w' := by
 have H : (if a0.toList = ([71, 69, 84] : List UInt8) then (some true) else (if a0.toList = ([72, 69, 65, 68] : List UInt8) then (some true) else (some (a0.toList == ([80, 79, 83, 84] : List UInt8))))) = some r := h
 clear h
 by_cases c2 : a0.toList = ([71, 69, 84] : List UInt8)
 ·rw [if_pos c2] at H
  have c2b0 : (a0.toList == ([71, 69, 84] : List UInt8)) = true := beq_iff_eq.mpr c2
  have c2b1 : (a0.toList != ([71, 69, 84] : List UInt8)) = false := bne_eq_false_iff_eq.mpr c2
  clear c2
  obtain rfl := Option.some.inj H
  go_enter Tryd.func29, Tryd.ntmps29
  go_wp2
  go_ret
  exact ⟨z15_, z17_⟩
 ·rw [if_neg c2] at H
  have c2b0 : (a0.toList == ([71, 69, 84] : List UInt8)) = false := beq_eq_false_iff_ne.mpr c2
  have c2b1 : (a0.toList != ([71, 69, 84] : List UInt8)) = true := bne_iff_ne.mpr c2
  by_cases c3 : a0.toList = ([72, 69, 65, 68] : List UInt8)
  ·rw [if_pos c3] at H
   have c3b0 : (a0.toList == ([72, 69, 65, 68] : List UInt8)) = true := beq_iff_eq.mpr c3
   have c3b1 : (a0.toList != ([72, 69, 65, 68] : List UInt8)) = false := bne_eq_false_iff_eq.mpr c3
   clear c3
   obtain rfl := Option.some.inj H
   go_enter Tryd.func29, Tryd.ntmps29
   go_wp2
   go_ret
   exact ⟨z15_, z17_⟩
  ·rw [if_neg c3] at H
   have c3b0 : (a0.toList == ([72, 69, 65, 68] : List UInt8)) = false := beq_eq_false_iff_ne.mpr c3
   have c3b1 : (a0.toList != ([72, 69, 65, 68] : List UInt8)) = true := bne_iff_ne.mpr c3
   obtain rfl := Option.some.inj H
   go_enter Tryd.func29, Tryd.ntmps29
   go_wp2
   go_ret
   exact ⟨z15_, z17_⟩

/-! ### safe_language: function 68 -/
def safe_language.l0 : Nat → ByteArray → Int → Int → Option (Bool)
 | 0, _, _, _ => none
 | k + 1, x0, x6, x7 => if x7 < x6 then (if 0 ≤ x7 then (if x7 < (x0.size : Int) then (if (bt x0 x7) < 48 then (if (Go.bits .or .u8 (bt x0 x7) 32) < 97 then ((strings_IndexByte.f (⟨#[32, 42, 44, 45, 46, 59, 61]⟩ : ByteArray) (bt x0 x7)).bind fun t106 => (if t106 < 0 then (some false) else (safe_language.l0 k x0 x6 (wrap64 (x7 + 1))))) else (if (Go.bits .or .u8 (bt x0 x7) 32) > 122 then ((strings_IndexByte.f (⟨#[32, 42, 44, 45, 46, 59, 61]⟩ : ByteArray) (bt x0 x7)).bind fun t107 => (if t107 < 0 then (some false) else (safe_language.l0 k x0 x6 (wrap64 (x7 + 1))))) else (safe_language.l0 k x0 x6 (wrap64 (x7 + 1))))) else (if (bt x0 x7) > 57 then (if (Go.bits .or .u8 (bt x0 x7) 32) < 97 then ((strings_IndexByte.f (⟨#[32, 42, 44, 45, 46, 59, 61]⟩ : ByteArray) (bt x0 x7)).bind fun t108 => (if t108 < 0 then (some false) else (safe_language.l0 k x0 x6 (wrap64 (x7 + 1))))) else (if (Go.bits .or .u8 (bt x0 x7) 32) > 122 then ((strings_IndexByte.f (⟨#[32, 42, 44, 45, 46, 59, 61]⟩ : ByteArray) (bt x0 x7)).bind fun t109 => (if t109 < 0 then (some false) else (safe_language.l0 k x0 x6 (wrap64 (x7 + 1))))) else (safe_language.l0 k x0 x6 (wrap64 (x7 + 1))))) else (safe_language.l0 k x0 x6 (wrap64 (x7 + 1))))) else (none)) else (none)) else (some true)
def safe_language.f (k : Nat) (a0 : ByteArray) : Option (Bool) := safe_language.l0 k a0 (a0.size : Int) 0
set_option maxHeartbeats 8000000 in
set_option maxRecDepth 100000 in
theorem safe_language.calls (k : Nat) (a0 : ByteArray) (r : Bool) (w : World) (hG_ : GW w) (h : safe_language.f k a0 = some r) :
  Calls Tryd.prog 68 #[.string a0] w fun e w' => e = .returned (.bool r) ∧ Drawn0 w w' := by
 have H : (safe_language.l0 k a0 (a0.size : Int) 0) = some r := h
 clear h
 have H' := Aside0.mk H
 clear H
 go_enter Tryd.func68, Tryd.ntmps68
 go_wp2
 go_loopg [7] k (fun kq v7 w' => ∃ (x7_1 : Int), v7 = .int .i64 x7_1 ∧ Aside0 (safe_language.l0 kq a0 (a0.size : Int) x7_1 = some r) ∧ Aside0 (kq ≤ k) ∧ Drawn0 w w')
 case atStart => exact ⟨(0), z15_, H', ⟨Nat.le_refl _⟩, z17_⟩
 case round =>
  clear H'
  obtain ⟨x7_1, rfl, HA, HK1, ⟨m1, rfl⟩⟩ := hrel
  cases gk with
  | zero => exact absurd HA.out (by simp [safe_language.l0])
  | succ k1 =>
   have H := HA.out
   clear HA
   simp only [safe_language.l0] at H
   by_cases c2 : x7_1 < (a0.size : Int)
   ·rw [if_pos c2] at H
    have c2b0 : decide (x7_1 < (a0.size : Int)) = true := decide_eq_true c2
    clear c2
    by_cases c3 : 0 ≤ x7_1
    ·rw [if_pos c3] at H
     have c3b0 : decide (0 ≤ x7_1) = true := decide_eq_true c3
     clear c3
     by_cases c4 : x7_1 < (a0.size : Int)
     ·rw [if_pos c4] at H
      have c4b0 : decide (x7_1 < (a0.size : Int)) = true := decide_eq_true c4
      clear c4
      by_cases c7 : (bt a0 x7_1) < 48
      ·rw [if_pos c7] at H
       have c7b0 : decide ((bt a0 x7_1) < 48) = true := decide_eq_true c7
       clear c7
       by_cases c8 : (Go.bits .or .u8 (bt a0 x7_1) 32) < 97
       ·rw [if_pos c8] at H
        have c8b0 : decide ((Go.bits .or .u8 (bt a0 x7_1) 32) < 97) = true := decide_eq_true c8
        clear c8
        replace H := Option.bind_eq_some_iff.mp H
        obtain ⟨t106, A100, H⟩ := H
        replace H : (if t106 < 0 then (some false) else (safe_language.l0 k1 a0 (a0.size : Int) (wrap64 (x7_1 + 1)))) = some r := H
        have A10 := Aside0.mk A100
        clear A100
        by_cases c11 : t106 < 0
        ·rw [if_pos c11] at H
         have c11b0 : decide (t106 < 0) = true := decide_eq_true c11
         clear c11
         obtain rfl := Option.some.inj H
         have p5 : 0 ≤ (x7_1 : Int) := of_decide_eq_true z19_
         have q5 : x7_1 < (a0.size : Int) := of_decide_eq_true z19_
         have hx5 := bt_at a0 x7_1
         replace p5 := eq_true p5
         replace q5 := eq_true q5
         have p6 : 0 ≤ (x7_1 : Int) := of_decide_eq_true z19_
         have q6 : x7_1 < (a0.size : Int) := of_decide_eq_true z19_
         have hx6 := bt_at a0 x7_1
         replace p6 := eq_true p6
         replace q6 := eq_true q6
         have p9 : 0 ≤ (x7_1 : Int) := of_decide_eq_true z19_
         have q9 : x7_1 < (a0.size : Int) := of_decide_eq_true z19_
         have hx9 := bt_at a0 x7_1
         replace p9 := eq_true p9
         replace q9 := eq_true q9
         go_wp2_with (first | (go_at_call 80; (fail_if_success (have z_ := U_5)); have U_5 := trivial; (with_reducible refine (strings_IndexByte.calls (⟨#[32, 42, 44, 45, 46, 59, 61]⟩ : ByteArray) (bt a0 x7_1) t106 _ ?gw23_ A10.out).mono ?_); (case gw23_ => first | exact hG_ | (refine GW.below hG_ ?_; first | (with_reducible exact HB.out) | (repeat (first | (with_reducible first | exact HB.out | apply below_alloc | apply pw_below_drewN | apply below_drew1 | apply below_drew | exact Below.refl _ _) | exact HB.out))) | (apply GW.drewN; exact hG_) | (apply GW.drew; exact hG_)); rintro e w' ⟨rfl, ⟨nd, rfl⟩⟩))
         go_ret
         exact ⟨z15_, z17_⟩
        ·rw [if_neg c11] at H
         have c11b0 : decide (t106 < 0) = false := decide_eq_false c11
         clear c11
         have H' := Aside0.mk H
         clear H
         have p5 : 0 ≤ (x7_1 : Int) := of_decide_eq_true z19_
         have q5 : x7_1 < (a0.size : Int) := of_decide_eq_true z19_
         have hx5 := bt_at a0 x7_1
         replace p5 := eq_true p5
         replace q5 := eq_true q5
         have p6 : 0 ≤ (x7_1 : Int) := of_decide_eq_true z19_
         have q6 : x7_1 < (a0.size : Int) := of_decide_eq_true z19_
         have hx6 := bt_at a0 x7_1
         replace p6 := eq_true p6
         replace q6 := eq_true q6
         have p9 : 0 ≤ (x7_1 : Int) := of_decide_eq_true z19_
         have q9 : x7_1 < (a0.size : Int) := of_decide_eq_true z19_
         have hx9 := bt_at a0 x7_1
         replace p9 := eq_true p9
         replace q9 := eq_true q9
         go_wp2_with (first | (go_at_call 80; (fail_if_success (have z_ := U_6)); have U_6 := trivial; (with_reducible refine (strings_IndexByte.calls (⟨#[32, 42, 44, 45, 46, 59, 61]⟩ : ByteArray) (bt a0 x7_1) t106 _ ?gw24_ A10.out).mono ?_); (case gw24_ => first | exact hG_ | (refine GW.below hG_ ?_; first | (with_reducible exact HB.out) | (repeat (first | (with_reducible first | exact HB.out | apply below_alloc | apply pw_below_drewN | apply below_drew1 | apply below_drew | exact Below.refl _ _) | exact HB.out))) | (apply GW.drewN; exact hG_) | (apply GW.drew; exact hG_)); rintro e w' ⟨rfl, ⟨nd, rfl⟩⟩))
         go_roundg k1
         case measure => have := HK1.out; omega
         case rel => exact ⟨(wrap64 (x7_1 + 1)), z15_, H', ⟨z22_⟩, z17_⟩
       ·rw [if_neg c8] at H
        have c8b0 : decide ((Go.bits .or .u8 (bt a0 x7_1) 32) < 97) = false := decide_eq_false c8
        clear c8
        by_cases c12 : (Go.bits .or .u8 (bt a0 x7_1) 32) > 122
        ·rw [if_pos c12] at H
         have c12b0 : decide (122 < (Go.bits .or .u8 (bt a0 x7_1) 32)) = true := decide_eq_true c12
         clear c12
         replace H := Option.bind_eq_some_iff.mp H
         obtain ⟨t107, A140, H⟩ := H
         replace H : (if t107 < 0 then (some false) else (safe_language.l0 k1 a0 (a0.size : Int) (wrap64 (x7_1 + 1)))) = some r := H
         have A14 := Aside0.mk A140
         clear A140
         by_cases c15 : t107 < 0
         ·rw [if_pos c15] at H
          have c15b0 : decide (t107 < 0) = true := decide_eq_true c15
          clear c15
          obtain rfl := Option.some.inj H
          have p5 : 0 ≤ (x7_1 : Int) := of_decide_eq_true z19_
          have q5 : x7_1 < (a0.size : Int) := of_decide_eq_true z19_
          have hx5 := bt_at a0 x7_1
          replace p5 := eq_true p5
          replace q5 := eq_true q5
          have p6 : 0 ≤ (x7_1 : Int) := of_decide_eq_true z19_
          have q6 : x7_1 < (a0.size : Int) := of_decide_eq_true z19_
          have hx6 := bt_at a0 x7_1
          replace p6 := eq_true p6
          replace q6 := eq_true q6
          have p13 : 0 ≤ (x7_1 : Int) := of_decide_eq_true z19_
          have q13 : x7_1 < (a0.size : Int) := of_decide_eq_true z19_
          have hx13 := bt_at a0 x7_1
          replace p13 := eq_true p13
          replace q13 := eq_true q13
          go_wp2_with (first | (go_at_call 80; (fail_if_success (have z_ := U_7)); have U_7 := trivial; (with_reducible refine (strings_IndexByte.calls (⟨#[32, 42, 44, 45, 46, 59, 61]⟩ : ByteArray) (bt a0 x7_1) t107 _ ?gw25_ A14.out).mono ?_); (case gw25_ => first | exact hG_ | (refine GW.below hG_ ?_; first | (with_reducible exact HB.out) | (repeat (first | (with_reducible first | exact HB.out | apply below_alloc | apply pw_below_drewN | apply below_drew1 | apply below_drew | exact Below.refl _ _) | exact HB.out))) | (apply GW.drewN; exact hG_) | (apply GW.drew; exact hG_)); rintro e w' ⟨rfl, ⟨nd, rfl⟩⟩))
          go_ret
          exact ⟨z15_, z17_⟩
         ·rw [if_neg c15] at H
          have c15b0 : decide (t107 < 0) = false := decide_eq_false c15
          clear c15
          have H' := Aside0.mk H
          clear H
          have p5 : 0 ≤ (x7_1 : Int) := of_decide_eq_true z19_
          have q5 : x7_1 < (a0.size : Int) := of_decide_eq_true z19_
          have hx5 := bt_at a0 x7_1
          replace p5 := eq_true p5
          replace q5 := eq_true q5
          have p6 : 0 ≤ (x7_1 : Int) := of_decide_eq_true z19_
          have q6 : x7_1 < (a0.size : Int) := of_decide_eq_true z19_
          have hx6 := bt_at a0 x7_1
          replace p6 := eq_true p6
          replace q6 := eq_true q6
          have p13 : 0 ≤ (x7_1 : Int) := of_decide_eq_true z19_
          have q13 : x7_1 < (a0.size : Int) := of_decide_eq_true z19_
          have hx13 := bt_at a0 x7_1
          replace p13 := eq_true p13
          replace q13 := eq_true q13
          go_wp2_with (first | (go_at_call 80; (fail_if_success (have z_ := U_8)); have U_8 := trivial; (with_reducible refine (strings_IndexByte.calls (⟨#[32, 42, 44, 45, 46, 59, 61]⟩ : ByteArray) (bt a0 x7_1) t107 _ ?gw26_ A14.out).mono ?_); (case gw26_ => first | exact hG_ | (refine GW.below hG_ ?_; first | (with_reducible exact HB.out) | (repeat (first | (with_reducible first | exact HB.out | apply below_alloc | apply pw_below_drewN | apply below_drew1 | apply below_drew | exact Below.refl _ _) | exact HB.out))) | (apply GW.drewN; exact hG_) | (apply GW.drew; exact hG_)); rintro e w' ⟨rfl, ⟨nd, rfl⟩⟩))
          go_roundg k1
          case measure => have := HK1.out; omega
          case rel => exact ⟨(wrap64 (x7_1 + 1)), z15_, H', ⟨z22_⟩, z17_⟩
        ·rw [if_neg c12] at H
         have c12b0 : decide (122 < (Go.bits .or .u8 (bt a0 x7_1) 32)) = false := decide_eq_false c12
         clear c12
         have H' := Aside0.mk H
         clear H
         have p5 : 0 ≤ (x7_1 : Int) := of_decide_eq_true z19_
         have q5 : x7_1 < (a0.size : Int) := of_decide_eq_true z19_
         have hx5 := bt_at a0 x7_1
         replace p5 := eq_true p5
         replace q5 := eq_true q5
         have p6 : 0 ≤ (x7_1 : Int) := of_decide_eq_true z19_
         have q6 : x7_1 < (a0.size : Int) := of_decide_eq_true z19_
         have hx6 := bt_at a0 x7_1
         replace p6 := eq_true p6
         replace q6 := eq_true q6
         go_wp2
         go_roundg k1
         case measure => have := HK1.out; omega
         case rel => exact ⟨(wrap64 (x7_1 + 1)), z15_, H', ⟨z22_⟩, z17_⟩
      ·rw [if_neg c7] at H
       have c7b0 : decide ((bt a0 x7_1) < 48) = false := decide_eq_false c7
       clear c7
       by_cases c17 : (bt a0 x7_1) > 57
       ·rw [if_pos c17] at H
        have c17b0 : decide (57 < (bt a0 x7_1)) = true := decide_eq_true c17
        clear c17
        by_cases c18 : (Go.bits .or .u8 (bt a0 x7_1) 32) < 97
        ·rw [if_pos c18] at H
         have c18b0 : decide ((Go.bits .or .u8 (bt a0 x7_1) 32) < 97) = true := decide_eq_true c18
         clear c18
         replace H := Option.bind_eq_some_iff.mp H
         obtain ⟨t108, A200, H⟩ := H
         replace H : (if t108 < 0 then (some false) else (safe_language.l0 k1 a0 (a0.size : Int) (wrap64 (x7_1 + 1)))) = some r := H
         have A20 := Aside0.mk A200
         clear A200
         by_cases c21 : t108 < 0
         ·rw [if_pos c21] at H
          have c21b0 : decide (t108 < 0) = true := decide_eq_true c21
          clear c21
          obtain rfl := Option.some.inj H
          have p5 : 0 ≤ (x7_1 : Int) := of_decide_eq_true z19_
          have q5 : x7_1 < (a0.size : Int) := of_decide_eq_true z19_
          have hx5 := bt_at a0 x7_1
          replace p5 := eq_true p5
          replace q5 := eq_true q5
          have p6 : 0 ≤ (x7_1 : Int) := of_decide_eq_true z19_
          have q6 : x7_1 < (a0.size : Int) := of_decide_eq_true z19_
          have hx6 := bt_at a0 x7_1
          replace p6 := eq_true p6
          replace q6 := eq_true q6
          have p16 : 0 ≤ (x7_1 : Int) := of_decide_eq_true z19_
          have q16 : x7_1 < (a0.size : Int) := of_decide_eq_true z19_
          have hx16 := bt_at a0 x7_1
          replace p16 := eq_true p16
          replace q16 := eq_true q16
          have p19 : 0 ≤ (x7_1 : Int) := of_decide_eq_true z19_
          have q19 : x7_1 < (a0.size : Int) := of_decide_eq_true z19_
          have hx19 := bt_at a0 x7_1
          replace p19 := eq_true p19
          replace q19 := eq_true q19
          go_wp2_with (first | (go_at_call 80; (fail_if_success (have z_ := U_9)); have U_9 := trivial; (with_reducible refine (strings_IndexByte.calls (⟨#[32, 42, 44, 45, 46, 59, 61]⟩ : ByteArray) (bt a0 x7_1) t108 _ ?gw27_ A20.out).mono ?_); (case gw27_ => first | exact hG_ | (refine GW.below hG_ ?_; first | (with_reducible exact HB.out) | (repeat (first | (with_reducible first | exact HB.out | apply below_alloc | apply pw_below_drewN | apply below_drew1 | apply below_drew | exact Below.refl _ _) | exact HB.out))) | (apply GW.drewN; exact hG_) | (apply GW.drew; exact hG_)); rintro e w' ⟨rfl, ⟨nd, rfl⟩⟩))
          go_ret
          exact ⟨z15_, z17_⟩
         ·rw [if_neg c21] at H
          have c21b0 : decide (t108 < 0) = false := decide_eq_false c21
          clear c21
          have H' := Aside0.mk H
          clear H
          have p5 : 0 ≤ (x7_1 : Int) := of_decide_eq_true z19_
          have q5 : x7_1 < (a0.size : Int) := of_decide_eq_true z19_
          have hx5 := bt_at a0 x7_1
          replace p5 := eq_true p5
          replace q5 := eq_true q5
          have p6 : 0 ≤ (x7_1 : Int) := of_decide_eq_true z19_
          have q6 : x7_1 < (a0.size : Int) := of_decide_eq_true z19_
          have hx6 := bt_at a0 x7_1
          replace p6 := eq_true p6
          replace q6 := eq_true q6
          have p16 : 0 ≤ (x7_1 : Int) := of_decide_eq_true z19_
          have q16 : x7_1 < (a0.size : Int) := of_decide_eq_true z19_
          have hx16 := bt_at a0 x7_1
          replace p16 := eq_true p16
          replace q16 := eq_true q16
          have p19 : 0 ≤ (x7_1 : Int) := of_decide_eq_true z19_
          have q19 : x7_1 < (a0.size : Int) := of_decide_eq_true z19_
          have hx19 := bt_at a0 x7_1
          replace p19 := eq_true p19
          replace q19 := eq_true q19
          go_wp2_with (first | (go_at_call 80; (fail_if_success (have z_ := U_10)); have U_10 := trivial; (with_reducible refine (strings_IndexByte.calls (⟨#[32, 42, 44, 45, 46, 59, 61]⟩ : ByteArray) (bt a0 x7_1) t108 _ ?gw28_ A20.out).mono ?_); (case gw28_ => first | exact hG_ | (refine GW.below hG_ ?_; first | (with_reducible exact HB.out) | (repeat (first | (with_reducible first | exact HB.out | apply below_alloc | apply pw_below_drewN | apply below_drew1 | apply below_drew | exact Below.refl _ _) | exact HB.out))) | (apply GW.drewN; exact hG_) | (apply GW.drew; exact hG_)); rintro e w' ⟨rfl, ⟨nd, rfl⟩⟩))
          go_roundg k1
          case measure => have := HK1.out; omega
          case rel => exact ⟨(wrap64 (x7_1 + 1)), z15_, H', ⟨z22_⟩, z17_⟩
        ·rw [if_neg c18] at H
         have c18b0 : decide ((Go.bits .or .u8 (bt a0 x7_1) 32) < 97) = false := decide_eq_false c18
         clear c18
         by_cases c22 : (Go.bits .or .u8 (bt a0 x7_1) 32) > 122
         ·rw [if_pos c22] at H
          have c22b0 : decide (122 < (Go.bits .or .u8 (bt a0 x7_1) 32)) = true := decide_eq_true c22
          clear c22
          replace H := Option.bind_eq_some_iff.mp H
          obtain ⟨t109, A240, H⟩ := H
          replace H : (if t109 < 0 then (some false) else (safe_language.l0 k1 a0 (a0.size : Int) (wrap64 (x7_1 + 1)))) = some r := H
          have A24 := Aside0.mk A240
          clear A240
          by_cases c25 : t109 < 0
          ·rw [if_pos c25] at H
           have c25b0 : decide (t109 < 0) = true := decide_eq_true c25
           clear c25
           obtain rfl := Option.some.inj H
           have p5 : 0 ≤ (x7_1 : Int) := of_decide_eq_true z19_
           have q5 : x7_1 < (a0.size : Int) := of_decide_eq_true z19_
           have hx5 := bt_at a0 x7_1
           replace p5 := eq_true p5
           replace q5 := eq_true q5
           have p6 : 0 ≤ (x7_1 : Int) := of_decide_eq_true z19_
           have q6 : x7_1 < (a0.size : Int) := of_decide_eq_true z19_
           have hx6 := bt_at a0 x7_1
           replace p6 := eq_true p6
           replace q6 := eq_true q6
           have p16 : 0 ≤ (x7_1 : Int) := of_decide_eq_true z19_
           have q16 : x7_1 < (a0.size : Int) := of_decide_eq_true z19_
           have hx16 := bt_at a0 x7_1
           replace p16 := eq_true p16
           replace q16 := eq_true q16
           have p23 : 0 ≤ (x7_1 : Int) := of_decide_eq_true z19_
           have q23 : x7_1 < (a0.size : Int) := of_decide_eq_true z19_
           have hx23 := bt_at a0 x7_1
           replace p23 := eq_true p23
           replace q23 := eq_true q23
           go_wp2_with (first | (go_at_call 80; (fail_if_success (have z_ := U_11)); have U_11 := trivial; (with_reducible refine (strings_IndexByte.calls (⟨#[32, 42, 44, 45, 46, 59, 61]⟩ : ByteArray) (bt a0 x7_1) t109 _ ?gw29_ A24.out).mono ?_); (case gw29_ => first | exact hG_ | (refine GW.below hG_ ?_; first | (with_reducible exact HB.out) | (repeat (first | (with_reducible first | exact HB.out | apply below_alloc | apply pw_below_drewN | apply below_drew1 | apply below_drew | exact Below.refl _ _) | exact HB.out))) | (apply GW.drewN; exact hG_) | (apply GW.drew; exact hG_)); rintro e w' ⟨rfl, ⟨nd, rfl⟩⟩))
           go_ret
           exact ⟨z15_, z17_⟩
          ·rw [if_neg c25] at H
           have c25b0 : decide (t109 < 0) = false := decide_eq_false c25
           clear c25
           have H' := Aside0.mk H
           clear H
           have p5 : 0 ≤ (x7_1 : Int) := of_decide_eq_true z19_
           have q5 : x7_1 < (a0.size : Int) := of_decide_eq_true z19_
           have hx5 := bt_at a0 x7_1
           replace p5 := eq_true p5
           replace q5 := eq_true q5
           have p6 : 0 ≤ (x7_1 : Int) := of_decide_eq_true z19_
           have q6 : x7_1 < (a0.size : Int) := of_decide_eq_true z19_
           have hx6 := bt_at a0 x7_1
           replace p6 := eq_true p6
           replace q6 := eq_true q6
           have p16 : 0 ≤ (x7_1 : Int) := of_decide_eq_true z19_
           have q16 : x7_1 < (a0.size : Int) := of_decide_eq_true z19_
           have hx16 := bt_at a0 x7_1
           replace p16 := eq_true p16
           replace q16 := eq_true q16
           have p23 : 0 ≤ (x7_1 : Int) := of_decide_eq_true z19_
           have q23 : x7_1 < (a0.size : Int) := of_decide_eq_true z19_
           have hx23 := bt_at a0 x7_1
           replace p23 := eq_true p23
           replace q23 := eq_true q23
           go_wp2_with (first | (go_at_call 80; (fail_if_success (have z_ := U_12)); have U_12 := trivial; (with_reducible refine (strings_IndexByte.calls (⟨#[32, 42, 44, 45, 46, 59, 61]⟩ : ByteArray) (bt a0 x7_1) t109 _ ?gw30_ A24.out).mono ?_); (case gw30_ => first | exact hG_ | (refine GW.below hG_ ?_; first | (with_reducible exact HB.out) | (repeat (first | (with_reducible first | exact HB.out | apply below_alloc | apply pw_below_drewN | apply below_drew1 | apply below_drew | exact Below.refl _ _) | exact HB.out))) | (apply GW.drewN; exact hG_) | (apply GW.drew; exact hG_)); rintro e w' ⟨rfl, ⟨nd, rfl⟩⟩))
           go_roundg k1
           case measure => have := HK1.out; omega
           case rel => exact ⟨(wrap64 (x7_1 + 1)), z15_, H', ⟨z22_⟩, z17_⟩
         ·rw [if_neg c22] at H
          have c22b0 : decide (122 < (Go.bits .or .u8 (bt a0 x7_1) 32)) = false := decide_eq_false c22
          clear c22
          have H' := Aside0.mk H
          clear H
          have p5 : 0 ≤ (x7_1 : Int) := of_decide_eq_true z19_
          have q5 : x7_1 < (a0.size : Int) := of_decide_eq_true z19_
          have hx5 := bt_at a0 x7_1
          replace p5 := eq_true p5
          replace q5 := eq_true q5
          have p6 : 0 ≤ (x7_1 : Int) := of_decide_eq_true z19_
          have q6 : x7_1 < (a0.size : Int) := of_decide_eq_true z19_
          have hx6 := bt_at a0 x7_1
          replace p6 := eq_true p6
          replace q6 := eq_true q6
          have p16 : 0 ≤ (x7_1 : Int) := of_decide_eq_true z19_
          have q16 : x7_1 < (a0.size : Int) := of_decide_eq_true z19_
          have hx16 := bt_at a0 x7_1
          replace p16 := eq_true p16
          replace q16 := eq_true q16
          go_wp2
          go_roundg k1
          case measure => have := HK1.out; omega
          case rel => exact ⟨(wrap64 (x7_1 + 1)), z15_, H', ⟨z22_⟩, z17_⟩
       ·rw [if_neg c17] at H
        have c17b0 : decide (57 < (bt a0 x7_1)) = false := decide_eq_false c17
        clear c17
        have H' := Aside0.mk H
        clear H
        have p5 : 0 ≤ (x7_1 : Int) := of_decide_eq_true z19_
        have q5 : x7_1 < (a0.size : Int) := of_decide_eq_true z19_
        have hx5 := bt_at a0 x7_1
        replace p5 := eq_true p5
        replace q5 := eq_true q5
        have p6 : 0 ≤ (x7_1 : Int) := of_decide_eq_true z19_
        have q6 : x7_1 < (a0.size : Int) := of_decide_eq_true z19_
        have hx6 := bt_at a0 x7_1
        replace p6 := eq_true p6
        replace q6 := eq_true q6
        have p16 : 0 ≤ (x7_1 : Int) := of_decide_eq_true z19_
        have q16 : x7_1 < (a0.size : Int) := of_decide_eq_true z19_
        have hx16 := bt_at a0 x7_1
        replace p16 := eq_true p16
        replace q16 := eq_true q16
        go_wp2
        go_roundg k1
        case measure => have := HK1.out; omega
        case rel => exact ⟨(wrap64 (x7_1 + 1)), z15_, H', ⟨z22_⟩, z17_⟩
     ·rw [if_neg c4] at H
      exact absurd H (by simp)
    ·rw [if_neg c3] at H
     exact absurd H (by simp)
   ·rw [if_neg c2] at H
    have c2b0 : decide (x7_1 < (a0.size : Int)) = false := decide_eq_false c2
    clear c2
    obtain rfl := Option.some.inj H
    go_wp2
    go_ret
    exact ⟨z15_, z17_⟩

/-! ### ascii_Trim: function 97 -/
def ascii_Trim.f (a0 : ByteArray) : Option (ByteArray) := (strings_Trim.f a0 (⟨#[32, 9]⟩ : ByteArray)).bind fun t110 => (some t110)
set_option maxHeartbeats 8000000 in
set_option maxRecDepth 100000 in
theorem ascii_Trim.calls (a0 : ByteArray) (r : ByteArray) (w : World) (hG_ : GW w) (h : ascii_Trim.f a0 = some r) :
  Calls Tryd.prog 97 #[.string a0] w fun e w' => e = .returned (.string r) ∧ Below w.heap.size w w' := by
 have HB := Aside0.mk (Below.refl w.heap.size w)
 have H : ((strings_Trim.f a0 (⟨#[32, 9]⟩ : ByteArray)).bind fun t110 => (some t110)) = some r := h
 clear h
 replace H := Option.bind_eq_some_iff.mp H
 obtain ⟨t110, A20, H⟩ := H
 replace H : (some t110) = some r := H
 have A2 := Aside0.mk A20
 clear A20
 obtain rfl := Option.some.inj H
 go_enter Tryd.func97, Tryd.ntmps97
 go_wp2_with (first | ((with_reducible refine gate_callee (f := 115) rfl ?_); refine goesL_ (some 4) rfl rfl Tryd.func115 (by kernel_rfl) rfl #[.string a0, .string (⟨#[32, 9]⟩ : ByteArray)] rfl z2_ ?_; (with_reducible refine (strings_Trim.calls a0 (⟨#[32, 9]⟩ : ByteArray) t110 _ ?gw31_ A2.out).mono ?_); (case gw31_ => first | exact hG_ | (refine GW.below hG_ ?_; first | (with_reducible exact HB.out) | (repeat (first | (with_reducible first | exact HB.out | apply below_alloc | apply pw_below_drewN | apply below_drew1 | apply below_drew | exact Below.refl _ _) | exact HB.out))) | (apply GW.drewN; exact hG_) | (apply GW.drew; exact hG_)); rintro e w3 ⟨rfl, hb⟩; refine ⟨_, rfl, ?_⟩; have n0_ := Aside0.mk (below_step z3_ hb); clear HB; have HB := n0_; clear n0_; (try clear hb); (try clear hb2); (try clear hk); (try clear hi)))
 go_ret
 exact ⟨z4_, z3_⟩

/-! ### safe_sort: function 69 -/
def safe_sort.f (a0 : ByteArray) : Option (Bool) := (strings_Cut.f a0 (⟨#[59]⟩ : ByteArray)).bind fun bt111 => ((ascii_Trim.f bt111.1).bind fun t114 => ((ascii_Lower.f t114).bind fun t115 => (if t115.toList = ([97, 112, 112, 108, 105, 99, 97, 116, 105, 111, 110, 47, 120, 45, 119, 119, 119, 45, 102, 111, 114, 109, 45, 117, 114, 108, 101, 110, 99, 111, 100, 101, 100] : List UInt8) then (some true) else (if t115.toList = ([109, 117, 108, 116, 105, 112, 97, 114, 116, 47, 102, 111, 114, 109, 45, 100, 97, 116, 97] : List UInt8) then (some true) else (if t115.toList = ([116, 101, 120, 116, 47, 112, 108, 97, 105, 110] : List UInt8) then (some true) else (some false))))))
set_option maxHeartbeats 8000000 in
set_option maxRecDepth 100000 in
theorem safe_sort.calls (a0 : ByteArray) (r : Bool) (w : World) (hG_ : GW w) (h : safe_sort.f a0 = some r) :
  Calls Tryd.prog 69 #[.string a0] w fun e w' => e = .returned (.bool r) ∧ Below w.heap.size w w' := by
 have HB := Aside0.mk (Below.refl w.heap.size w)
 have H : ((strings_Cut.f a0 (⟨#[59]⟩ : ByteArray)).bind fun bt111 => ((ascii_Trim.f bt111.1).bind fun t114 => ((ascii_Lower.f t114).bind fun t115 => (if t115.toList = ([97, 112, 112, 108, 105, 99, 97, 116, 105, 111, 110, 47, 120, 45, 119, 119, 119, 45, 102, 111, 114, 109, 45, 117, 114, 108, 101, 110, 99, 111, 100, 101, 100] : List UInt8) then (some true) else (if t115.toList = ([109, 117, 108, 116, 105, 112, 97, 114, 116, 47, 102, 111, 114, 109, 45, 100, 97, 116, 97] : List UInt8) then (some true) else (if t115.toList = ([116, 101, 120, 116, 47, 112, 108, 97, 105, 110] : List UInt8) then (some true) else (some false))))))) = some r := h
 clear h
 replace H := Option.bind_eq_some_iff.mp H
 obtain ⟨⟨t111, t112, t113⟩, A20, H⟩ := H
 replace H : ((ascii_Trim.f t111).bind fun t114 => ((ascii_Lower.f t114).bind fun t115 => (if t115.toList = ([97, 112, 112, 108, 105, 99, 97, 116, 105, 111, 110, 47, 120, 45, 119, 119, 119, 45, 102, 111, 114, 109, 45, 117, 114, 108, 101, 110, 99, 111, 100, 101, 100] : List UInt8) then (some true) else (if t115.toList = ([109, 117, 108, 116, 105, 112, 97, 114, 116, 47, 102, 111, 114, 109, 45, 100, 97, 116, 97] : List UInt8) then (some true) else (if t115.toList = ([116, 101, 120, 116, 47, 112, 108, 97, 105, 110] : List UInt8) then (some true) else (some false)))))) = some r := H
 have A2 := Aside0.mk A20
 clear A20
 replace H := Option.bind_eq_some_iff.mp H
 obtain ⟨t114, A30, H⟩ := H
 replace H : ((ascii_Lower.f t114).bind fun t115 => (if t115.toList = ([97, 112, 112, 108, 105, 99, 97, 116, 105, 111, 110, 47, 120, 45, 119, 119, 119, 45, 102, 111, 114, 109, 45, 117, 114, 108, 101, 110, 99, 111, 100, 101, 100] : List UInt8) then (some true) else (if t115.toList = ([109, 117, 108, 116, 105, 112, 97, 114, 116, 47, 102, 111, 114, 109, 45, 100, 97, 116, 97] : List UInt8) then (some true) else (if t115.toList = ([116, 101, 120, 116, 47, 112, 108, 97, 105, 110] : List UInt8) then (some true) else (some false))))) = some r := H
 have A3 := Aside0.mk A30
 clear A30
 replace H := Option.bind_eq_some_iff.mp H
 obtain ⟨t115, A40, H⟩ := H
 replace H : (if t115.toList = ([97, 112, 112, 108, 105, 99, 97, 116, 105, 111, 110, 47, 120, 45, 119, 119, 119, 45, 102, 111, 114, 109, 45, 117, 114, 108, 101, 110, 99, 111, 100, 101, 100] : List UInt8) then (some true) else (if t115.toList = ([109, 117, 108, 116, 105, 112, 97, 114, 116, 47, 102, 111, 114, 109, 45, 100, 97, 116, 97] : List UInt8) then (some true) else (if t115.toList = ([116, 101, 120, 116, 47, 112, 108, 97, 105, 110] : List UInt8) then (some true) else (some false)))) = some r := H
 have A4 := Aside0.mk A40
 clear A40
 by_cases c5 : t115.toList = ([97, 112, 112, 108, 105, 99, 97, 116, 105, 111, 110, 47, 120, 45, 119, 119, 119, 45, 102, 111, 114, 109, 45, 117, 114, 108, 101, 110, 99, 111, 100, 101, 100] : List UInt8)
 ·rw [if_pos c5] at H
  have c5b0 : (t115.toList == ([97, 112, 112, 108, 105, 99, 97, 116, 105, 111, 110, 47, 120, 45, 119, 119, 119, 45, 102, 111, 114, 109, 45, 117, 114, 108, 101, 110, 99, 111, 100, 101, 100] : List UInt8)) = true := beq_iff_eq.mpr c5
  have c5b1 : (t115.toList != ([97, 112, 112, 108, 105, 99, 97, 116, 105, 111, 110, 47, 120, 45, 119, 119, 119, 45, 102, 111, 114, 109, 45, 117, 114, 108, 101, 110, 99, 111, 100, 101, 100] : List UInt8)) = false := bne_eq_false_iff_eq.mpr c5
  clear c5
  obtain rfl := Option.some.inj H
  go_enter Tryd.func69, Tryd.ntmps69
  go_wp2_with (first | ((with_reducible refine gate_callee (f := 79) rfl ?_); refine goesL_ (some 5) rfl rfl Tryd.func79 (by kernel_rfl) rfl #[.string a0, .string (⟨#[59]⟩ : ByteArray)] rfl z2_ ?_; (with_reducible refine (strings_Cut.calls a0 (⟨#[59]⟩ : ByteArray) t111 t112 t113 _ ?gw32_ A2.out).mono ?_); (case gw32_ => first | exact hG_ | (refine GW.below hG_ ?_; first | (with_reducible exact HB.out) | (repeat (first | (with_reducible first | exact HB.out | apply below_alloc | apply pw_below_drewN | apply below_drew1 | apply below_drew | exact Below.refl _ _) | exact HB.out))) | (apply GW.drewN; exact hG_) | (apply GW.drew; exact hG_)); rintro e w' ⟨rfl, ⟨nd, rfl⟩⟩; refine ⟨_, rfl, ?_⟩) | ((with_reducible refine gate_callee (f := 97) rfl ?_); refine goesL_ (some 10) rfl rfl Tryd.func97 (by kernel_rfl) rfl #[.string t111] rfl z2_ ?_; (with_reducible refine (ascii_Trim.calls t111 t114 _ ?gw33_ A3.out).mono ?_); (case gw33_ => first | exact hG_ | (refine GW.below hG_ ?_; first | (with_reducible exact HB.out) | (repeat (first | (with_reducible first | exact HB.out | apply below_alloc | apply pw_below_drewN | apply below_drew1 | apply below_drew | exact Below.refl _ _) | exact HB.out))) | (apply GW.drewN; exact hG_) | (apply GW.drew; exact hG_)); rintro e w6 ⟨rfl, hb⟩; refine ⟨_, rfl, ?_⟩; have n0_ := Aside0.mk (below_step z3_ hb); clear HB; have HB := n0_; clear n0_; (try clear hb); (try clear hb2); (try clear hk); (try clear hi)) | ((with_reducible refine gate_callee (f := 67) rfl ?_); refine goesL_ (some 11) rfl rfl Tryd.func67 (by kernel_rfl) rfl #[.string t114] rfl z2_ ?_; (with_reducible refine (ascii_Lower.calls t114 t115 _ ?gw34_ A4.out).mono ?_); (case gw34_ => first | exact hG_ | (refine GW.below hG_ ?_; first | (with_reducible exact HB.out) | (repeat (first | (with_reducible first | exact HB.out | apply below_alloc | apply pw_below_drewN | apply below_drew1 | apply below_drew | exact Below.refl _ _) | exact HB.out))) | (apply GW.drewN; exact hG_) | (apply GW.drew; exact hG_)); rintro e w7 ⟨rfl, hb⟩; refine ⟨_, rfl, ?_⟩; have n0_ := Aside0.mk (below_step z3_ hb); clear HB; have HB := n0_; clear n0_; (try clear hb); (try clear hb2); (try clear hk); (try clear hi)))
  go_ret
  exact ⟨z4_, z3_⟩
 ·rw [if_neg c5] at H
  have c5b0 : (t115.toList == ([97, 112, 112, 108, 105, 99, 97, 116, 105, 111, 110, 47, 120, 45, 119, 119, 119, 45, 102, 111, 114, 109, 45, 117, 114, 108, 101, 110, 99, 111, 100, 101, 100] : List UInt8)) = false := beq_eq_false_iff_ne.mpr c5
  have c5b1 : (t115.toList != ([97, 112, 112, 108, 105, 99, 97, 116, 105, 111, 110, 47, 120, 45, 119, 119, 119, 45, 102, 111, 114, 109, 45, 117, 114, 108, 101, 110, 99, 111, 100, 101, 100] : List UInt8)) = true := bne_iff_ne.mpr c5
  by_cases c8 : t115.toList = ([109, 117, 108, 116, 105, 112, 97, 114, 116, 47, 102, 111, 114, 109, 45, 100, 97, 116, 97] : List UInt8)
  ·rw [if_pos c8] at H
   have c8b0 : (t115.toList == ([109, 117, 108, 116, 105, 112, 97, 114, 116, 47, 102, 111, 114, 109, 45, 100, 97, 116, 97] : List UInt8)) = true := beq_iff_eq.mpr c8
   have c8b1 : (t115.toList != ([109, 117, 108, 116, 105, 112, 97, 114, 116, 47, 102, 111, 114, 109, 45, 100, 97, 116, 97] : List UInt8)) = false := bne_eq_false_iff_eq.mpr c8
   clear c8
   obtain rfl := Option.some.inj H
   go_enter Tryd.func69, Tryd.ntmps69
   go_wp2_with (first | ((with_reducible refine gate_callee (f := 79) rfl ?_); refine goesL_ (some 5) rfl rfl Tryd.func79 (by kernel_rfl) rfl #[.string a0, .string (⟨#[59]⟩ : ByteArray)] rfl z2_ ?_; (with_reducible refine (strings_Cut.calls a0 (⟨#[59]⟩ : ByteArray) t111 t112 t113 _ ?gw35_ A2.out).mono ?_); (case gw35_ => first | exact hG_ | (refine GW.below hG_ ?_; first | (with_reducible exact HB.out) | (repeat (first | (with_reducible first | exact HB.out | apply below_alloc | apply pw_below_drewN | apply below_drew1 | apply below_drew | exact Below.refl _ _) | exact HB.out))) | (apply GW.drewN; exact hG_) | (apply GW.drew; exact hG_)); rintro e w' ⟨rfl, ⟨nd, rfl⟩⟩; refine ⟨_, rfl, ?_⟩) | ((with_reducible refine gate_callee (f := 97) rfl ?_); refine goesL_ (some 10) rfl rfl Tryd.func97 (by kernel_rfl) rfl #[.string t111] rfl z2_ ?_; (with_reducible refine (ascii_Trim.calls t111 t114 _ ?gw36_ A3.out).mono ?_); (case gw36_ => first | exact hG_ | (refine GW.below hG_ ?_; first | (with_reducible exact HB.out) | (repeat (first | (with_reducible first | exact HB.out | apply below_alloc | apply pw_below_drewN | apply below_drew1 | apply below_drew | exact Below.refl _ _) | exact HB.out))) | (apply GW.drewN; exact hG_) | (apply GW.drew; exact hG_)); rintro e w9 ⟨rfl, hb⟩; refine ⟨_, rfl, ?_⟩; have n0_ := Aside0.mk (below_step z3_ hb); clear HB; have HB := n0_; clear n0_; (try clear hb); (try clear hb2); (try clear hk); (try clear hi)) | ((with_reducible refine gate_callee (f := 67) rfl ?_); refine goesL_ (some 11) rfl rfl Tryd.func67 (by kernel_rfl) rfl #[.string t114] rfl z2_ ?_; (with_reducible refine (ascii_Lower.calls t114 t115 _ ?gw37_ A4.out).mono ?_); (case gw37_ => first | exact hG_ | (refine GW.below hG_ ?_; first | (with_reducible exact HB.out) | (repeat (first | (with_reducible first | exact HB.out | apply below_alloc | apply pw_below_drewN | apply below_drew1 | apply below_drew | exact Below.refl _ _) | exact HB.out))) | (apply GW.drewN; exact hG_) | (apply GW.drew; exact hG_)); rintro e w10 ⟨rfl, hb⟩; refine ⟨_, rfl, ?_⟩; have n0_ := Aside0.mk (below_step z3_ hb); clear HB; have HB := n0_; clear n0_; (try clear hb); (try clear hb2); (try clear hk); (try clear hi)))
   go_ret
   exact ⟨z4_, z3_⟩
  ·rw [if_neg c8] at H
   have c8b0 : (t115.toList == ([109, 117, 108, 116, 105, 112, 97, 114, 116, 47, 102, 111, 114, 109, 45, 100, 97, 116, 97] : List UInt8)) = false := beq_eq_false_iff_ne.mpr c8
   have c8b1 : (t115.toList != ([109, 117, 108, 116, 105, 112, 97, 114, 116, 47, 102, 111, 114, 109, 45, 100, 97, 116, 97] : List UInt8)) = true := bne_iff_ne.mpr c8
   by_cases c11 : t115.toList = ([116, 101, 120, 116, 47, 112, 108, 97, 105, 110] : List UInt8)
   ·rw [if_pos c11] at H
    have c11b0 : (t115.toList == ([116, 101, 120, 116, 47, 112, 108, 97, 105, 110] : List UInt8)) = true := beq_iff_eq.mpr c11
    have c11b1 : (t115.toList != ([116, 101, 120, 116, 47, 112, 108, 97, 105, 110] : List UInt8)) = false := bne_eq_false_iff_eq.mpr c11
    clear c11
    obtain rfl := Option.some.inj H
    go_enter Tryd.func69, Tryd.ntmps69
    go_wp2_with (first | ((with_reducible refine gate_callee (f := 79) rfl ?_); refine goesL_ (some 5) rfl rfl Tryd.func79 (by kernel_rfl) rfl #[.string a0, .string (⟨#[59]⟩ : ByteArray)] rfl z2_ ?_; (with_reducible refine (strings_Cut.calls a0 (⟨#[59]⟩ : ByteArray) t111 t112 t113 _ ?gw38_ A2.out).mono ?_); (case gw38_ => first | exact hG_ | (refine GW.below hG_ ?_; first | (with_reducible exact HB.out) | (repeat (first | (with_reducible first | exact HB.out | apply below_alloc | apply pw_below_drewN | apply below_drew1 | apply below_drew | exact Below.refl _ _) | exact HB.out))) | (apply GW.drewN; exact hG_) | (apply GW.drew; exact hG_)); rintro e w' ⟨rfl, ⟨nd, rfl⟩⟩; refine ⟨_, rfl, ?_⟩) | ((with_reducible refine gate_callee (f := 97) rfl ?_); refine goesL_ (some 10) rfl rfl Tryd.func97 (by kernel_rfl) rfl #[.string t111] rfl z2_ ?_; (with_reducible refine (ascii_Trim.calls t111 t114 _ ?gw39_ A3.out).mono ?_); (case gw39_ => first | exact hG_ | (refine GW.below hG_ ?_; first | (with_reducible exact HB.out) | (repeat (first | (with_reducible first | exact HB.out | apply below_alloc | apply pw_below_drewN | apply below_drew1 | apply below_drew | exact Below.refl _ _) | exact HB.out))) | (apply GW.drewN; exact hG_) | (apply GW.drew; exact hG_)); rintro e w12 ⟨rfl, hb⟩; refine ⟨_, rfl, ?_⟩; have n0_ := Aside0.mk (below_step z3_ hb); clear HB; have HB := n0_; clear n0_; (try clear hb); (try clear hb2); (try clear hk); (try clear hi)) | ((with_reducible refine gate_callee (f := 67) rfl ?_); refine goesL_ (some 11) rfl rfl Tryd.func67 (by kernel_rfl) rfl #[.string t114] rfl z2_ ?_; (with_reducible refine (ascii_Lower.calls t114 t115 _ ?gw40_ A4.out).mono ?_); (case gw40_ => first | exact hG_ | (refine GW.below hG_ ?_; first | (with_reducible exact HB.out) | (repeat (first | (with_reducible first | exact HB.out | apply below_alloc | apply pw_below_drewN | apply below_drew1 | apply below_drew | exact Below.refl _ _) | exact HB.out))) | (apply GW.drewN; exact hG_) | (apply GW.drew; exact hG_)); rintro e w13 ⟨rfl, hb⟩; refine ⟨_, rfl, ?_⟩; have n0_ := Aside0.mk (below_step z3_ hb); clear HB; have HB := n0_; clear n0_; (try clear hb); (try clear hb2); (try clear hk); (try clear hi)))
    go_ret
    exact ⟨z4_, z3_⟩
   ·rw [if_neg c11] at H
    have c11b0 : (t115.toList == ([116, 101, 120, 116, 47, 112, 108, 97, 105, 110] : List UInt8)) = false := beq_eq_false_iff_ne.mpr c11
    have c11b1 : (t115.toList != ([116, 101, 120, 116, 47, 112, 108, 97, 105, 110] : List UInt8)) = true := bne_iff_ne.mpr c11
    obtain rfl := Option.some.inj H
    go_enter Tryd.func69, Tryd.ntmps69
    go_wp2_with (first | ((with_reducible refine gate_callee (f := 79) rfl ?_); refine goesL_ (some 5) rfl rfl Tryd.func79 (by kernel_rfl) rfl #[.string a0, .string (⟨#[59]⟩ : ByteArray)] rfl z2_ ?_; (with_reducible refine (strings_Cut.calls a0 (⟨#[59]⟩ : ByteArray) t111 t112 t113 _ ?gw41_ A2.out).mono ?_); (case gw41_ => first | exact hG_ | (refine GW.below hG_ ?_; first | (with_reducible exact HB.out) | (repeat (first | (with_reducible first | exact HB.out | apply below_alloc | apply pw_below_drewN | apply below_drew1 | apply below_drew | exact Below.refl _ _) | exact HB.out))) | (apply GW.drewN; exact hG_) | (apply GW.drew; exact hG_)); rintro e w' ⟨rfl, ⟨nd, rfl⟩⟩; refine ⟨_, rfl, ?_⟩) | ((with_reducible refine gate_callee (f := 97) rfl ?_); refine goesL_ (some 10) rfl rfl Tryd.func97 (by kernel_rfl) rfl #[.string t111] rfl z2_ ?_; (with_reducible refine (ascii_Trim.calls t111 t114 _ ?gw42_ A3.out).mono ?_); (case gw42_ => first | exact hG_ | (refine GW.below hG_ ?_; first | (with_reducible exact HB.out) | (repeat (first | (with_reducible first | exact HB.out | apply below_alloc | apply pw_below_drewN | apply below_drew1 | apply below_drew | exact Below.refl _ _) | exact HB.out))) | (apply GW.drewN; exact hG_) | (apply GW.drew; exact hG_)); rintro e w14 ⟨rfl, hb⟩; refine ⟨_, rfl, ?_⟩; have n0_ := Aside0.mk (below_step z3_ hb); clear HB; have HB := n0_; clear n0_; (try clear hb); (try clear hb2); (try clear hk); (try clear hi)) | ((with_reducible refine gate_callee (f := 67) rfl ?_); refine goesL_ (some 11) rfl rfl Tryd.func67 (by kernel_rfl) rfl #[.string t114] rfl z2_ ?_; (with_reducible refine (ascii_Lower.calls t114 t115 _ ?gw43_ A4.out).mono ?_); (case gw43_ => first | exact hG_ | (refine GW.below hG_ ?_; first | (with_reducible exact HB.out) | (repeat (first | (with_reducible first | exact HB.out | apply below_alloc | apply pw_below_drewN | apply below_drew1 | apply below_drew | exact Below.refl _ _) | exact HB.out))) | (apply GW.drewN; exact hG_) | (apply GW.drew; exact hG_)); rintro e w15 ⟨rfl, hb⟩; refine ⟨_, rfl, ?_⟩; have n0_ := Aside0.mk (below_step z3_ hb); clear HB; have HB := n0_; clear n0_; (try clear hb); (try clear hb2); (try clear hk); (try clear hi)))
    go_ret
    exact ⟨z4_, z3_⟩

/-! ### safe_clean: function 70 -/
def safe_clean.l0 : Nat → ByteArray → Int → Int → Option (Bool)
 | 0, _, _, _ => none
 | k + 1, x0, x5, x6 => if x6 < x5 then (if 0 ≤ x6 then (if x6 < (x0.size : Int) then (if (bt x0 x6) < 32 then (if (bt x0 x6) = 9 then ((strings_IndexByte.f (⟨#[34, 40, 41, 58, 60, 62, 63, 64, 91, 92, 93, 123, 125, 127]⟩ : ByteArray) (bt x0 x6)).bind fun t116 => (if t116 ≥ 0 then (some false) else (safe_clean.l0 k x0 x5 (wrap64 (x6 + 1))))) else (some false)) else ((strings_IndexByte.f (⟨#[34, 40, 41, 58, 60, 62, 63, 64, 91, 92, 93, 123, 125, 127]⟩ : ByteArray) (bt x0 x6)).bind fun t117 => (if t117 ≥ 0 then (some false) else (safe_clean.l0 k x0 x5 (wrap64 (x6 + 1)))))) else (none)) else (none)) else (some true)
def safe_clean.f (k : Nat) (a0 : ByteArray) : Option (Bool) := safe_clean.l0 k a0 (a0.size : Int) 0
set_option maxHeartbeats 8000000 in
set_option maxRecDepth 100000 in
theorem safe_clean.calls (k : Nat) (a0 : ByteArray) (r : Bool) (w : World) (hG_ : GW w) (h : safe_clean.f k a0 = some r) :
  Calls Tryd.prog 70 #[.string a0] w fun e w' => e = .returned (.bool r) ∧ Drawn0 w w' := by
 have H : (safe_clean.l0 k a0 (a0.size : Int) 0) = some r := h
 clear h
 have H' := Aside0.mk H
 clear H
 go_enter Tryd.func70, Tryd.ntmps70
 go_wp2
 go_loopg [6] k (fun kq v6 w' => ∃ (x6_1 : Int), v6 = .int .i64 x6_1 ∧ Aside0 (safe_clean.l0 kq a0 (a0.size : Int) x6_1 = some r) ∧ Aside0 (kq ≤ k) ∧ Drawn0 w w')
 case atStart => exact ⟨(0), z15_, H', ⟨Nat.le_refl _⟩, z17_⟩
 case round =>
  clear H'
  obtain ⟨x6_1, rfl, HA, HK1, ⟨m1, rfl⟩⟩ := hrel
  cases gk with
  | zero => exact absurd HA.out (by simp [safe_clean.l0])
  | succ k1 =>
   have H := HA.out
   clear HA
   simp only [safe_clean.l0] at H
   by_cases c2 : x6_1 < (a0.size : Int)
   ·rw [if_pos c2] at H
    have c2b0 : decide (x6_1 < (a0.size : Int)) = true := decide_eq_true c2
    clear c2
    by_cases c3 : 0 ≤ x6_1
    ·rw [if_pos c3] at H
     have c3b0 : decide (0 ≤ x6_1) = true := decide_eq_true c3
     clear c3
     by_cases c4 : x6_1 < (a0.size : Int)
     ·rw [if_pos c4] at H
      have c4b0 : decide (x6_1 < (a0.size : Int)) = true := decide_eq_true c4
      clear c4
      by_cases c6 : (bt a0 x6_1) < 32
      ·rw [if_pos c6] at H
       have c6b0 : decide ((bt a0 x6_1) < 32) = true := decide_eq_true c6
       clear c6
       by_cases c8 : (bt a0 x6_1) = 9
       ·rw [if_pos c8] at H
        have c8b0 : ((bt a0 x6_1) == 9) = true := beq_iff_eq.mpr c8
        have c8b1 : ((bt a0 x6_1) != 9) = false := bne_eq_false_iff_eq.mpr c8
        clear c8
        replace H := Option.bind_eq_some_iff.mp H
        obtain ⟨t116, A100, H⟩ := H
        replace H : (if t116 ≥ 0 then (some false) else (safe_clean.l0 k1 a0 (a0.size : Int) (wrap64 (x6_1 + 1)))) = some r := H
        have A10 := Aside0.mk A100
        clear A100
        by_cases c11 : t116 ≥ 0
        ·rw [if_pos c11] at H
         have c11b0 : decide (0 ≤ t116) = true := decide_eq_true c11
         clear c11
         obtain rfl := Option.some.inj H
         have p5 : 0 ≤ (x6_1 : Int) := of_decide_eq_true z19_
         have q5 : x6_1 < (a0.size : Int) := of_decide_eq_true z19_
         have hx5 := bt_at a0 x6_1
         replace p5 := eq_true p5
         replace q5 := eq_true q5
         have p7 : 0 ≤ (x6_1 : Int) := of_decide_eq_true z19_
         have q7 : x6_1 < (a0.size : Int) := of_decide_eq_true z19_
         have hx7 := bt_at a0 x6_1
         replace p7 := eq_true p7
         replace q7 := eq_true q7
         have p9 : 0 ≤ (x6_1 : Int) := of_decide_eq_true z19_
         have q9 : x6_1 < (a0.size : Int) := of_decide_eq_true z19_
         have hx9 := bt_at a0 x6_1
         replace p9 := eq_true p9
         replace q9 := eq_true q9
         go_wp2_with (first | (go_at_call 80; (fail_if_success (have z_ := U_13)); have U_13 := trivial; (with_reducible refine (strings_IndexByte.calls (⟨#[34, 40, 41, 58, 60, 62, 63, 64, 91, 92, 93, 123, 125, 127]⟩ : ByteArray) (bt a0 x6_1) t116 _ ?gw44_ A10.out).mono ?_); (case gw44_ => first | exact hG_ | (refine GW.below hG_ ?_; first | (with_reducible exact HB.out) | (repeat (first | (with_reducible first | exact HB.out | apply below_alloc | apply pw_below_drewN | apply below_drew1 | apply below_drew | exact Below.refl _ _) | exact HB.out))) | (apply GW.drewN; exact hG_) | (apply GW.drew; exact hG_)); rintro e w' ⟨rfl, ⟨nd, rfl⟩⟩))
         go_ret
         exact ⟨z15_, z17_⟩
        ·rw [if_neg c11] at H
         have c11b0 : decide (0 ≤ t116) = false := decide_eq_false c11
         clear c11
         have H' := Aside0.mk H
         clear H
         have p5 : 0 ≤ (x6_1 : Int) := of_decide_eq_true z19_
         have q5 : x6_1 < (a0.size : Int) := of_decide_eq_true z19_
         have hx5 := bt_at a0 x6_1
         replace p5 := eq_true p5
         replace q5 := eq_true q5
         have p7 : 0 ≤ (x6_1 : Int) := of_decide_eq_true z19_
         have q7 : x6_1 < (a0.size : Int) := of_decide_eq_true z19_
         have hx7 := bt_at a0 x6_1
         replace p7 := eq_true p7
         replace q7 := eq_true q7
         have p9 : 0 ≤ (x6_1 : Int) := of_decide_eq_true z19_
         have q9 : x6_1 < (a0.size : Int) := of_decide_eq_true z19_
         have hx9 := bt_at a0 x6_1
         replace p9 := eq_true p9
         replace q9 := eq_true q9
         go_wp2_with (first | (go_at_call 80; (fail_if_success (have z_ := U_14)); have U_14 := trivial; (with_reducible refine (strings_IndexByte.calls (⟨#[34, 40, 41, 58, 60, 62, 63, 64, 91, 92, 93, 123, 125, 127]⟩ : ByteArray) (bt a0 x6_1) t116 _ ?gw45_ A10.out).mono ?_); (case gw45_ => first | exact hG_ | (refine GW.below hG_ ?_; first | (with_reducible exact HB.out) | (repeat (first | (with_reducible first | exact HB.out | apply below_alloc | apply pw_below_drewN | apply below_drew1 | apply below_drew | exact Below.refl _ _) | exact HB.out))) | (apply GW.drewN; exact hG_) | (apply GW.drew; exact hG_)); rintro e w' ⟨rfl, ⟨nd, rfl⟩⟩))
         go_roundg k1
         case measure => have := HK1.out; omega
         case rel => exact ⟨(wrap64 (x6_1 + 1)), z15_, H', ⟨z22_⟩, z17_⟩
       ·rw [if_neg c8] at H
        have c8b0 : ((bt a0 x6_1) == 9) = false := beq_eq_false_iff_ne.mpr c8
        have c8b1 : ((bt a0 x6_1) != 9) = true := bne_iff_ne.mpr c8
        obtain rfl := Option.some.inj H
        have p5 : 0 ≤ (x6_1 : Int) := of_decide_eq_true z19_
        have q5 : x6_1 < (a0.size : Int) := of_decide_eq_true z19_
        have hx5 := bt_at a0 x6_1
        replace p5 := eq_true p5
        replace q5 := eq_true q5
        have p7 : 0 ≤ (x6_1 : Int) := of_decide_eq_true z19_
        have q7 : x6_1 < (a0.size : Int) := of_decide_eq_true z19_
        have hx7 := bt_at a0 x6_1
        replace p7 := eq_true p7
        replace q7 := eq_true q7
        go_wp2
        go_ret
        exact ⟨z15_, z17_⟩
      ·rw [if_neg c6] at H
       have c6b0 : decide ((bt a0 x6_1) < 32) = false := decide_eq_false c6
       clear c6
       replace H := Option.bind_eq_some_iff.mp H
       obtain ⟨t117, A130, H⟩ := H
       replace H : (if t117 ≥ 0 then (some false) else (safe_clean.l0 k1 a0 (a0.size : Int) (wrap64 (x6_1 + 1)))) = some r := H
       have A13 := Aside0.mk A130
       clear A130
       by_cases c14 : t117 ≥ 0
       ·rw [if_pos c14] at H
        have c14b0 : decide (0 ≤ t117) = true := decide_eq_true c14
        clear c14
        obtain rfl := Option.some.inj H
        have p5 : 0 ≤ (x6_1 : Int) := of_decide_eq_true z19_
        have q5 : x6_1 < (a0.size : Int) := of_decide_eq_true z19_
        have hx5 := bt_at a0 x6_1
        replace p5 := eq_true p5
        replace q5 := eq_true q5
        have p12 : 0 ≤ (x6_1 : Int) := of_decide_eq_true z19_
        have q12 : x6_1 < (a0.size : Int) := of_decide_eq_true z19_
        have hx12 := bt_at a0 x6_1
        replace p12 := eq_true p12
        replace q12 := eq_true q12
        go_wp2_with (first | (go_at_call 80; (fail_if_success (have z_ := U_15)); have U_15 := trivial; (with_reducible refine (strings_IndexByte.calls (⟨#[34, 40, 41, 58, 60, 62, 63, 64, 91, 92, 93, 123, 125, 127]⟩ : ByteArray) (bt a0 x6_1) t117 _ ?gw46_ A13.out).mono ?_); (case gw46_ => first | exact hG_ | (refine GW.below hG_ ?_; first | (with_reducible exact HB.out) | (repeat (first | (with_reducible first | exact HB.out | apply below_alloc | apply pw_below_drewN | apply below_drew1 | apply below_drew | exact Below.refl _ _) | exact HB.out))) | (apply GW.drewN; exact hG_) | (apply GW.drew; exact hG_)); rintro e w' ⟨rfl, ⟨nd, rfl⟩⟩))
        go_ret
        exact ⟨z15_, z17_⟩
       ·rw [if_neg c14] at H
        have c14b0 : decide (0 ≤ t117) = false := decide_eq_false c14
        clear c14
        have H' := Aside0.mk H
        clear H
        have p5 : 0 ≤ (x6_1 : Int) := of_decide_eq_true z19_
        have q5 : x6_1 < (a0.size : Int) := of_decide_eq_true z19_
        have hx5 := bt_at a0 x6_1
        replace p5 := eq_true p5
        replace q5 := eq_true q5
        have p12 : 0 ≤ (x6_1 : Int) := of_decide_eq_true z19_
        have q12 : x6_1 < (a0.size : Int) := of_decide_eq_true z19_
        have hx12 := bt_at a0 x6_1
        replace p12 := eq_true p12
        replace q12 := eq_true q12
        go_wp2_with (first | (go_at_call 80; (fail_if_success (have z_ := U_16)); have U_16 := trivial; (with_reducible refine (strings_IndexByte.calls (⟨#[34, 40, 41, 58, 60, 62, 63, 64, 91, 92, 93, 123, 125, 127]⟩ : ByteArray) (bt a0 x6_1) t117 _ ?gw47_ A13.out).mono ?_); (case gw47_ => first | exact hG_ | (refine GW.below hG_ ?_; first | (with_reducible exact HB.out) | (repeat (first | (with_reducible first | exact HB.out | apply below_alloc | apply pw_below_drewN | apply below_drew1 | apply below_drew | exact Below.refl _ _) | exact HB.out))) | (apply GW.drewN; exact hG_) | (apply GW.drew; exact hG_)); rintro e w' ⟨rfl, ⟨nd, rfl⟩⟩))
        go_roundg k1
        case measure => have := HK1.out; omega
        case rel => exact ⟨(wrap64 (x6_1 + 1)), z15_, H', ⟨z22_⟩, z17_⟩
     ·rw [if_neg c4] at H
      exact absurd H (by simp)
    ·rw [if_neg c3] at H
     exact absurd H (by simp)
   ·rw [if_neg c2] at H
    have c2b0 : decide (x6_1 < (a0.size : Int)) = false := decide_eq_false c2
    clear c2
    obtain rfl := Option.some.inj H
    go_wp2
    go_ret
    exact ⟨z15_, z17_⟩

/-! ### safe_Header: function 31 -/
def safe_Header.j0 : Nat → ByteArray → Bool → ByteArray → ByteArray → Option (Bool)
 | 0, _, _, _, _ => none
 | k + 1, x9, x10, x119000, x119001 => if x10 = true then ((safe_language.f k x119001).bind fun t120 => (some t120)) else (if x9.toList = ([99, 111, 110, 116, 101, 110, 116, 45, 116, 121, 112, 101] : List UInt8) then ((safe_sort.f x119001).bind fun t122 => (if t122 = true then ((safe_clean.f k x119001).bind fun t123 => (some t123)) else (some false))) else (if x9.toList = ([97, 99, 99, 101, 112, 116] : List UInt8) then ((safe_clean.f k x119001).bind fun t121 => (some t121)) else (some false)))
def safe_Header.f (k : Nat) (a0_0 : ByteArray) (a0_1 : ByteArray) : Option (Bool) := if (a0_1.size : Int) > 128 then (some false) else ((ascii_Lower.f a0_0).bind fun t119 => (if t119.toList = ([97, 99, 99, 101, 112, 116, 45, 108, 97, 110, 103, 117, 97, 103, 101] : List UInt8) then (safe_Header.j0 k t119 (t119.toList == ([97, 99, 99, 101, 112, 116, 45, 108, 97, 110, 103, 117, 97, 103, 101] : List UInt8)) a0_0 a0_1) else (safe_Header.j0 k t119 (t119.toList == ([99, 111, 110, 116, 101, 110, 116, 45, 108, 97, 110, 103, 117, 97, 103, 101] : List UInt8)) a0_0 a0_1)))
set_option maxHeartbeats 8000000 in
set_option maxRecDepth 100000 in
theorem safe_Header.calls (k : Nat) (a0_0 : ByteArray) (a0_1 : ByteArray) (r : Bool) (w : World) (hG_ : GW w) (h : safe_Header.f k a0_0 a0_1 = some r) :
  Calls Tryd.prog 31 #[.agg #[.string a0_0, .string a0_1]] w fun e w' => e = .returned (.bool r) ∧ Below w.heap.size w w' := by
 have hu31 := Tryd.underlying31
 have HB := Aside0.mk (Below.refl w.heap.size w)
 have H : (if (a0_1.size : Int) > 128 then (some false) else ((ascii_Lower.f a0_0).bind fun t119 => (if t119.toList = ([97, 99, 99, 101, 112, 116, 45, 108, 97, 110, 103, 117, 97, 103, 101] : List UInt8) then (safe_Header.j0 k t119 (t119.toList == ([97, 99, 99, 101, 112, 116, 45, 108, 97, 110, 103, 117, 97, 103, 101] : List UInt8)) a0_0 a0_1) else (safe_Header.j0 k t119 (t119.toList == ([99, 111, 110, 116, 101, 110, 116, 45, 108, 97, 110, 103, 117, 97, 103, 101] : List UInt8)) a0_0 a0_1)))) = some r := h
 clear h
 by_cases c2 : (a0_1.size : Int) > 128
 ·rw [if_pos c2] at H
  have c2b0 : decide (128 < (a0_1.size : Int)) = true := decide_eq_true c2
  have c2b1 : decide (128 < a0_1.size) = true := decide_eq_true (by omega)
  clear c2
  obtain rfl := Option.some.inj H
  go_enter Tryd.func31, Tryd.ntmps31
  go_wp2_with (first | ((with_reducible refine gate_dst (N := 1) rfl ?_); refine box_event ?hg (N := 1) ?hd (cs := #[.string a0_0, .string a0_1]) (t := 31) ?hr ?_; (case hd => rfl); (case hg => rfl); (case hr => first | (go_simp; done) | (go_simp; rfl)); intro gb118 hg w3 hbox hb; have n0_ := Aside0.mk (below_step z3_ hb); have n1_ := Aside0.mk (hbox); have n2_ := Aside0.mk ((by rw [hg]; exact (below_size z3_) : w.heap.size ≤ gb118)); have n3_ := Aside0.mk ((by rw [hg]; exact (below_size z3_) : w.heap.size ≤ gb118)); clear HB; have HB := n0_; have BK118 := n1_; have GW118 := n2_; have GE118 := n3_; clear n0_ n1_ n2_ n3_; clear hb hbox hg; have hcz4_0 : w3.cell? ⟨gb118, 0, none⟩ = some (.string a0_0) := (blk_cell BK118.out 0).trans rfl; have hcz4_1 : w3.cell? ⟨gb118, 1, none⟩ = some (.string a0_1) := (blk_cell BK118.out 1).trans rfl; have hfz4_0 := blk_frozen BK118.out 0; have hfz4_1 := blk_frozen BK118.out 1))
  go_ret
  exact ⟨z4_, z0_⟩
 ·rw [if_neg c2] at H
  have c2b0 : decide (128 < (a0_1.size : Int)) = false := decide_eq_false c2
  have c2b1 : decide (128 < a0_1.size) = false := decide_eq_false (by omega)
  clear c2
  replace H := Option.bind_eq_some_iff.mp H
  obtain ⟨t119, A50, H⟩ := H
  replace H : (if t119.toList = ([97, 99, 99, 101, 112, 116, 45, 108, 97, 110, 103, 117, 97, 103, 101] : List UInt8) then (safe_Header.j0 k t119 (t119.toList == ([97, 99, 99, 101, 112, 116, 45, 108, 97, 110, 103, 117, 97, 103, 101] : List UInt8)) a0_0 a0_1) else (safe_Header.j0 k t119 (t119.toList == ([99, 111, 110, 116, 101, 110, 116, 45, 108, 97, 110, 103, 117, 97, 103, 101] : List UInt8)) a0_0 a0_1)) = some r := H
  have A5 := Aside0.mk A50
  clear A50
  have HC6 := Aside0.mk H
  clear H
  go_enter Tryd.func31, Tryd.ntmps31
  go_upto_if 10 with (first | ((with_reducible refine gate_dst (N := 1) rfl ?_); refine box_event ?hg (N := 1) ?hd (cs := #[.string a0_0, .string a0_1]) (t := 31) ?hr ?_; (case hd => rfl); (case hg => rfl); (case hr => first | (go_simp; done) | (go_simp; rfl)); intro gb118 hg w7 hbox hb; have n0_ := Aside0.mk (below_step z3_ hb); have n1_ := Aside0.mk (hbox); have n2_ := Aside0.mk ((by rw [hg]; exact (below_size z3_) : w.heap.size ≤ gb118)); have n3_ := Aside0.mk ((by rw [hg]; exact (below_size z3_) : w.heap.size ≤ gb118)); clear HB; have HB := n0_; have BK118 := n1_; have GW118 := n2_; have GE118 := n3_; clear n0_ n1_ n2_ n3_; clear hb hbox hg; have hcz8_0 : w7.cell? ⟨gb118, 0, none⟩ = some (.string a0_0) := (blk_cell BK118.out 0).trans rfl; have hcz8_1 : w7.cell? ⟨gb118, 1, none⟩ = some (.string a0_1) := (blk_cell BK118.out 1).trans rfl; have hfz8_0 := blk_frozen BK118.out 0; have hfz8_1 := blk_frozen BK118.out 1) | ((with_reducible refine gate_callee (f := 67) rfl ?_); refine goesL_ (some 9) rfl rfl Tryd.func67 (by kernel_rfl) rfl #[.string a0_0] rfl z2_ ?_; (with_reducible refine (ascii_Lower.calls a0_0 t119 _ ?gw48_ A5.out).mono ?_); (case gw48_ => first | exact hG_ | (refine GW.below hG_ ?_; first | (with_reducible exact HB.out) | (repeat (first | (with_reducible first | exact HB.out | apply below_alloc | apply pw_below_drewN | apply below_drew1 | apply below_drew | exact Below.refl _ _) | exact HB.out))) | (apply GW.drewN; exact hG_) | (apply GW.drew; exact hG_)); rintro e w9 ⟨rfl, hb⟩; refine ⟨_, rfl, ?_⟩; have n0_ := Aside0.mk (blk_below (g := gb118) (o := .cells #[.string a0_0, .string a0_1] 31 (0, 0)) z6_ hb); have n1_ := Aside0.mk (below_step z0_ hb); clear BK118; clear HB; have BK118 := n0_; have HB := n1_; clear n0_ n1_; (try clear hb); (try clear hb2); (try clear hk); (try clear hi)))
  (try simp only [Act.put, List.setIfInBounds_toArray, List.set_cons_zero, List.set_cons_succ])
  go_cut [10] (fun v10 wc => ∃ (kq : Nat) (x10_5 : Bool), v10 = .bool x10_5 ∧ Aside0 (safe_Header.j0 kq t119 x10_5 a0_0 a0_1 = some r) ∧ Aside0 (kq ≤ k) ∧ Aside0 (wc.heap[gb118]? = some (.cells #[.string a0_0, .string a0_1] 31 (0, 0))) ∧ Aside0 (Below w.heap.size w wc))
  case first =>
   have H := HC6.out
   clear HC6
   by_cases c10 : t119.toList = ([97, 99, 99, 101, 112, 116, 45, 108, 97, 110, 103, 117, 97, 103, 101] : List UInt8)
   ·rw [if_pos c10] at H
    have c10b0 : (t119.toList == ([97, 99, 99, 101, 112, 116, 45, 108, 97, 110, 103, 117, 97, 103, 101] : List UInt8)) = true := beq_iff_eq.mpr c10
    have c10b1 : (t119.toList != ([97, 99, 99, 101, 112, 116, 45, 108, 97, 110, 103, 117, 97, 103, 101] : List UInt8)) = false := bne_eq_false_iff_eq.mpr c10
    clear c10
    (first | rw [c10b0] | (simp only [i64_w, i32_w]; rw [c10b0]) | skip)
    have H' := Aside0.mk H
    clear H
    go_wp2
    go_meet
    case rel => exact ⟨_, ((t119.toList == ([97, 99, 99, 101, 112, 116, 45, 108, 97, 110, 103, 117, 97, 103, 101] : List UInt8))), z15_, H', ⟨z21_⟩, ⟨z6_⟩, ⟨z0_⟩⟩
   ·rw [if_neg c10] at H
    have c10b0 : (t119.toList == ([97, 99, 99, 101, 112, 116, 45, 108, 97, 110, 103, 117, 97, 103, 101] : List UInt8)) = false := beq_eq_false_iff_ne.mpr c10
    have c10b1 : (t119.toList != ([97, 99, 99, 101, 112, 116, 45, 108, 97, 110, 103, 117, 97, 103, 101] : List UInt8)) = true := bne_iff_ne.mpr c10
    (first | rw [c10b0] | (simp only [i64_w, i32_w]; rw [c10b0]) | skip)
    have H' := Aside0.mk H
    clear H
    go_wp2
    go_meet
    case rel => exact ⟨_, ((t119.toList == ([99, 111, 110, 116, 101, 110, 116, 45, 108, 97, 110, 103, 117, 97, 103, 101] : List UInt8))), z15_, H', ⟨z21_⟩, ⟨z6_⟩, ⟨z0_⟩⟩
  case rest =>
   clear HC6
   try clear c1
   try clear c2
   try clear c2b0
   try clear c2b1
   try clear p2
   try clear c3
   try clear c6
   try clear c10
   try clear c10b0
   try clear c10b1
   try clear hcz4_0
   try clear hcz4_1
   try clear hcz8_0
   try clear hcz8_1
   try clear hfz4_0
   try clear hfz4_1
   try clear hfz8_0
   try clear hfz8_1
   obtain ⟨kq, x10_5, rfl, HA, HJ5, BK118, HB⟩ := hcut
   cases kq with
   | zero => exact absurd HA.out (by simp [safe_Header.j0])
   | succ kj5 =>
    have H := HA.out
    clear HA
    simp only [safe_Header.j0] at H
    by_cases c11 : x10_5 = true
    ·subst c11
     have H1 : ((safe_language.f kj5 a0_1).bind fun t120 => (some t120)) = some r := by rw [if_pos rfl] at H; exact H
     clear H
     have H := H1
     clear H1
     replace H := Option.bind_eq_some_iff.mp H
     obtain ⟨t120, A120, H⟩ := H
     replace H : (some t120) = some r := H
     have A12 := Aside0.mk A120
     clear A120
     obtain rfl := Option.some.inj H
     have hcz13_0 : wc.cell? ⟨gb118, 0, none⟩ = some (.string a0_0) := (blk_cell BK118.out 0).trans rfl
     have hcz13_1 : wc.cell? ⟨gb118, 1, none⟩ = some (.string a0_1) := (blk_cell BK118.out 1).trans rfl
     have hfz13_0 := blk_frozen BK118.out 0
     have hfz13_1 := blk_frozen BK118.out 1
     go_wp2_with (first | ((with_reducible refine gate_callee (f := 68) rfl ?_); refine goesL_ (some 19) rfl rfl Tryd.func68 (by kernel_rfl) rfl #[.string a0_1] rfl z2_ ?_; (with_reducible refine (safe_language.calls kj5 a0_1 t120 _ ?gw49_ A12.out).mono ?_); (case gw49_ => first | exact hG_ | (refine GW.below hG_ ?_; first | (with_reducible exact HB.out) | (repeat (first | (with_reducible first | exact HB.out | apply below_alloc | apply pw_below_drewN | apply below_drew1 | apply below_drew | exact Below.refl _ _) | exact HB.out))) | (apply GW.drewN; exact hG_) | (apply GW.drew; exact hG_)); rintro e w' ⟨rfl, ⟨nd, rfl⟩⟩; refine ⟨_, rfl, ?_⟩))
     go_ret
     exact ⟨z4_, z0_⟩
    ·replace c11 := Bool.eq_false_iff.mpr c11
     subst c11
     have H1 : (if t119.toList = ([99, 111, 110, 116, 101, 110, 116, 45, 116, 121, 112, 101] : List UInt8) then ((safe_sort.f a0_1).bind fun t122 => (if t122 = true then ((safe_clean.f kj5 a0_1).bind fun t123 => (some t123)) else (some false))) else (if t119.toList = ([97, 99, 99, 101, 112, 116] : List UInt8) then ((safe_clean.f kj5 a0_1).bind fun t121 => (some t121)) else (some false))) = some r := by rw [if_neg (show ¬ (false = true) by decide)] at H; exact H
     clear H
     have H := H1
     clear H1
     by_cases c14 : t119.toList = ([99, 111, 110, 116, 101, 110, 116, 45, 116, 121, 112, 101] : List UInt8)
     ·rw [if_pos c14] at H
      have c14b0 : (t119.toList == ([99, 111, 110, 116, 101, 110, 116, 45, 116, 121, 112, 101] : List UInt8)) = true := beq_iff_eq.mpr c14
      have c14b1 : (t119.toList != ([99, 111, 110, 116, 101, 110, 116, 45, 116, 121, 112, 101] : List UInt8)) = false := bne_eq_false_iff_eq.mpr c14
      clear c14
      replace H := Option.bind_eq_some_iff.mp H
      obtain ⟨t122, A150, H⟩ := H
      replace H : (if t122 = true then ((safe_clean.f kj5 a0_1).bind fun t123 => (some t123)) else (some false)) = some r := H
      have A15 := Aside0.mk A150
      clear A150
      by_cases c16 : t122 = true
      ·subst c16
       have H1 : ((safe_clean.f kj5 a0_1).bind fun t123 => (some t123)) = some r := by rw [if_pos rfl] at H; exact H
       clear H
       have H := H1
       clear H1
       replace H := Option.bind_eq_some_iff.mp H
       obtain ⟨t123, A170, H⟩ := H
       replace H : (some t123) = some r := H
       have A17 := Aside0.mk A170
       clear A170
       obtain rfl := Option.some.inj H
       have hcz18_0 : wc.cell? ⟨gb118, 0, none⟩ = some (.string a0_0) := (blk_cell BK118.out 0).trans rfl
       have hcz18_1 : wc.cell? ⟨gb118, 1, none⟩ = some (.string a0_1) := (blk_cell BK118.out 1).trans rfl
       have hfz18_0 := blk_frozen BK118.out 0
       have hfz18_1 := blk_frozen BK118.out 1
       go_wp2_with (first | ((with_reducible refine gate_callee (f := 69) rfl ?_); refine goesL_ (some 22) rfl rfl Tryd.func69 (by kernel_rfl) rfl #[.string a0_1] rfl z2_ ?_; (with_reducible refine (safe_sort.calls a0_1 true _ ?gw50_ A15.out).mono ?_); (case gw50_ => first | exact hG_ | (refine GW.below hG_ ?_; first | (with_reducible exact HB.out) | (repeat (first | (with_reducible first | exact HB.out | apply below_alloc | apply pw_below_drewN | apply below_drew1 | apply below_drew | exact Below.refl _ _) | exact HB.out))) | (apply GW.drewN; exact hG_) | (apply GW.drew; exact hG_)); rintro e w19 ⟨rfl, hb⟩; refine ⟨_, rfl, ?_⟩; have n0_ := Aside0.mk (blk_below (g := gb118) (o := .cells #[.string a0_0, .string a0_1] 31 (0, 0)) z6_ hb); have n1_ := Aside0.mk (below_step z0_ hb); clear BK118; clear HB; have BK118 := n0_; have HB := n1_; clear n0_ n1_; (try clear hb); (try clear hb2); (try clear hk); (try clear hi); have hcz20_0 : w19.cell? ⟨gb118, 0, none⟩ = some (.string a0_0) := (blk_cell BK118.out 0).trans rfl; have hcz20_1 : w19.cell? ⟨gb118, 1, none⟩ = some (.string a0_1) := (blk_cell BK118.out 1).trans rfl; have hfz20_0 := blk_frozen BK118.out 0; have hfz20_1 := blk_frozen BK118.out 1) | ((with_reducible refine gate_callee (f := 70) rfl ?_); refine goesL_ (some 26) rfl rfl Tryd.func70 (by kernel_rfl) rfl #[.string a0_1] rfl z2_ ?_; (with_reducible refine (safe_clean.calls kj5 a0_1 t123 _ ?gw51_ A17.out).mono ?_); (case gw51_ => first | exact hG_ | (refine GW.below hG_ ?_; first | (with_reducible exact HB.out) | (repeat (first | (with_reducible first | exact HB.out | apply below_alloc | apply pw_below_drewN | apply below_drew1 | apply below_drew | exact Below.refl _ _) | exact HB.out))) | (apply GW.drewN; exact hG_) | (apply GW.drew; exact hG_)); rintro e w' ⟨rfl, ⟨nd, rfl⟩⟩; refine ⟨_, rfl, ?_⟩))
       go_ret
       exact ⟨z4_, z0_⟩
      ·replace c16 := Bool.eq_false_iff.mpr c16
       subst c16
       have H1 : (some false) = some r := by rw [if_neg (show ¬ (false = true) by decide)] at H; exact H
       clear H
       have H := H1
       clear H1
       obtain rfl := Option.some.inj H
       have hcz21_0 : wc.cell? ⟨gb118, 0, none⟩ = some (.string a0_0) := (blk_cell BK118.out 0).trans rfl
       have hcz21_1 : wc.cell? ⟨gb118, 1, none⟩ = some (.string a0_1) := (blk_cell BK118.out 1).trans rfl
       have hfz21_0 := blk_frozen BK118.out 0
       have hfz21_1 := blk_frozen BK118.out 1
       go_wp2_with (first | ((with_reducible refine gate_callee (f := 69) rfl ?_); refine goesL_ (some 22) rfl rfl Tryd.func69 (by kernel_rfl) rfl #[.string a0_1] rfl z2_ ?_; (with_reducible refine (safe_sort.calls a0_1 false _ ?gw52_ A15.out).mono ?_); (case gw52_ => first | exact hG_ | (refine GW.below hG_ ?_; first | (with_reducible exact HB.out) | (repeat (first | (with_reducible first | exact HB.out | apply below_alloc | apply pw_below_drewN | apply below_drew1 | apply below_drew | exact Below.refl _ _) | exact HB.out))) | (apply GW.drewN; exact hG_) | (apply GW.drew; exact hG_)); rintro e w22 ⟨rfl, hb⟩; refine ⟨_, rfl, ?_⟩; have n0_ := Aside0.mk (blk_below (g := gb118) (o := .cells #[.string a0_0, .string a0_1] 31 (0, 0)) z6_ hb); have n1_ := Aside0.mk (below_step z0_ hb); clear BK118; clear HB; have BK118 := n0_; have HB := n1_; clear n0_ n1_; (try clear hb); (try clear hb2); (try clear hk); (try clear hi)))
       go_ret
       exact ⟨z4_, z0_⟩
     ·rw [if_neg c14] at H
      have c14b0 : (t119.toList == ([99, 111, 110, 116, 101, 110, 116, 45, 116, 121, 112, 101] : List UInt8)) = false := beq_eq_false_iff_ne.mpr c14
      have c14b1 : (t119.toList != ([99, 111, 110, 116, 101, 110, 116, 45, 116, 121, 112, 101] : List UInt8)) = true := bne_iff_ne.mpr c14
      by_cases c23 : t119.toList = ([97, 99, 99, 101, 112, 116] : List UInt8)
      ·rw [if_pos c23] at H
       have c23b0 : (t119.toList == ([97, 99, 99, 101, 112, 116] : List UInt8)) = true := beq_iff_eq.mpr c23
       have c23b1 : (t119.toList != ([97, 99, 99, 101, 112, 116] : List UInt8)) = false := bne_eq_false_iff_eq.mpr c23
       clear c23
       replace H := Option.bind_eq_some_iff.mp H
       obtain ⟨t121, A240, H⟩ := H
       replace H : (some t121) = some r := H
       have A24 := Aside0.mk A240
       clear A240
       obtain rfl := Option.some.inj H
       have hcz25_0 : wc.cell? ⟨gb118, 0, none⟩ = some (.string a0_0) := (blk_cell BK118.out 0).trans rfl
       have hcz25_1 : wc.cell? ⟨gb118, 1, none⟩ = some (.string a0_1) := (blk_cell BK118.out 1).trans rfl
       have hfz25_0 := blk_frozen BK118.out 0
       have hfz25_1 := blk_frozen BK118.out 1
       go_wp2_with (first | ((with_reducible refine gate_callee (f := 70) rfl ?_); refine goesL_ (some 26) rfl rfl Tryd.func70 (by kernel_rfl) rfl #[.string a0_1] rfl z2_ ?_; (with_reducible refine (safe_clean.calls kj5 a0_1 t121 _ ?gw53_ A24.out).mono ?_); (case gw53_ => first | exact hG_ | (refine GW.below hG_ ?_; first | (with_reducible exact HB.out) | (repeat (first | (with_reducible first | exact HB.out | apply below_alloc | apply pw_below_drewN | apply below_drew1 | apply below_drew | exact Below.refl _ _) | exact HB.out))) | (apply GW.drewN; exact hG_) | (apply GW.drew; exact hG_)); rintro e w' ⟨rfl, ⟨nd, rfl⟩⟩; refine ⟨_, rfl, ?_⟩))
       go_ret
       exact ⟨z4_, z0_⟩
      ·rw [if_neg c23] at H
       have c23b0 : (t119.toList == ([97, 99, 99, 101, 112, 116] : List UInt8)) = false := beq_eq_false_iff_ne.mpr c23
       have c23b1 : (t119.toList != ([97, 99, 99, 101, 112, 116] : List UInt8)) = true := bne_iff_ne.mpr c23
       obtain rfl := Option.some.inj H
       go_wp2
       go_ret
       exact ⟨z4_, z0_⟩

/-! ### safe_Forbidden: function 33 -/
mutual
def safe_Forbidden.j0 : Nat → ByteArray → ByteArray → Bool → Option (Bool)
 | 0, _, _, _ => none
 | k + 1, x3, x6, x7 => if x7 = true then (some true) else (if x6.toList = ([99, 111, 110, 110, 101, 99, 116, 105, 111, 110] : List UInt8) then (safe_Forbidden.j1 k x3 x6 (x6.toList == ([99, 111, 110, 110, 101, 99, 116, 105, 111, 110] : List UInt8))) else (if x6.toList = ([99, 111, 110, 116, 101, 110, 116, 45, 108, 101, 110, 103, 116, 104] : List UInt8) then (safe_Forbidden.j1 k x3 x6 (x6.toList == ([99, 111, 110, 116, 101, 110, 116, 45, 108, 101, 110, 103, 116, 104] : List UInt8))) else (if x6.toList = ([99, 111, 111, 107, 105, 101] : List UInt8) then (safe_Forbidden.j1 k x3 x6 (x6.toList == ([99, 111, 111, 107, 105, 101] : List UInt8))) else (if x6.toList = ([99, 111, 111, 107, 105, 101, 50] : List UInt8) then (safe_Forbidden.j1 k x3 x6 (x6.toList == ([99, 111, 111, 107, 105, 101, 50] : List UInt8))) else (if x6.toList = ([100, 97, 116, 101] : List UInt8) then (safe_Forbidden.j1 k x3 x6 (x6.toList == ([100, 97, 116, 101] : List UInt8))) else (if x6.toList = ([100, 110, 116] : List UInt8) then (safe_Forbidden.j1 k x3 x6 (x6.toList == ([100, 110, 116] : List UInt8))) else (if x6.toList = ([101, 120, 112, 101, 99, 116] : List UInt8) then (safe_Forbidden.j1 k x3 x6 (x6.toList == ([101, 120, 112, 101, 99, 116] : List UInt8))) else (if x6.toList = ([104, 111, 115, 116] : List UInt8) then (safe_Forbidden.j1 k x3 x6 (x6.toList == ([104, 111, 115, 116] : List UInt8))) else (if x6.toList = ([107, 101, 101, 112, 45, 97, 108, 105, 118, 101] : List UInt8) then (safe_Forbidden.j1 k x3 x6 (x6.toList == ([107, 101, 101, 112, 45, 97, 108, 105, 118, 101] : List UInt8))) else (safe_Forbidden.j1 k x3 x6 (x6.toList == ([111, 114, 105, 103, 105, 110] : List UInt8))))))))))))
def safe_Forbidden.j1 : Nat → ByteArray → ByteArray → Bool → Option (Bool)
 | 0, _, _, _ => none
 | k + 1, x3, x6, x12 => if x12 = true then (some true) else (if x6.toList = ([114, 101, 102, 101, 114, 101, 114] : List UInt8) then (safe_Forbidden.j2 k x3 (x6.toList == ([114, 101, 102, 101, 114, 101, 114] : List UInt8))) else (if x6.toList = ([115, 101, 116, 45, 99, 111, 111, 107, 105, 101] : List UInt8) then (safe_Forbidden.j2 k x3 (x6.toList == ([115, 101, 116, 45, 99, 111, 111, 107, 105, 101] : List UInt8))) else (if x6.toList = ([116, 101] : List UInt8) then (safe_Forbidden.j2 k x3 (x6.toList == ([116, 101] : List UInt8))) else (if x6.toList = ([116, 114, 97, 105, 108, 101, 114] : List UInt8) then (safe_Forbidden.j2 k x3 (x6.toList == ([116, 114, 97, 105, 108, 101, 114] : List UInt8))) else (if x6.toList = ([116, 114, 97, 110, 115, 102, 101, 114, 45, 101, 110, 99, 111, 100, 105, 110, 103] : List UInt8) then (safe_Forbidden.j2 k x3 (x6.toList == ([116, 114, 97, 110, 115, 102, 101, 114, 45, 101, 110, 99, 111, 100, 105, 110, 103] : List UInt8))) else (if x6.toList = ([117, 112, 103, 114, 97, 100, 101] : List UInt8) then (safe_Forbidden.j2 k x3 (x6.toList == ([117, 112, 103, 114, 97, 100, 101] : List UInt8))) else (safe_Forbidden.j2 k x3 (x6.toList == ([118, 105, 97] : List UInt8)))))))))
def safe_Forbidden.j2 : Nat → ByteArray → Bool → Option (Bool)
 | 0, _, _ => none
 | k + 1, x3, x23 => if x23 = true then (some true) else ((strings_HasPrefix.f x3 (⟨#[112, 114, 111, 120, 121, 45]⟩ : ByteArray)).bind fun t125 => (if t125 = true then (some true) else ((strings_HasPrefix.f x3 (⟨#[115, 101, 99, 45]⟩ : ByteArray)).bind fun t126 => (some t126))))
end
def safe_Forbidden.f (k : Nat) (a0 : ByteArray) : Option (Bool) := (ascii_Lower.f a0).bind fun t124 => (if t124.toList = ([97, 99, 99, 101, 112, 116, 45, 99, 104, 97, 114, 115, 101, 116] : List UInt8) then (safe_Forbidden.j0 k t124 t124 (t124.toList == ([97, 99, 99, 101, 112, 116, 45, 99, 104, 97, 114, 115, 101, 116] : List UInt8))) else (if t124.toList = ([97, 99, 99, 101, 112, 116, 45, 101, 110, 99, 111, 100, 105, 110, 103] : List UInt8) then (safe_Forbidden.j0 k t124 t124 (t124.toList == ([97, 99, 99, 101, 112, 116, 45, 101, 110, 99, 111, 100, 105, 110, 103] : List UInt8))) else (if t124.toList = ([97, 99, 99, 101, 115, 115, 45, 99, 111, 110, 116, 114, 111, 108, 45, 114, 101, 113, 117, 101, 115, 116, 45, 104, 101, 97, 100, 101, 114, 115] : List UInt8) then (safe_Forbidden.j0 k t124 t124 (t124.toList == ([97, 99, 99, 101, 115, 115, 45, 99, 111, 110, 116, 114, 111, 108, 45, 114, 101, 113, 117, 101, 115, 116, 45, 104, 101, 97, 100, 101, 114, 115] : List UInt8))) else (safe_Forbidden.j0 k t124 t124 (t124.toList == ([97, 99, 99, 101, 115, 115, 45, 99, 111, 110, 116, 114, 111, 108, 45, 114, 101, 113, 117, 101, 115, 116, 45, 109, 101, 116, 104, 111, 100] : List UInt8))))))
set_option maxHeartbeats 8000000 in
set_option maxRecDepth 100000 in
theorem safe_Forbidden.calls (k : Nat) (a0 : ByteArray) (r : Bool) (w : World) (hG_ : GW w) (h : safe_Forbidden.f k a0 = some r) :
  Calls Tryd.prog 33 #[.string a0] w fun e w' => e = .returned (.bool r) ∧ Below w.heap.size w w' := by
 have HB := Aside0.mk (Below.refl w.heap.size w)
 have H : ((ascii_Lower.f a0).bind fun t124 => (if t124.toList = ([97, 99, 99, 101, 112, 116, 45, 99, 104, 97, 114, 115, 101, 116] : List UInt8) then (safe_Forbidden.j0 k t124 t124 (t124.toList == ([97, 99, 99, 101, 112, 116, 45, 99, 104, 97, 114, 115, 101, 116] : List UInt8))) else (if t124.toList = ([97, 99, 99, 101, 112, 116, 45, 101, 110, 99, 111, 100, 105, 110, 103] : List UInt8) then (safe_Forbidden.j0 k t124 t124 (t124.toList == ([97, 99, 99, 101, 112, 116, 45, 101, 110, 99, 111, 100, 105, 110, 103] : List UInt8))) else (if t124.toList = ([97, 99, 99, 101, 115, 115, 45, 99, 111, 110, 116, 114, 111, 108, 45, 114, 101, 113, 117, 101, 115, 116, 45, 104, 101, 97, 100, 101, 114, 115] : List UInt8) then (safe_Forbidden.j0 k t124 t124 (t124.toList == ([97, 99, 99, 101, 115, 115, 45, 99, 111, 110, 116, 114, 111, 108, 45, 114, 101, 113, 117, 101, 115, 116, 45, 104, 101, 97, 100, 101, 114, 115] : List UInt8))) else (safe_Forbidden.j0 k t124 t124 (t124.toList == ([97, 99, 99, 101, 115, 115, 45, 99, 111, 110, 116, 114, 111, 108, 45, 114, 101, 113, 117, 101, 115, 116, 45, 109, 101, 116, 104, 111, 100] : List UInt8))))))) = some r := h
 clear h
 replace H := Option.bind_eq_some_iff.mp H
 obtain ⟨t124, A20, H⟩ := H
 replace H : (if t124.toList = ([97, 99, 99, 101, 112, 116, 45, 99, 104, 97, 114, 115, 101, 116] : List UInt8) then (safe_Forbidden.j0 k t124 t124 (t124.toList == ([97, 99, 99, 101, 112, 116, 45, 99, 104, 97, 114, 115, 101, 116] : List UInt8))) else (if t124.toList = ([97, 99, 99, 101, 112, 116, 45, 101, 110, 99, 111, 100, 105, 110, 103] : List UInt8) then (safe_Forbidden.j0 k t124 t124 (t124.toList == ([97, 99, 99, 101, 112, 116, 45, 101, 110, 99, 111, 100, 105, 110, 103] : List UInt8))) else (if t124.toList = ([97, 99, 99, 101, 115, 115, 45, 99, 111, 110, 116, 114, 111, 108, 45, 114, 101, 113, 117, 101, 115, 116, 45, 104, 101, 97, 100, 101, 114, 115] : List UInt8) then (safe_Forbidden.j0 k t124 t124 (t124.toList == ([97, 99, 99, 101, 115, 115, 45, 99, 111, 110, 116, 114, 111, 108, 45, 114, 101, 113, 117, 101, 115, 116, 45, 104, 101, 97, 100, 101, 114, 115] : List UInt8))) else (safe_Forbidden.j0 k t124 t124 (t124.toList == ([97, 99, 99, 101, 115, 115, 45, 99, 111, 110, 116, 114, 111, 108, 45, 114, 101, 113, 117, 101, 115, 116, 45, 109, 101, 116, 104, 111, 100] : List UInt8)))))) = some r := H
 have A2 := Aside0.mk A20
 clear A20
 have HC3 := Aside0.mk H
 clear H
 go_enter Tryd.func33, Tryd.ntmps33
 go_upto_if 7 with (first | ((with_reducible refine gate_callee (f := 67) rfl ?_); refine goesL_ (some 5) rfl rfl Tryd.func67 (by kernel_rfl) rfl #[.string a0] rfl z2_ ?_; (with_reducible refine (ascii_Lower.calls a0 t124 _ ?gw54_ A2.out).mono ?_); (case gw54_ => first | exact hG_ | (refine GW.below hG_ ?_; first | (with_reducible exact HB.out) | (repeat (first | (with_reducible first | exact HB.out | apply below_alloc | apply pw_below_drewN | apply below_drew1 | apply below_drew | exact Below.refl _ _) | exact HB.out))) | (apply GW.drewN; exact hG_) | (apply GW.drew; exact hG_)); rintro e w4 ⟨rfl, hb⟩; refine ⟨_, rfl, ?_⟩; have n0_ := Aside0.mk (below_step z3_ hb); clear HB; have HB := n0_; clear n0_; (try clear hb); (try clear hb2); (try clear hk); (try clear hi)))
 (try simp only [Act.put, List.setIfInBounds_toArray, List.set_cons_zero, List.set_cons_succ])
 go_cut [7] (fun v7 wc => ∃ (kq : Nat) (x7_2 : Bool), v7 = .bool x7_2 ∧ Aside0 (safe_Forbidden.j0 kq t124 t124 x7_2 = some r) ∧ Aside0 (kq ≤ k) ∧ Aside0 (Below w.heap.size w wc))
 case first =>
  have H := HC3.out
  clear HC3
  by_cases c5 : t124.toList = ([97, 99, 99, 101, 112, 116, 45, 99, 104, 97, 114, 115, 101, 116] : List UInt8)
  ·rw [if_pos c5] at H
   have c5b0 : (t124.toList == ([97, 99, 99, 101, 112, 116, 45, 99, 104, 97, 114, 115, 101, 116] : List UInt8)) = true := beq_iff_eq.mpr c5
   have c5b1 : (t124.toList != ([97, 99, 99, 101, 112, 116, 45, 99, 104, 97, 114, 115, 101, 116] : List UInt8)) = false := bne_eq_false_iff_eq.mpr c5
   clear c5
   (first | rw [c5b0] | (simp only [i64_w, i32_w]; rw [c5b0]) | skip)
   have H' := Aside0.mk H
   clear H
   go_wp2
   go_meet
   case rel => exact ⟨_, ((t124.toList == ([97, 99, 99, 101, 112, 116, 45, 99, 104, 97, 114, 115, 101, 116] : List UInt8))), z15_, H', ⟨z21_⟩, ⟨z3_⟩⟩
  ·rw [if_neg c5] at H
   have c5b0 : (t124.toList == ([97, 99, 99, 101, 112, 116, 45, 99, 104, 97, 114, 115, 101, 116] : List UInt8)) = false := beq_eq_false_iff_ne.mpr c5
   have c5b1 : (t124.toList != ([97, 99, 99, 101, 112, 116, 45, 99, 104, 97, 114, 115, 101, 116] : List UInt8)) = true := bne_iff_ne.mpr c5
   (first | rw [c5b0] | (simp only [i64_w, i32_w]; rw [c5b0]) | skip)
   by_cases c6 : t124.toList = ([97, 99, 99, 101, 112, 116, 45, 101, 110, 99, 111, 100, 105, 110, 103] : List UInt8)
   ·rw [if_pos c6] at H
    have c6b0 : (t124.toList == ([97, 99, 99, 101, 112, 116, 45, 101, 110, 99, 111, 100, 105, 110, 103] : List UInt8)) = true := beq_iff_eq.mpr c6
    have c6b1 : (t124.toList != ([97, 99, 99, 101, 112, 116, 45, 101, 110, 99, 111, 100, 105, 110, 103] : List UInt8)) = false := bne_eq_false_iff_eq.mpr c6
    clear c6
    have H' := Aside0.mk H
    clear H
    go_wp2
    go_meet
    case rel => exact ⟨_, ((t124.toList == ([97, 99, 99, 101, 112, 116, 45, 101, 110, 99, 111, 100, 105, 110, 103] : List UInt8))), z15_, H', ⟨z21_⟩, ⟨z3_⟩⟩
   ·rw [if_neg c6] at H
    have c6b0 : (t124.toList == ([97, 99, 99, 101, 112, 116, 45, 101, 110, 99, 111, 100, 105, 110, 103] : List UInt8)) = false := beq_eq_false_iff_ne.mpr c6
    have c6b1 : (t124.toList != ([97, 99, 99, 101, 112, 116, 45, 101, 110, 99, 111, 100, 105, 110, 103] : List UInt8)) = true := bne_iff_ne.mpr c6
    by_cases c7 : t124.toList = ([97, 99, 99, 101, 115, 115, 45, 99, 111, 110, 116, 114, 111, 108, 45, 114, 101, 113, 117, 101, 115, 116, 45, 104, 101, 97, 100, 101, 114, 115] : List UInt8)
    ·rw [if_pos c7] at H
     have c7b0 : (t124.toList == ([97, 99, 99, 101, 115, 115, 45, 99, 111, 110, 116, 114, 111, 108, 45, 114, 101, 113, 117, 101, 115, 116, 45, 104, 101, 97, 100, 101, 114, 115] : List UInt8)) = true := beq_iff_eq.mpr c7
     have c7b1 : (t124.toList != ([97, 99, 99, 101, 115, 115, 45, 99, 111, 110, 116, 114, 111, 108, 45, 114, 101, 113, 117, 101, 115, 116, 45, 104, 101, 97, 100, 101, 114, 115] : List UInt8)) = false := bne_eq_false_iff_eq.mpr c7
     clear c7
     have H' := Aside0.mk H
     clear H
     go_wp2
     go_meet
     case rel => exact ⟨_, ((t124.toList == ([97, 99, 99, 101, 115, 115, 45, 99, 111, 110, 116, 114, 111, 108, 45, 114, 101, 113, 117, 101, 115, 116, 45, 104, 101, 97, 100, 101, 114, 115] : List UInt8))), z15_, H', ⟨z21_⟩, ⟨z3_⟩⟩
    ·rw [if_neg c7] at H
     have c7b0 : (t124.toList == ([97, 99, 99, 101, 115, 115, 45, 99, 111, 110, 116, 114, 111, 108, 45, 114, 101, 113, 117, 101, 115, 116, 45, 104, 101, 97, 100, 101, 114, 115] : List UInt8)) = false := beq_eq_false_iff_ne.mpr c7
     have c7b1 : (t124.toList != ([97, 99, 99, 101, 115, 115, 45, 99, 111, 110, 116, 114, 111, 108, 45, 114, 101, 113, 117, 101, 115, 116, 45, 104, 101, 97, 100, 101, 114, 115] : List UInt8)) = true := bne_iff_ne.mpr c7
     have H' := Aside0.mk H
     clear H
     go_wp2
     go_meet
     case rel => exact ⟨_, ((t124.toList == ([97, 99, 99, 101, 115, 115, 45, 99, 111, 110, 116, 114, 111, 108, 45, 114, 101, 113, 117, 101, 115, 116, 45, 109, 101, 116, 104, 111, 100] : List UInt8))), z15_, H', ⟨z21_⟩, ⟨z3_⟩⟩
 case rest =>
  clear HC3
  try clear p2
  try clear c3
  try clear c5
  try clear c5b0
  try clear c5b1
  try clear c6
  try clear c6b0
  try clear c6b1
  try clear c7
  try clear c7b0
  try clear c7b1
  obtain ⟨kq, x7_2, rfl, HA, HJ2, HB⟩ := hcut
  cases kq with
  | zero => exact absurd HA.out (by simp [safe_Forbidden.j0])
  | succ kj2 =>
   have H := HA.out
   clear HA
   simp only [safe_Forbidden.j0] at H
   by_cases c8 : x7_2 = true
   ·subst c8
    have H1 : (some true) = some r := by rw [if_pos rfl] at H; exact H
    clear H
    have H := H1
    clear H1
    obtain rfl := Option.some.inj H
    go_wp2
    go_ret
    exact ⟨z4_, z3_⟩
   ·replace c8 := Bool.eq_false_iff.mpr c8
    subst c8
    have H1 : (if t124.toList = ([99, 111, 110, 110, 101, 99, 116, 105, 111, 110] : List UInt8) then (safe_Forbidden.j1 kj2 t124 t124 (t124.toList == ([99, 111, 110, 110, 101, 99, 116, 105, 111, 110] : List UInt8))) else (if t124.toList = ([99, 111, 110, 116, 101, 110, 116, 45, 108, 101, 110, 103, 116, 104] : List UInt8) then (safe_Forbidden.j1 kj2 t124 t124 (t124.toList == ([99, 111, 110, 116, 101, 110, 116, 45, 108, 101, 110, 103, 116, 104] : List UInt8))) else (if t124.toList = ([99, 111, 111, 107, 105, 101] : List UInt8) then (safe_Forbidden.j1 kj2 t124 t124 (t124.toList == ([99, 111, 111, 107, 105, 101] : List UInt8))) else (if t124.toList = ([99, 111, 111, 107, 105, 101, 50] : List UInt8) then (safe_Forbidden.j1 kj2 t124 t124 (t124.toList == ([99, 111, 111, 107, 105, 101, 50] : List UInt8))) else (if t124.toList = ([100, 97, 116, 101] : List UInt8) then (safe_Forbidden.j1 kj2 t124 t124 (t124.toList == ([100, 97, 116, 101] : List UInt8))) else (if t124.toList = ([100, 110, 116] : List UInt8) then (safe_Forbidden.j1 kj2 t124 t124 (t124.toList == ([100, 110, 116] : List UInt8))) else (if t124.toList = ([101, 120, 112, 101, 99, 116] : List UInt8) then (safe_Forbidden.j1 kj2 t124 t124 (t124.toList == ([101, 120, 112, 101, 99, 116] : List UInt8))) else (if t124.toList = ([104, 111, 115, 116] : List UInt8) then (safe_Forbidden.j1 kj2 t124 t124 (t124.toList == ([104, 111, 115, 116] : List UInt8))) else (if t124.toList = ([107, 101, 101, 112, 45, 97, 108, 105, 118, 101] : List UInt8) then (safe_Forbidden.j1 kj2 t124 t124 (t124.toList == ([107, 101, 101, 112, 45, 97, 108, 105, 118, 101] : List UInt8))) else (safe_Forbidden.j1 kj2 t124 t124 (t124.toList == ([111, 114, 105, 103, 105, 110] : List UInt8)))))))))))) = some r := by rw [if_neg (show ¬ (false = true) by decide)] at H; exact H
    clear H
    have H := H1
    clear H1
    have HC9 := Aside0.mk H
    clear H
    go_upto_if 12 with (fail)
    go_cut [12] (fun v12 wc => ∃ (kq : Nat) (x12_8 : Bool), v12 = .bool x12_8 ∧ Aside0 (safe_Forbidden.j1 kq t124 t124 x12_8 = some r) ∧ Aside0 (kq ≤ kj2) ∧ Aside0 (Below w.heap.size w wc))
    case first =>
     have H := HC9.out
     clear HC9
     by_cases c10 : t124.toList = ([99, 111, 110, 110, 101, 99, 116, 105, 111, 110] : List UInt8)
     ·rw [if_pos c10] at H
      have c10b0 : (t124.toList == ([99, 111, 110, 110, 101, 99, 116, 105, 111, 110] : List UInt8)) = true := beq_iff_eq.mpr c10
      have c10b1 : (t124.toList != ([99, 111, 110, 110, 101, 99, 116, 105, 111, 110] : List UInt8)) = false := bne_eq_false_iff_eq.mpr c10
      clear c10
      (first | rw [c10b0] | (simp only [i64_w, i32_w]; rw [c10b0]) | skip)
      have H' := Aside0.mk H
      clear H
      go_wp2
      go_meet
      case rel => exact ⟨_, ((t124.toList == ([99, 111, 110, 110, 101, 99, 116, 105, 111, 110] : List UInt8))), z15_, H', ⟨z18_⟩, ⟨z3_⟩⟩
     ·rw [if_neg c10] at H
      have c10b0 : (t124.toList == ([99, 111, 110, 110, 101, 99, 116, 105, 111, 110] : List UInt8)) = false := beq_eq_false_iff_ne.mpr c10
      have c10b1 : (t124.toList != ([99, 111, 110, 110, 101, 99, 116, 105, 111, 110] : List UInt8)) = true := bne_iff_ne.mpr c10
      (first | rw [c10b0] | (simp only [i64_w, i32_w]; rw [c10b0]) | skip)
      by_cases c11 : t124.toList = ([99, 111, 110, 116, 101, 110, 116, 45, 108, 101, 110, 103, 116, 104] : List UInt8)
      ·rw [if_pos c11] at H
       have c11b0 : (t124.toList == ([99, 111, 110, 116, 101, 110, 116, 45, 108, 101, 110, 103, 116, 104] : List UInt8)) = true := beq_iff_eq.mpr c11
       have c11b1 : (t124.toList != ([99, 111, 110, 116, 101, 110, 116, 45, 108, 101, 110, 103, 116, 104] : List UInt8)) = false := bne_eq_false_iff_eq.mpr c11
       clear c11
       have H' := Aside0.mk H
       clear H
       go_wp2
       go_meet
       case rel => exact ⟨_, ((t124.toList == ([99, 111, 110, 116, 101, 110, 116, 45, 108, 101, 110, 103, 116, 104] : List UInt8))), z15_, H', ⟨z18_⟩, ⟨z3_⟩⟩
      ·rw [if_neg c11] at H
       have c11b0 : (t124.toList == ([99, 111, 110, 116, 101, 110, 116, 45, 108, 101, 110, 103, 116, 104] : List UInt8)) = false := beq_eq_false_iff_ne.mpr c11
       have c11b1 : (t124.toList != ([99, 111, 110, 116, 101, 110, 116, 45, 108, 101, 110, 103, 116, 104] : List UInt8)) = true := bne_iff_ne.mpr c11
       by_cases c12 : t124.toList = ([99, 111, 111, 107, 105, 101] : List UInt8)
       ·rw [if_pos c12] at H
        have c12b0 : (t124.toList == ([99, 111, 111, 107, 105, 101] : List UInt8)) = true := beq_iff_eq.mpr c12
        have c12b1 : (t124.toList != ([99, 111, 111, 107, 105, 101] : List UInt8)) = false := bne_eq_false_iff_eq.mpr c12
        clear c12
        have H' := Aside0.mk H
        clear H
        go_wp2
        go_meet
        case rel => exact ⟨_, ((t124.toList == ([99, 111, 111, 107, 105, 101] : List UInt8))), z15_, H', ⟨z18_⟩, ⟨z3_⟩⟩
       ·rw [if_neg c12] at H
        have c12b0 : (t124.toList == ([99, 111, 111, 107, 105, 101] : List UInt8)) = false := beq_eq_false_iff_ne.mpr c12
        have c12b1 : (t124.toList != ([99, 111, 111, 107, 105, 101] : List UInt8)) = true := bne_iff_ne.mpr c12
        by_cases c13 : t124.toList = ([99, 111, 111, 107, 105, 101, 50] : List UInt8)
        ·rw [if_pos c13] at H
         have c13b0 : (t124.toList == ([99, 111, 111, 107, 105, 101, 50] : List UInt8)) = true := beq_iff_eq.mpr c13
         have c13b1 : (t124.toList != ([99, 111, 111, 107, 105, 101, 50] : List UInt8)) = false := bne_eq_false_iff_eq.mpr c13
         clear c13
         have H' := Aside0.mk H
         clear H
         go_wp2
         go_meet
         case rel => exact ⟨_, ((t124.toList == ([99, 111, 111, 107, 105, 101, 50] : List UInt8))), z15_, H', ⟨z18_⟩, ⟨z3_⟩⟩
        ·rw [if_neg c13] at H
         have c13b0 : (t124.toList == ([99, 111, 111, 107, 105, 101, 50] : List UInt8)) = false := beq_eq_false_iff_ne.mpr c13
         have c13b1 : (t124.toList != ([99, 111, 111, 107, 105, 101, 50] : List UInt8)) = true := bne_iff_ne.mpr c13
         by_cases c14 : t124.toList = ([100, 97, 116, 101] : List UInt8)
         ·rw [if_pos c14] at H
          have c14b0 : (t124.toList == ([100, 97, 116, 101] : List UInt8)) = true := beq_iff_eq.mpr c14
          have c14b1 : (t124.toList != ([100, 97, 116, 101] : List UInt8)) = false := bne_eq_false_iff_eq.mpr c14
          clear c14
          have H' := Aside0.mk H
          clear H
          go_wp2
          go_meet
          case rel => exact ⟨_, ((t124.toList == ([100, 97, 116, 101] : List UInt8))), z15_, H', ⟨z18_⟩, ⟨z3_⟩⟩
         ·rw [if_neg c14] at H
          have c14b0 : (t124.toList == ([100, 97, 116, 101] : List UInt8)) = false := beq_eq_false_iff_ne.mpr c14
          have c14b1 : (t124.toList != ([100, 97, 116, 101] : List UInt8)) = true := bne_iff_ne.mpr c14
          by_cases c15 : t124.toList = ([100, 110, 116] : List UInt8)
          ·rw [if_pos c15] at H
           have c15b0 : (t124.toList == ([100, 110, 116] : List UInt8)) = true := beq_iff_eq.mpr c15
           have c15b1 : (t124.toList != ([100, 110, 116] : List UInt8)) = false := bne_eq_false_iff_eq.mpr c15
           clear c15
           have H' := Aside0.mk H
           clear H
           go_wp2
           go_meet
           case rel => exact ⟨_, ((t124.toList == ([100, 110, 116] : List UInt8))), z15_, H', ⟨z18_⟩, ⟨z3_⟩⟩
          ·rw [if_neg c15] at H
           have c15b0 : (t124.toList == ([100, 110, 116] : List UInt8)) = false := beq_eq_false_iff_ne.mpr c15
           have c15b1 : (t124.toList != ([100, 110, 116] : List UInt8)) = true := bne_iff_ne.mpr c15
           by_cases c16 : t124.toList = ([101, 120, 112, 101, 99, 116] : List UInt8)
           ·rw [if_pos c16] at H
            have c16b0 : (t124.toList == ([101, 120, 112, 101, 99, 116] : List UInt8)) = true := beq_iff_eq.mpr c16
            have c16b1 : (t124.toList != ([101, 120, 112, 101, 99, 116] : List UInt8)) = false := bne_eq_false_iff_eq.mpr c16
            clear c16
            have H' := Aside0.mk H
            clear H
            go_wp2
            go_meet
            case rel => exact ⟨_, ((t124.toList == ([101, 120, 112, 101, 99, 116] : List UInt8))), z15_, H', ⟨z18_⟩, ⟨z3_⟩⟩
           ·rw [if_neg c16] at H
            have c16b0 : (t124.toList == ([101, 120, 112, 101, 99, 116] : List UInt8)) = false := beq_eq_false_iff_ne.mpr c16
            have c16b1 : (t124.toList != ([101, 120, 112, 101, 99, 116] : List UInt8)) = true := bne_iff_ne.mpr c16
            by_cases c17 : t124.toList = ([104, 111, 115, 116] : List UInt8)
            ·rw [if_pos c17] at H
             have c17b0 : (t124.toList == ([104, 111, 115, 116] : List UInt8)) = true := beq_iff_eq.mpr c17
             have c17b1 : (t124.toList != ([104, 111, 115, 116] : List UInt8)) = false := bne_eq_false_iff_eq.mpr c17
             clear c17
             have H' := Aside0.mk H
             clear H
             go_wp2
             go_meet
             case rel => exact ⟨_, ((t124.toList == ([104, 111, 115, 116] : List UInt8))), z15_, H', ⟨z18_⟩, ⟨z3_⟩⟩
            ·rw [if_neg c17] at H
             have c17b0 : (t124.toList == ([104, 111, 115, 116] : List UInt8)) = false := beq_eq_false_iff_ne.mpr c17
             have c17b1 : (t124.toList != ([104, 111, 115, 116] : List UInt8)) = true := bne_iff_ne.mpr c17
             by_cases c18 : t124.toList = ([107, 101, 101, 112, 45, 97, 108, 105, 118, 101] : List UInt8)
             ·rw [if_pos c18] at H
              have c18b0 : (t124.toList == ([107, 101, 101, 112, 45, 97, 108, 105, 118, 101] : List UInt8)) = true := beq_iff_eq.mpr c18
              have c18b1 : (t124.toList != ([107, 101, 101, 112, 45, 97, 108, 105, 118, 101] : List UInt8)) = false := bne_eq_false_iff_eq.mpr c18
              clear c18
              have H' := Aside0.mk H
              clear H
              go_wp2
              go_meet
              case rel => exact ⟨_, ((t124.toList == ([107, 101, 101, 112, 45, 97, 108, 105, 118, 101] : List UInt8))), z15_, H', ⟨z18_⟩, ⟨z3_⟩⟩
             ·rw [if_neg c18] at H
              have c18b0 : (t124.toList == ([107, 101, 101, 112, 45, 97, 108, 105, 118, 101] : List UInt8)) = false := beq_eq_false_iff_ne.mpr c18
              have c18b1 : (t124.toList != ([107, 101, 101, 112, 45, 97, 108, 105, 118, 101] : List UInt8)) = true := bne_iff_ne.mpr c18
              have H' := Aside0.mk H
              clear H
              go_wp2
              go_meet
              case rel => exact ⟨_, ((t124.toList == ([111, 114, 105, 103, 105, 110] : List UInt8))), z15_, H', ⟨z18_⟩, ⟨z3_⟩⟩
    case rest =>
     clear HC9
     try clear c1
     try clear p2
     try clear c3
     try clear c5
     try clear c5b0
     try clear c5b1
     try clear c6
     try clear c6b0
     try clear c6b1
     try clear c7
     try clear c7b0
     try clear c7b1
     try clear c8
     try clear c10
     try clear c10b0
     try clear c10b1
     try clear c11
     try clear c11b0
     try clear c11b1
     try clear c12
     try clear c12b0
     try clear c12b1
     try clear c13
     try clear c13b0
     try clear c13b1
     try clear c14
     try clear c14b0
     try clear c14b1
     try clear c15
     try clear c15b0
     try clear c15b1
     try clear c16
     try clear c16b0
     try clear c16b1
     try clear c17
     try clear c17b0
     try clear c17b1
     try clear c18
     try clear c18b0
     try clear c18b1
     try clear p2
     obtain ⟨kq, x12_8, rfl, HA, HJ8, HB⟩ := hcut
     cases kq with
     | zero => exact absurd HA.out (by simp [safe_Forbidden.j1])
     | succ kj8 =>
      have H := HA.out
      clear HA
      simp only [safe_Forbidden.j1] at H
      by_cases c19 : x12_8 = true
      ·subst c19
       have H1 : (some true) = some r := by rw [if_pos rfl] at H; exact H
       clear H
       have H := H1
       clear H1
       obtain rfl := Option.some.inj H
       go_wp2
       go_ret
       exact ⟨z4_, z3_⟩
      ·replace c19 := Bool.eq_false_iff.mpr c19
       subst c19
       have H1 : (if t124.toList = ([114, 101, 102, 101, 114, 101, 114] : List UInt8) then (safe_Forbidden.j2 kj8 t124 (t124.toList == ([114, 101, 102, 101, 114, 101, 114] : List UInt8))) else (if t124.toList = ([115, 101, 116, 45, 99, 111, 111, 107, 105, 101] : List UInt8) then (safe_Forbidden.j2 kj8 t124 (t124.toList == ([115, 101, 116, 45, 99, 111, 111, 107, 105, 101] : List UInt8))) else (if t124.toList = ([116, 101] : List UInt8) then (safe_Forbidden.j2 kj8 t124 (t124.toList == ([116, 101] : List UInt8))) else (if t124.toList = ([116, 114, 97, 105, 108, 101, 114] : List UInt8) then (safe_Forbidden.j2 kj8 t124 (t124.toList == ([116, 114, 97, 105, 108, 101, 114] : List UInt8))) else (if t124.toList = ([116, 114, 97, 110, 115, 102, 101, 114, 45, 101, 110, 99, 111, 100, 105, 110, 103] : List UInt8) then (safe_Forbidden.j2 kj8 t124 (t124.toList == ([116, 114, 97, 110, 115, 102, 101, 114, 45, 101, 110, 99, 111, 100, 105, 110, 103] : List UInt8))) else (if t124.toList = ([117, 112, 103, 114, 97, 100, 101] : List UInt8) then (safe_Forbidden.j2 kj8 t124 (t124.toList == ([117, 112, 103, 114, 97, 100, 101] : List UInt8))) else (safe_Forbidden.j2 kj8 t124 (t124.toList == ([118, 105, 97] : List UInt8))))))))) = some r := by rw [if_neg (show ¬ (false = true) by decide)] at H; exact H
       clear H
       have H := H1
       clear H1
       have HC20 := Aside0.mk H
       clear H
       go_upto_if 23 with (fail)
       go_cut [23] (fun v23 wc => ∃ (kq : Nat) (x23_19 : Bool), v23 = .bool x23_19 ∧ Aside0 (safe_Forbidden.j2 kq t124 x23_19 = some r) ∧ Aside0 (kq ≤ kj8) ∧ Aside0 (Below w.heap.size w wc))
       case first =>
        have H := HC20.out
        clear HC20
        by_cases c21 : t124.toList = ([114, 101, 102, 101, 114, 101, 114] : List UInt8)
        ·rw [if_pos c21] at H
         have c21b0 : (t124.toList == ([114, 101, 102, 101, 114, 101, 114] : List UInt8)) = true := beq_iff_eq.mpr c21
         have c21b1 : (t124.toList != ([114, 101, 102, 101, 114, 101, 114] : List UInt8)) = false := bne_eq_false_iff_eq.mpr c21
         clear c21
         (first | rw [c21b0] | (simp only [i64_w, i32_w]; rw [c21b0]) | skip)
         have H' := Aside0.mk H
         clear H
         go_wp2
         go_meet
         case rel => exact ⟨_, ((t124.toList == ([114, 101, 102, 101, 114, 101, 114] : List UInt8))), z15_, H', ⟨z16_⟩, ⟨z3_⟩⟩
        ·rw [if_neg c21] at H
         have c21b0 : (t124.toList == ([114, 101, 102, 101, 114, 101, 114] : List UInt8)) = false := beq_eq_false_iff_ne.mpr c21
         have c21b1 : (t124.toList != ([114, 101, 102, 101, 114, 101, 114] : List UInt8)) = true := bne_iff_ne.mpr c21
         (first | rw [c21b0] | (simp only [i64_w, i32_w]; rw [c21b0]) | skip)
         by_cases c22 : t124.toList = ([115, 101, 116, 45, 99, 111, 111, 107, 105, 101] : List UInt8)
         ·rw [if_pos c22] at H
          have c22b0 : (t124.toList == ([115, 101, 116, 45, 99, 111, 111, 107, 105, 101] : List UInt8)) = true := beq_iff_eq.mpr c22
          have c22b1 : (t124.toList != ([115, 101, 116, 45, 99, 111, 111, 107, 105, 101] : List UInt8)) = false := bne_eq_false_iff_eq.mpr c22
          clear c22
          have H' := Aside0.mk H
          clear H
          go_wp2
          go_meet
          case rel => exact ⟨_, ((t124.toList == ([115, 101, 116, 45, 99, 111, 111, 107, 105, 101] : List UInt8))), z15_, H', ⟨z16_⟩, ⟨z3_⟩⟩
         ·rw [if_neg c22] at H
          have c22b0 : (t124.toList == ([115, 101, 116, 45, 99, 111, 111, 107, 105, 101] : List UInt8)) = false := beq_eq_false_iff_ne.mpr c22
          have c22b1 : (t124.toList != ([115, 101, 116, 45, 99, 111, 111, 107, 105, 101] : List UInt8)) = true := bne_iff_ne.mpr c22
          by_cases c23 : t124.toList = ([116, 101] : List UInt8)
          ·rw [if_pos c23] at H
           have c23b0 : (t124.toList == ([116, 101] : List UInt8)) = true := beq_iff_eq.mpr c23
           have c23b1 : (t124.toList != ([116, 101] : List UInt8)) = false := bne_eq_false_iff_eq.mpr c23
           clear c23
           have H' := Aside0.mk H
           clear H
           go_wp2
           go_meet
           case rel => exact ⟨_, ((t124.toList == ([116, 101] : List UInt8))), z15_, H', ⟨z16_⟩, ⟨z3_⟩⟩
          ·rw [if_neg c23] at H
           have c23b0 : (t124.toList == ([116, 101] : List UInt8)) = false := beq_eq_false_iff_ne.mpr c23
           have c23b1 : (t124.toList != ([116, 101] : List UInt8)) = true := bne_iff_ne.mpr c23
           by_cases c24 : t124.toList = ([116, 114, 97, 105, 108, 101, 114] : List UInt8)
           ·rw [if_pos c24] at H
            have c24b0 : (t124.toList == ([116, 114, 97, 105, 108, 101, 114] : List UInt8)) = true := beq_iff_eq.mpr c24
            have c24b1 : (t124.toList != ([116, 114, 97, 105, 108, 101, 114] : List UInt8)) = false := bne_eq_false_iff_eq.mpr c24
            clear c24
            have H' := Aside0.mk H
            clear H
            go_wp2
            go_meet
            case rel => exact ⟨_, ((t124.toList == ([116, 114, 97, 105, 108, 101, 114] : List UInt8))), z15_, H', ⟨z16_⟩, ⟨z3_⟩⟩
           ·rw [if_neg c24] at H
            have c24b0 : (t124.toList == ([116, 114, 97, 105, 108, 101, 114] : List UInt8)) = false := beq_eq_false_iff_ne.mpr c24
            have c24b1 : (t124.toList != ([116, 114, 97, 105, 108, 101, 114] : List UInt8)) = true := bne_iff_ne.mpr c24
            by_cases c25 : t124.toList = ([116, 114, 97, 110, 115, 102, 101, 114, 45, 101, 110, 99, 111, 100, 105, 110, 103] : List UInt8)
            ·rw [if_pos c25] at H
             have c25b0 : (t124.toList == ([116, 114, 97, 110, 115, 102, 101, 114, 45, 101, 110, 99, 111, 100, 105, 110, 103] : List UInt8)) = true := beq_iff_eq.mpr c25
             have c25b1 : (t124.toList != ([116, 114, 97, 110, 115, 102, 101, 114, 45, 101, 110, 99, 111, 100, 105, 110, 103] : List UInt8)) = false := bne_eq_false_iff_eq.mpr c25
             clear c25
             have H' := Aside0.mk H
             clear H
             go_wp2
             go_meet
             case rel => exact ⟨_, ((t124.toList == ([116, 114, 97, 110, 115, 102, 101, 114, 45, 101, 110, 99, 111, 100, 105, 110, 103] : List UInt8))), z15_, H', ⟨z16_⟩, ⟨z3_⟩⟩
            ·rw [if_neg c25] at H
             have c25b0 : (t124.toList == ([116, 114, 97, 110, 115, 102, 101, 114, 45, 101, 110, 99, 111, 100, 105, 110, 103] : List UInt8)) = false := beq_eq_false_iff_ne.mpr c25
             have c25b1 : (t124.toList != ([116, 114, 97, 110, 115, 102, 101, 114, 45, 101, 110, 99, 111, 100, 105, 110, 103] : List UInt8)) = true := bne_iff_ne.mpr c25
             by_cases c26 : t124.toList = ([117, 112, 103, 114, 97, 100, 101] : List UInt8)
             ·rw [if_pos c26] at H
              have c26b0 : (t124.toList == ([117, 112, 103, 114, 97, 100, 101] : List UInt8)) = true := beq_iff_eq.mpr c26
              have c26b1 : (t124.toList != ([117, 112, 103, 114, 97, 100, 101] : List UInt8)) = false := bne_eq_false_iff_eq.mpr c26
              clear c26
              have H' := Aside0.mk H
              clear H
              go_wp2
              go_meet
              case rel => exact ⟨_, ((t124.toList == ([117, 112, 103, 114, 97, 100, 101] : List UInt8))), z15_, H', ⟨z16_⟩, ⟨z3_⟩⟩
             ·rw [if_neg c26] at H
              have c26b0 : (t124.toList == ([117, 112, 103, 114, 97, 100, 101] : List UInt8)) = false := beq_eq_false_iff_ne.mpr c26
              have c26b1 : (t124.toList != ([117, 112, 103, 114, 97, 100, 101] : List UInt8)) = true := bne_iff_ne.mpr c26
              have H' := Aside0.mk H
              clear H
              go_wp2
              go_meet
              case rel => exact ⟨_, ((t124.toList == ([118, 105, 97] : List UInt8))), z15_, H', ⟨z16_⟩, ⟨z3_⟩⟩
       case rest =>
        clear HC20
        try clear c1
        try clear c2
        try clear p2
        try clear c3
        try clear c5
        try clear c5b0
        try clear c5b1
        try clear c6
        try clear c6b0
        try clear c6b1
        try clear c7
        try clear c7b0
        try clear c7b1
        try clear c8
        try clear c10
        try clear c10b0
        try clear c10b1
        try clear c11
        try clear c11b0
        try clear c11b1
        try clear c12
        try clear c12b0
        try clear c12b1
        try clear c13
        try clear c13b0
        try clear c13b1
        try clear c14
        try clear c14b0
        try clear c14b1
        try clear c15
        try clear c15b0
        try clear c15b1
        try clear c16
        try clear c16b0
        try clear c16b1
        try clear c17
        try clear c17b0
        try clear c17b1
        try clear c18
        try clear c18b0
        try clear c18b1
        try clear c19
        try clear c21
        try clear c21b0
        try clear c21b1
        try clear c22
        try clear c22b0
        try clear c22b1
        try clear c23
        try clear c23b0
        try clear c23b1
        try clear c24
        try clear c24b0
        try clear c24b1
        try clear c25
        try clear c25b0
        try clear c25b1
        try clear c26
        try clear c26b0
        try clear c26b1
        try clear p2
        obtain ⟨kq, x23_19, rfl, HA, HJ19, HB⟩ := hcut
        cases kq with
        | zero => exact absurd HA.out (by simp [safe_Forbidden.j2])
        | succ kj19 =>
         have H := HA.out
         clear HA
         simp only [safe_Forbidden.j2] at H
         by_cases c27 : x23_19 = true
         ·subst c27
          have H1 : (some true) = some r := by rw [if_pos rfl] at H; exact H
          clear H
          have H := H1
          clear H1
          obtain rfl := Option.some.inj H
          go_wp2
          go_ret
          exact ⟨z4_, z3_⟩
         ·replace c27 := Bool.eq_false_iff.mpr c27
          subst c27
          have H1 : ((strings_HasPrefix.f t124 (⟨#[112, 114, 111, 120, 121, 45]⟩ : ByteArray)).bind fun t125 => (if t125 = true then (some true) else ((strings_HasPrefix.f t124 (⟨#[115, 101, 99, 45]⟩ : ByteArray)).bind fun t126 => (some t126)))) = some r := by rw [if_neg (show ¬ (false = true) by decide)] at H; exact H
          clear H
          have H := H1
          clear H1
          replace H := Option.bind_eq_some_iff.mp H
          obtain ⟨t125, A280, H⟩ := H
          replace H : (if t125 = true then (some true) else ((strings_HasPrefix.f t124 (⟨#[115, 101, 99, 45]⟩ : ByteArray)).bind fun t126 => (some t126))) = some r := H
          have A28 := Aside0.mk A280
          clear A280
          by_cases c29 : t125 = true
          ·subst c29
           have H1 : (some true) = some r := by rw [if_pos rfl] at H; exact H
           clear H
           have H := H1
           clear H1
           obtain rfl := Option.some.inj H
           go_wp2_with (first | ((with_reducible refine gate_callee (f := 75) rfl ?_); refine goesL_ (some 32) rfl rfl Tryd.func75 (by kernel_rfl) rfl #[.string t124, .string (⟨#[112, 114, 111, 120, 121, 45]⟩ : ByteArray)] rfl z2_ ?_; (with_reducible refine (strings_HasPrefix.calls t124 (⟨#[112, 114, 111, 120, 121, 45]⟩ : ByteArray) true _ ?gw55_ A28.out).mono ?_); (case gw55_ => first | exact hG_ | (refine GW.below hG_ ?_; first | (with_reducible exact HB.out) | (repeat (first | (with_reducible first | exact HB.out | apply below_alloc | apply pw_below_drewN | apply below_drew1 | apply below_drew | exact Below.refl _ _) | exact HB.out))) | (apply GW.drewN; exact hG_) | (apply GW.drew; exact hG_)); rintro e w' ⟨rfl, ⟨nd, rfl⟩⟩; refine ⟨_, rfl, ?_⟩))
           go_ret
           exact ⟨z4_, z3_⟩
          ·replace c29 := Bool.eq_false_iff.mpr c29
           subst c29
           have H1 : ((strings_HasPrefix.f t124 (⟨#[115, 101, 99, 45]⟩ : ByteArray)).bind fun t126 => (some t126)) = some r := by rw [if_neg (show ¬ (false = true) by decide)] at H; exact H
           clear H
           have H := H1
           clear H1
           replace H := Option.bind_eq_some_iff.mp H
           obtain ⟨t126, A300, H⟩ := H
           replace H : (some t126) = some r := H
           have A30 := Aside0.mk A300
           clear A300
           obtain rfl := Option.some.inj H
           go_wp2_with (first | ((with_reducible refine gate_callee (f := 75) rfl ?_); refine goesL_ (some 32) rfl rfl Tryd.func75 (by kernel_rfl) rfl #[.string t124, .string (⟨#[112, 114, 111, 120, 121, 45]⟩ : ByteArray)] rfl z2_ ?_; (with_reducible refine (strings_HasPrefix.calls t124 (⟨#[112, 114, 111, 120, 121, 45]⟩ : ByteArray) false _ ?gw56_ A28.out).mono ?_); (case gw56_ => first | exact hG_ | (refine GW.below hG_ ?_; first | (with_reducible exact HB.out) | (repeat (first | (with_reducible first | exact HB.out | apply below_alloc | apply pw_below_drewN | apply below_drew1 | apply below_drew | exact Below.refl _ _) | exact HB.out))) | (apply GW.drewN; exact hG_) | (apply GW.drew; exact hG_)); rintro e w' ⟨rfl, ⟨nd, rfl⟩⟩; refine ⟨_, rfl, ?_⟩) | (go_at_call 75; (fail_if_success (have z_ := U_17)); have U_17 := trivial; (with_reducible refine (strings_HasPrefix.calls t124 (⟨#[115, 101, 99, 45]⟩ : ByteArray) t126 _ ?gw57_ A30.out).mono ?_); (case gw57_ => first | exact hG_ | (refine GW.below hG_ ?_; first | (with_reducible exact HB.out) | (repeat (first | (with_reducible first | exact HB.out | apply below_alloc | apply pw_below_drewN | apply below_drew1 | apply below_drew | exact Below.refl _ _) | exact HB.out))) | (apply GW.drewN; exact hG_) | (apply GW.drew; exact hG_)); rintro e w' ⟨rfl, ⟨nd, rfl⟩⟩))
           go_ret
           exact ⟨z4_, z3_⟩

/-! ### pursuivantref04_Same: function 36 -/
def pursuivantref04_Same.l0 : Nat → List ByteArray → List ByteArray → Int → Option (Bool)
 | 0, _, _, _ => none
 | k + 1, x0, x1, x5 => if x5 < (x0.length : Int) then (if 0 ≤ x5 then (if x5 < (x1.length : Int) then (if (rdOf ByteArray.empty x0 x5).toList = (rdOf ByteArray.empty x1 x5).toList then (pursuivantref04_Same.l0 k x0 x1 (wrap64 (x5 + 1))) else (some false)) else (none)) else (none)) else (some true)
def pursuivantref04_Same.f (k : Nat) (l0 : List ByteArray) (l1 : List ByteArray) : Option (Bool) := if (l0.length : Int) = (l1.length : Int) then (pursuivantref04_Same.l0 k l0 l1 0) else (some false)
set_option maxHeartbeats 8000000 in
set_option maxRecDepth 100000 in
theorem pursuivantref04_Same.calls (k : Nat) (A0 : Option Addr) (c0 : Nat) (l0 : List ByteArray) (A1 : Option Addr) (c1 : Nat) (l1 : List ByteArray) (r : Bool) (w : World) (hG_ : GW w) (hr0 : Kd.C Kd.string w A0 l0.length l0) (hc0 : l0.length ≤ c0) (hr1 : Kd.C Kd.string w A1 l1.length l1) (hc1 : l1.length ≤ c1) (h : pursuivantref04_Same.f k l0 l1 = some r) :
  Calls Tryd.prog 36 #[.slice A0 l0.length c0, .slice A1 l1.length c1] w fun e w' => e = .returned (.bool r) ∧ Drawn0 w w' := by
 have HR0 := Aside0.mk hr0
 have HC0 := Aside0.mk hc0
 clear hr0 hc0
 have HR1 := Aside0.mk hr1
 have HC1 := Aside0.mk hc1
 clear hr1 hc1
 have H : (if (l0.length : Int) = (l1.length : Int) then (pursuivantref04_Same.l0 k l0 l1 0) else (some false)) = some r := h
 clear h
 by_cases c3 : (l0.length : Int) = (l1.length : Int)
 ·rw [if_pos c3] at H
  have c3b0 : ((l0.length : Int) == (l1.length : Int)) = true := beq_iff_eq.mpr c3
  have c3b1 : ((l0.length : Int) != (l1.length : Int)) = false := bne_eq_false_iff_eq.mpr c3
  have c3b2 : (l0.length == l1.length) = true := by first | simpa using c3 | (simp at c3 ⊢; omega)
  clear c3
  have H' := Aside0.mk H
  clear H
  go_enter Tryd.func36, Tryd.ntmps36
  go_wp2
  repeat (go_quiet (fail); try go_wp2)
  go_loopg [5] k (fun kq v5 w' => ∃ (x5_1 : Int), v5 = .int .i64 x5_1 ∧ Aside0 (pursuivantref04_Same.l0 kq l0 l1 x5_1 = some r) ∧ Aside0 (kq ≤ k) ∧ Drawn0 w w')
  case atStart => exact ⟨(0), z15_, H', ⟨Nat.le_refl _⟩, z17_⟩
  case round =>
   clear H'
   try clear c1
   try clear p2
   try clear c3
   try clear c3b0
   try clear c3b1
   try clear c3b2
   obtain ⟨x5_1, rfl, HA, HK1, ⟨m1, rfl⟩⟩ := hrel
   cases gk with
   | zero => exact absurd HA.out (by simp [pursuivantref04_Same.l0])
   | succ k1 =>
    have H := HA.out
    clear HA
    simp only [pursuivantref04_Same.l0] at H
    by_cases c4 : x5_1 < (l0.length : Int)
    ·rw [if_pos c4] at H
     have c4b0 : decide (x5_1 < (l0.length : Int)) = true := decide_eq_true c4
     clear c4
     by_cases c5 : 0 ≤ x5_1
     ·rw [if_pos c5] at H
      have c5b0 : decide (0 ≤ x5_1) = true := decide_eq_true c5
      clear c5
      by_cases c6 : x5_1 < (l1.length : Int)
      ·rw [if_pos c6] at H
       have c6b0 : decide (x5_1 < (l1.length : Int)) = true := decide_eq_true c6
       clear c6
       by_cases c7 : (rdOf ByteArray.empty l0 x5_1).toList = (rdOf ByteArray.empty l1 x5_1).toList
       ·rw [if_pos c7] at H
        have c7b0 : ((rdOf ByteArray.empty l0 x5_1).toList == (rdOf ByteArray.empty l1 x5_1).toList) = true := beq_iff_eq.mpr c7
        have c7b1 : ((rdOf ByteArray.empty l0 x5_1).toList != (rdOf ByteArray.empty l1 x5_1).toList) = false := bne_eq_false_iff_eq.mpr c7
        clear c7
        have H' := Aside0.mk H
        clear H
        have p127 : 0 ≤ (x5_1 : Int) := of_decide_eq_true z19_
        have q127 : x5_1 < (l0.length : Int) := of_decide_eq_true z19_
        obtain ⟨ad127, e127, hx127_0⟩ := Kd.at_string HR0.out x5_1 p127 q127
        cases e127
        replace p127 := eq_true p127
        replace q127 := eq_true q127
        have p128 : 0 ≤ (x5_1 : Int) := of_decide_eq_true z19_
        have q128 : x5_1 < (l1.length : Int) := of_decide_eq_true z19_
        obtain ⟨ad128, e128, hx128_0⟩ := Kd.at_string HR1.out x5_1 p128 q128
        cases e128
        replace p128 := eq_true p128
        replace q128 := eq_true q128
        go_wp2
        repeat (go_quiet (fail); try go_wp2)
        go_roundg k1
        case measure => have := HK1.out; omega
        case rel => exact ⟨(wrap64 (x5_1 + 1)), z15_, H', ⟨z22_⟩, z17_⟩
       ·rw [if_neg c7] at H
        have c7b0 : ((rdOf ByteArray.empty l0 x5_1).toList == (rdOf ByteArray.empty l1 x5_1).toList) = false := beq_eq_false_iff_ne.mpr c7
        have c7b1 : ((rdOf ByteArray.empty l0 x5_1).toList != (rdOf ByteArray.empty l1 x5_1).toList) = true := bne_iff_ne.mpr c7
        obtain rfl := Option.some.inj H
        have p127 : 0 ≤ (x5_1 : Int) := of_decide_eq_true z19_
        have q127 : x5_1 < (l0.length : Int) := of_decide_eq_true z19_
        obtain ⟨ad127, e127, hx127_0⟩ := Kd.at_string HR0.out x5_1 p127 q127
        cases e127
        replace p127 := eq_true p127
        replace q127 := eq_true q127
        have p128 : 0 ≤ (x5_1 : Int) := of_decide_eq_true z19_
        have q128 : x5_1 < (l1.length : Int) := of_decide_eq_true z19_
        obtain ⟨ad128, e128, hx128_0⟩ := Kd.at_string HR1.out x5_1 p128 q128
        cases e128
        replace p128 := eq_true p128
        replace q128 := eq_true q128
        go_wp2
        repeat (go_quiet (fail); try go_wp2)
        go_ret
        exact ⟨z15_, z17_⟩
      ·rw [if_neg c6] at H
       exact absurd H (by simp)
     ·rw [if_neg c5] at H
      exact absurd H (by simp)
    ·rw [if_neg c4] at H
     have c4b0 : decide (x5_1 < (l0.length : Int)) = false := decide_eq_false c4
     clear c4
     obtain rfl := Option.some.inj H
     go_wp2
     repeat (go_quiet (fail); try go_wp2)
     go_ret
     exact ⟨z15_, z17_⟩
 ·rw [if_neg c3] at H
  have c3b0 : ((l0.length : Int) == (l1.length : Int)) = false := beq_eq_false_iff_ne.mpr c3
  have c3b1 : ((l0.length : Int) != (l1.length : Int)) = true := bne_iff_ne.mpr c3
  have c3b2 : (l0.length == l1.length) = false := by first | simpa using c3 | (simp at c3 ⊢; omega)
  obtain rfl := Option.some.inj H
  go_enter Tryd.func36, Tryd.ntmps36
  go_wp2
  repeat (go_quiet (fail); try go_wp2)
  go_ret
  exact ⟨z15_, z17_⟩

/-! ### pursuivantref04_Upper: function 65 -/
/-! ### pursuivantref10_among: function 66 -/
def pursuivantref10_among.l0 : Nat → ByteArray → List ByteArray → Int → Option (Bool)
 | 0, _, _, _ => none
 | k + 1, x0, x1, x5 => if x5 < (x1.length : Int) then (if 0 ≤ x5 then (if (rdOf ByteArray.empty x1 x5).toList = x0.toList then (some true) else (pursuivantref10_among.l0 k x0 x1 (wrap64 (x5 + 1)))) else (none)) else (some false)
def pursuivantref10_among.f (k : Nat) (a0 : ByteArray) (l1 : List ByteArray) : Option (Bool) := pursuivantref10_among.l0 k a0 l1 0
set_option maxHeartbeats 8000000 in
set_option maxRecDepth 100000 in
theorem pursuivantref10_among.calls (k : Nat) (a0 : ByteArray) (A1 : Option Addr) (c1 : Nat) (l1 : List ByteArray) (r : Bool) (w : World) (hG_ : GW w) (hr1 : Kd.C Kd.string w A1 l1.length l1) (hc1 : l1.length ≤ c1) (h : pursuivantref10_among.f k a0 l1 = some r) :
  Calls Tryd.prog 66 #[.string a0, .slice A1 l1.length c1] w fun e w' => e = .returned (.bool r) ∧ Drawn0 w w' := by
 have HR1 := Aside0.mk hr1
 have HC1 := Aside0.mk hc1
 clear hr1 hc1
 have H : (pursuivantref10_among.l0 k a0 l1 0) = some r := h
 clear h
 have H' := Aside0.mk H
 clear H
 go_enter Tryd.func66, Tryd.ntmps66
 go_wp2
 go_loopg [5] k (fun kq v5 w' => ∃ (x5_1 : Int), v5 = .int .i64 x5_1 ∧ Aside0 (pursuivantref10_among.l0 kq a0 l1 x5_1 = some r) ∧ Aside0 (kq ≤ k) ∧ Drawn0 w w')
 case atStart => exact ⟨(0), z15_, H', ⟨Nat.le_refl _⟩, z17_⟩
 case round =>
  clear H'
  try clear c1
  try clear p2
  obtain ⟨x5_1, rfl, HA, HK1, ⟨m1, rfl⟩⟩ := hrel
  cases gk with
  | zero => exact absurd HA.out (by simp [pursuivantref10_among.l0])
  | succ k1 =>
   have H := HA.out
   clear HA
   simp only [pursuivantref10_among.l0] at H
   by_cases c3 : x5_1 < (l1.length : Int)
   ·rw [if_pos c3] at H
    have c3b0 : decide (x5_1 < (l1.length : Int)) = true := decide_eq_true c3
    clear c3
    by_cases c4 : 0 ≤ x5_1
    ·rw [if_pos c4] at H
     have c4b0 : decide (0 ≤ x5_1) = true := decide_eq_true c4
     clear c4
     by_cases c5 : (rdOf ByteArray.empty l1 x5_1).toList = a0.toList
     ·rw [if_pos c5] at H
      have c5b0 : ((rdOf ByteArray.empty l1 x5_1).toList == a0.toList) = true := beq_iff_eq.mpr c5
      have c5b1 : ((rdOf ByteArray.empty l1 x5_1).toList != a0.toList) = false := bne_eq_false_iff_eq.mpr c5
      clear c5
      obtain rfl := Option.some.inj H
      have p141 : 0 ≤ (x5_1 : Int) := of_decide_eq_true z19_
      have q141 : x5_1 < (l1.length : Int) := of_decide_eq_true z19_
      obtain ⟨ad141, e141, hx141_0⟩ := Kd.at_string HR1.out x5_1 p141 q141
      cases e141
      replace p141 := eq_true p141
      replace q141 := eq_true q141
      go_wp2
      go_ret
      exact ⟨z15_, z17_⟩
     ·rw [if_neg c5] at H
      have c5b0 : ((rdOf ByteArray.empty l1 x5_1).toList == a0.toList) = false := beq_eq_false_iff_ne.mpr c5
      have c5b1 : ((rdOf ByteArray.empty l1 x5_1).toList != a0.toList) = true := bne_iff_ne.mpr c5
      have H' := Aside0.mk H
      clear H
      have p141 : 0 ≤ (x5_1 : Int) := of_decide_eq_true z19_
      have q141 : x5_1 < (l1.length : Int) := of_decide_eq_true z19_
      obtain ⟨ad141, e141, hx141_0⟩ := Kd.at_string HR1.out x5_1 p141 q141
      cases e141
      replace p141 := eq_true p141
      replace q141 := eq_true q141
      go_wp2
      go_roundg k1
      case measure => have := HK1.out; omega
      case rel => exact ⟨(wrap64 (x5_1 + 1)), z15_, H', ⟨z22_⟩, z17_⟩
    ·rw [if_neg c4] at H
     exact absurd H (by simp)
   ·rw [if_neg c3] at H
    have c3b0 : decide (x5_1 < (l1.length : Int)) = false := decide_eq_false c3
    clear c3
    obtain rfl := Option.some.inj H
    go_wp2
    go_ret
    exact ⟨z15_, z17_⟩

end Go.Proofs.YtindkgcbglonhaaDoor.Hand
