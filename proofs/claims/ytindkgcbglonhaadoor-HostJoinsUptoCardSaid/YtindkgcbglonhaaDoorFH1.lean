/- What each Go function here computes, and that its call computes it, over contracts proved by hand (written by this project's xprint.py, which drives the kit's print). -/
import Derived.Test.YtindkgcbglonhaaDoorZ
import Derived.Test.YtindkgcbglonhaaDoorK
import Derived.Test.YtindkgcbglonhaaDoorHostG
import Derived.Test.YtindkgcbglonhaaDoorHostP
import Derived.Test.YtindkgcbglonhaaDoorFA1
namespace Go.Proofs.YtindkgcbglonhaaDoor.Hand
open Go.RowKit Go.Proofs.YtindkgcbglonhaaDoorW.PrintWords Go.Proofs.YtindkgcbglonhaaDoorW.PrintLast Go.Proofs.YtindkgcbglonhaaDoorW.PrintMore
attribute [local go_sem] max2_int min2_int max_two min_two max_three min_three max_four min_four   -- for this text's walks alone
set_option linter.unusedVariables false
set_option linter.unusedSimpArgs false

/-! ### host_Under: function 18 -/
def host_Under.f (k : Nat) (a0 : ByteArray) (a1 : ByteArray) : Option (Bool) := (host_Good.f k a0).bind fun t101 => (if t101 = true then ((host_Good.f k a1).bind fun t102 => (if t102 = true then (if 1 + a1.size ≤ 9223372036854775807 then ((strings_HasSuffix.f a0 ((⟨#[46]⟩ : ByteArray) ++ a1)).bind fun t103 => (some t103)) else (none)) else (some false))) else (some false))
theorem host_Under.mono : ∀ a0 a1 k, LeO (host_Under.f k a0 a1) (host_Under.f (k + 1) a0 a1) := by
 intro a0 a1 k
 unfold host_Under.f
 repeat' first
   | (with_reducible exact host_Good.mono _ _)
   | (with_reducible exact LeO.refl _)
   | (with_reducible exact LeO.none _)
   | (with_reducible refine LeO.ite ?_ ?_)
   | (with_reducible refine LeO.bind ?_ (fun _ => ?_))
   | exact host_Good.mono _ _
   | exact LeO.none _
   | refine LeO.ite ?_ ?_
   | refine LeO.bind ?_ (fun _ => ?_)
set_option maxHeartbeats 8000000 in
set_option maxRecDepth 100000 in
theorem host_Under.calls (k : Nat) (a0 : ByteArray) (a1 : ByteArray) (r : Bool) (w : World) (hG_ : GW w) (h : host_Under.f k a0 a1 = some r) :
  Calls Tryd.prog 18 #[.string a0, .string a1] w fun e w' => e = .returned (.bool r) ∧ Below w.heap.size w w' := by
 have HB := Aside0.mk (Below.refl w.heap.size w)
 have H : ((host_Good.f k a0).bind fun t101 => (if t101 = true then ((host_Good.f k a1).bind fun t102 => (if t102 = true then (if 1 + a1.size ≤ 9223372036854775807 then ((strings_HasSuffix.f a0 ((⟨#[46]⟩ : ByteArray) ++ a1)).bind fun t103 => (some t103)) else (none)) else (some false))) else (some false))) = some r := h
 clear h
 replace H := Option.bind_eq_some_iff.mp H
 obtain ⟨t101, A30, H⟩ := H
 replace H : (if t101 = true then ((host_Good.f k a1).bind fun t102 => (if t102 = true then (if 1 + a1.size ≤ 9223372036854775807 then ((strings_HasSuffix.f a0 ((⟨#[46]⟩ : ByteArray) ++ a1)).bind fun t103 => (some t103)) else (none)) else (some false))) else (some false)) = some r := H
 have A3 := Aside0.mk A30
 clear A30
 by_cases c4 : t101 = true
 ·subst c4
  have H1 : ((host_Good.f k a1).bind fun t102 => (if t102 = true then (if 1 + a1.size ≤ 9223372036854775807 then ((strings_HasSuffix.f a0 ((⟨#[46]⟩ : ByteArray) ++ a1)).bind fun t103 => (some t103)) else (none)) else (some false))) = some r := by rw [if_pos rfl] at H; exact H
  clear H
  have H := H1
  clear H1
  replace H := Option.bind_eq_some_iff.mp H
  obtain ⟨t102, A50, H⟩ := H
  replace H : (if t102 = true then (if 1 + a1.size ≤ 9223372036854775807 then ((strings_HasSuffix.f a0 ((⟨#[46]⟩ : ByteArray) ++ a1)).bind fun t103 => (some t103)) else (none)) else (some false)) = some r := H
  have A5 := Aside0.mk A50
  clear A50
  by_cases c6 : t102 = true
  ·subst c6
   have H1 : (if 1 + a1.size ≤ 9223372036854775807 then ((strings_HasSuffix.f a0 ((⟨#[46]⟩ : ByteArray) ++ a1)).bind fun t103 => (some t103)) else (none)) = some r := by rw [if_pos rfl] at H; exact H
   clear H
   have H := H1
   clear H1
   by_cases c7 : 1 + a1.size ≤ 9223372036854775807
   ·rw [if_pos c7] at H
    have c7b0 := eq_true c7
    have c7b1 : decide (1 + a1.size ≤ 9223372036854775807) = true := decide_eq_true c7
    try have c7b2 : (9223372036854775807 < 1 + a1.size) = False := eq_false (Nat.not_lt.2 c7)
    try have c7c0 : (9223372036854775807 ≤ a1.size) = False := eq_false (by omega)
    try have c7c1 : (a1.size < 9223372036854775807) = True := eq_true (by omega)
    replace H := Option.bind_eq_some_iff.mp H
    obtain ⟨t103, A80, H⟩ := H
    replace H : (some t103) = some r := H
    have A8 := Aside0.mk A80
    clear A80
    obtain rfl := Option.some.inj H
    go_enter Tryd.func18, Tryd.ntmps18
    go_wp2_with (first | ((with_reducible refine gate_callee (f := 16) rfl ?_); refine goesL_ (some 6) rfl rfl Tryd.func16 (by kernel_rfl) rfl #[.string a0] rfl z0_ ?_; (with_reducible refine (host_Good.calls k a0 true _ ?gw1_ A3.out).mono ?_); (case gw1_ => first | exact hG_ | (refine GW.below hG_ ?_; first | (with_reducible exact HB.out) | (repeat (first | (with_reducible first | exact HB.out | apply below_alloc | apply pw_below_drewN | apply below_drew1 | apply below_drew | exact Below.refl _ _) | exact HB.out))) | (apply GW.drewN; exact hG_) | (apply GW.drew; exact hG_)); rintro e w9 ⟨rfl, hb⟩; refine ⟨_, rfl, ?_⟩; have n0_ := Aside0.mk (below_step z1_ hb); clear HB; have HB := n0_; clear n0_; (try clear hb); (try clear hb2); (try clear hk); (try clear hi)) | (go_at_call 16; (fail_if_success (have z_ := U_1)); have U_1 := trivial; (with_reducible refine (host_Good.calls k a1 true _ ?gw2_ A5.out).mono ?_); (case gw2_ => first | exact hG_ | (refine GW.below hG_ ?_; first | (with_reducible exact HB.out) | (repeat (first | (with_reducible first | exact HB.out | apply below_alloc | apply pw_below_drewN | apply below_drew1 | apply below_drew | exact Below.refl _ _) | exact HB.out))) | (apply GW.drewN; exact hG_) | (apply GW.drew; exact hG_)); rintro e w10 ⟨rfl, hb⟩; have n0_ := Aside0.mk (below_step z1_ hb); clear HB; have HB := n0_; clear n0_; (try clear hb); (try clear hb2); (try clear hk); (try clear hi)) | (go_at_call 61; (fail_if_success (have z_ := U_2)); have U_2 := trivial; (with_reducible refine (strings_HasSuffix.calls a0 ((⟨#[46]⟩ : ByteArray) ++ a1) t103 _ ?gw3_ A8.out).mono ?_); (case gw3_ => first | exact hG_ | (refine GW.below hG_ ?_; first | (with_reducible exact HB.out) | (repeat (first | (with_reducible first | exact HB.out | apply below_alloc | apply pw_below_drewN | apply below_drew1 | apply below_drew | exact Below.refl _ _) | exact HB.out))) | (apply GW.drewN; exact hG_) | (apply GW.drew; exact hG_)); rintro e w' ⟨rfl, ⟨nd, rfl⟩⟩))
    go_ret
    exact ⟨z2_, z1_⟩
   ·rw [if_neg c7] at H
    exact absurd H (by simp)
  ·replace c6 := Bool.eq_false_iff.mpr c6
   subst c6
   have H1 : (some false) = some r := by rw [if_neg (show ¬ (false = true) by decide)] at H; exact H
   clear H
   have H := H1
   clear H1
   obtain rfl := Option.some.inj H
   go_enter Tryd.func18, Tryd.ntmps18
   go_wp2_with (first | ((with_reducible refine gate_callee (f := 16) rfl ?_); refine goesL_ (some 6) rfl rfl Tryd.func16 (by kernel_rfl) rfl #[.string a0] rfl z0_ ?_; (with_reducible refine (host_Good.calls k a0 true _ ?gw4_ A3.out).mono ?_); (case gw4_ => first | exact hG_ | (refine GW.below hG_ ?_; first | (with_reducible exact HB.out) | (repeat (first | (with_reducible first | exact HB.out | apply below_alloc | apply pw_below_drewN | apply below_drew1 | apply below_drew | exact Below.refl _ _) | exact HB.out))) | (apply GW.drewN; exact hG_) | (apply GW.drew; exact hG_)); rintro e w11 ⟨rfl, hb⟩; refine ⟨_, rfl, ?_⟩; have n0_ := Aside0.mk (below_step z1_ hb); clear HB; have HB := n0_; clear n0_; (try clear hb); (try clear hb2); (try clear hk); (try clear hi)) | (go_at_call 16; (fail_if_success (have z_ := U_3)); have U_3 := trivial; (with_reducible refine (host_Good.calls k a1 false _ ?gw5_ A5.out).mono ?_); (case gw5_ => first | exact hG_ | (refine GW.below hG_ ?_; first | (with_reducible exact HB.out) | (repeat (first | (with_reducible first | exact HB.out | apply below_alloc | apply pw_below_drewN | apply below_drew1 | apply below_drew | exact Below.refl _ _) | exact HB.out))) | (apply GW.drewN; exact hG_) | (apply GW.drew; exact hG_)); rintro e w12 ⟨rfl, hb⟩; have n0_ := Aside0.mk (below_step z1_ hb); clear HB; have HB := n0_; clear n0_; (try clear hb); (try clear hb2); (try clear hk); (try clear hi)))
   go_ret
   exact ⟨z2_, z1_⟩
 ·replace c4 := Bool.eq_false_iff.mpr c4
  subst c4
  have H1 : (some false) = some r := by rw [if_neg (show ¬ (false = true) by decide)] at H; exact H
  clear H
  have H := H1
  clear H1
  obtain rfl := Option.some.inj H
  go_enter Tryd.func18, Tryd.ntmps18
  go_wp2_with (first | ((with_reducible refine gate_callee (f := 16) rfl ?_); refine goesL_ (some 6) rfl rfl Tryd.func16 (by kernel_rfl) rfl #[.string a0] rfl z0_ ?_; (with_reducible refine (host_Good.calls k a0 false _ ?gw6_ A3.out).mono ?_); (case gw6_ => first | exact hG_ | (refine GW.below hG_ ?_; first | (with_reducible exact HB.out) | (repeat (first | (with_reducible first | exact HB.out | apply below_alloc | apply pw_below_drewN | apply below_drew1 | apply below_drew | exact Below.refl _ _) | exact HB.out))) | (apply GW.drewN; exact hG_) | (apply GW.drew; exact hG_)); rintro e w13 ⟨rfl, hb⟩; refine ⟨_, rfl, ?_⟩; have n0_ := Aside0.mk (below_step z1_ hb); clear HB; have HB := n0_; clear n0_; (try clear hb); (try clear hb2); (try clear hk); (try clear hi)))
  go_ret
  exact ⟨z2_, z1_⟩

/-! ### pursuivantlaw05_awake: function 15 -/
def pursuivantlaw05_awake.f (k : Nat)  : Option (Bool) := (host_Port.f (⟨#[56, 48, 56, 48]⟩ : ByteArray)).bind fun bt104 => ((host_Port.f (⟨#[48, 56, 48]⟩ : ByteArray)).bind fun bt106 => ((host_Good.f k (⟨#[97, 46, 101, 120, 97, 109, 112, 108, 101]⟩ : ByteArray)).bind fun t108 => (if t108 = true then ((host_Good.f k (⟨#[97, 46, 46, 98]⟩ : ByteArray)).bind fun t109 => (if t109 = true then (some false) else ((host_Good.f k (⟨#[45, 97]⟩ : ByteArray)).bind fun t110 => (if t110 = true then (some false) else ((host_Under.f k (⟨#[97, 46, 101, 120, 97, 109, 112, 108, 101]⟩ : ByteArray) (⟨#[101, 120, 97, 109, 112, 108, 101]⟩ : ByteArray)).bind fun t111 => (if t111 = true then ((host_Under.f k (⟨#[98, 97, 100, 101, 120, 97, 109, 112, 108, 101]⟩ : ByteArray) (⟨#[101, 120, 97, 109, 112, 108, 101]⟩ : ByteArray)).bind fun t112 => (if t112 = true then (some false) else (if bt104.1 = 8080 then (if bt104.2 = true then (if bt106.2 = true then (some false) else ((host_Default.f (⟨#[104, 116, 116, 112, 115]⟩ : ByteArray)).bind fun t113 => (some (t113 == 443)))) else (some false)) else (some false)))) else (some false))))))) else (some false))))
theorem pursuivantlaw05_awake.mono : ∀ k, LeO (pursuivantlaw05_awake.f k ) (pursuivantlaw05_awake.f (k + 1) ) := by
 intro  k
 unfold pursuivantlaw05_awake.f
 repeat' first
   | (with_reducible exact host_Good.mono _ _)
   | (with_reducible exact host_Under.mono _ _ _)
   | (with_reducible exact LeO.refl _)
   | (with_reducible exact LeO.none _)
   | (with_reducible refine LeO.ite ?_ ?_)
   | (with_reducible refine LeO.bind ?_ (fun _ => ?_))
   | exact host_Good.mono _ _
   | exact host_Under.mono _ _ _
   | exact LeO.none _
   | refine LeO.ite ?_ ?_
   | refine LeO.bind ?_ (fun _ => ?_)
set_option maxHeartbeats 8000000 in
set_option maxRecDepth 100000 in
theorem pursuivantlaw05_awake.calls (k : Nat)  (r : Bool) (w : World) (hG_ : GW w) (h : pursuivantlaw05_awake.f k  = some r) (hr_ : r = true) :
  Calls Tryd.prog 15 #[] w fun e w' => e = .returned (.bool r) ∧ Below w.heap.size w w' := by
 have HB := Aside0.mk (Below.refl w.heap.size w)
 have H : ((host_Port.f (⟨#[56, 48, 56, 48]⟩ : ByteArray)).bind fun bt104 => ((host_Port.f (⟨#[48, 56, 48]⟩ : ByteArray)).bind fun bt106 => ((host_Good.f k (⟨#[97, 46, 101, 120, 97, 109, 112, 108, 101]⟩ : ByteArray)).bind fun t108 => (if t108 = true then ((host_Good.f k (⟨#[97, 46, 46, 98]⟩ : ByteArray)).bind fun t109 => (if t109 = true then (some false) else ((host_Good.f k (⟨#[45, 97]⟩ : ByteArray)).bind fun t110 => (if t110 = true then (some false) else ((host_Under.f k (⟨#[97, 46, 101, 120, 97, 109, 112, 108, 101]⟩ : ByteArray) (⟨#[101, 120, 97, 109, 112, 108, 101]⟩ : ByteArray)).bind fun t111 => (if t111 = true then ((host_Under.f k (⟨#[98, 97, 100, 101, 120, 97, 109, 112, 108, 101]⟩ : ByteArray) (⟨#[101, 120, 97, 109, 112, 108, 101]⟩ : ByteArray)).bind fun t112 => (if t112 = true then (some false) else (if bt104.1 = 8080 then (if bt104.2 = true then (if bt106.2 = true then (some false) else ((host_Default.f (⟨#[104, 116, 116, 112, 115]⟩ : ByteArray)).bind fun t113 => (some (t113 == 443)))) else (some false)) else (some false)))) else (some false))))))) else (some false))))) = some r := h
 clear h
 replace H := Option.bind_eq_some_iff.mp H
 obtain ⟨⟨t104, t105⟩, A10, H⟩ := H
 replace H : ((host_Port.f (⟨#[48, 56, 48]⟩ : ByteArray)).bind fun bt106 => ((host_Good.f k (⟨#[97, 46, 101, 120, 97, 109, 112, 108, 101]⟩ : ByteArray)).bind fun t108 => (if t108 = true then ((host_Good.f k (⟨#[97, 46, 46, 98]⟩ : ByteArray)).bind fun t109 => (if t109 = true then (some false) else ((host_Good.f k (⟨#[45, 97]⟩ : ByteArray)).bind fun t110 => (if t110 = true then (some false) else ((host_Under.f k (⟨#[97, 46, 101, 120, 97, 109, 112, 108, 101]⟩ : ByteArray) (⟨#[101, 120, 97, 109, 112, 108, 101]⟩ : ByteArray)).bind fun t111 => (if t111 = true then ((host_Under.f k (⟨#[98, 97, 100, 101, 120, 97, 109, 112, 108, 101]⟩ : ByteArray) (⟨#[101, 120, 97, 109, 112, 108, 101]⟩ : ByteArray)).bind fun t112 => (if t112 = true then (some false) else (if t104 = 8080 then (if t105 = true then (if bt106.2 = true then (some false) else ((host_Default.f (⟨#[104, 116, 116, 112, 115]⟩ : ByteArray)).bind fun t113 => (some (t113 == 443)))) else (some false)) else (some false)))) else (some false))))))) else (some false)))) = some r := H
 have A1 := Aside0.mk A10
 clear A10
 replace H := Option.bind_eq_some_iff.mp H
 obtain ⟨⟨t106, t107⟩, A20, H⟩ := H
 replace H : ((host_Good.f k (⟨#[97, 46, 101, 120, 97, 109, 112, 108, 101]⟩ : ByteArray)).bind fun t108 => (if t108 = true then ((host_Good.f k (⟨#[97, 46, 46, 98]⟩ : ByteArray)).bind fun t109 => (if t109 = true then (some false) else ((host_Good.f k (⟨#[45, 97]⟩ : ByteArray)).bind fun t110 => (if t110 = true then (some false) else ((host_Under.f k (⟨#[97, 46, 101, 120, 97, 109, 112, 108, 101]⟩ : ByteArray) (⟨#[101, 120, 97, 109, 112, 108, 101]⟩ : ByteArray)).bind fun t111 => (if t111 = true then ((host_Under.f k (⟨#[98, 97, 100, 101, 120, 97, 109, 112, 108, 101]⟩ : ByteArray) (⟨#[101, 120, 97, 109, 112, 108, 101]⟩ : ByteArray)).bind fun t112 => (if t112 = true then (some false) else (if t104 = 8080 then (if t105 = true then (if t107 = true then (some false) else ((host_Default.f (⟨#[104, 116, 116, 112, 115]⟩ : ByteArray)).bind fun t113 => (some (t113 == 443)))) else (some false)) else (some false)))) else (some false))))))) else (some false))) = some r := H
 have A2 := Aside0.mk A20
 clear A20
 replace H := Option.bind_eq_some_iff.mp H
 obtain ⟨t108, A30, H⟩ := H
 replace H : (if t108 = true then ((host_Good.f k (⟨#[97, 46, 46, 98]⟩ : ByteArray)).bind fun t109 => (if t109 = true then (some false) else ((host_Good.f k (⟨#[45, 97]⟩ : ByteArray)).bind fun t110 => (if t110 = true then (some false) else ((host_Under.f k (⟨#[97, 46, 101, 120, 97, 109, 112, 108, 101]⟩ : ByteArray) (⟨#[101, 120, 97, 109, 112, 108, 101]⟩ : ByteArray)).bind fun t111 => (if t111 = true then ((host_Under.f k (⟨#[98, 97, 100, 101, 120, 97, 109, 112, 108, 101]⟩ : ByteArray) (⟨#[101, 120, 97, 109, 112, 108, 101]⟩ : ByteArray)).bind fun t112 => (if t112 = true then (some false) else (if t104 = 8080 then (if t105 = true then (if t107 = true then (some false) else ((host_Default.f (⟨#[104, 116, 116, 112, 115]⟩ : ByteArray)).bind fun t113 => (some (t113 == 443)))) else (some false)) else (some false)))) else (some false))))))) else (some false)) = some r := H
 have A3 := Aside0.mk A30
 clear A30
 by_cases c4 : t108 = true
 ·subst c4
  have H1 : ((host_Good.f k (⟨#[97, 46, 46, 98]⟩ : ByteArray)).bind fun t109 => (if t109 = true then (some false) else ((host_Good.f k (⟨#[45, 97]⟩ : ByteArray)).bind fun t110 => (if t110 = true then (some false) else ((host_Under.f k (⟨#[97, 46, 101, 120, 97, 109, 112, 108, 101]⟩ : ByteArray) (⟨#[101, 120, 97, 109, 112, 108, 101]⟩ : ByteArray)).bind fun t111 => (if t111 = true then ((host_Under.f k (⟨#[98, 97, 100, 101, 120, 97, 109, 112, 108, 101]⟩ : ByteArray) (⟨#[101, 120, 97, 109, 112, 108, 101]⟩ : ByteArray)).bind fun t112 => (if t112 = true then (some false) else (if t104 = 8080 then (if t105 = true then (if t107 = true then (some false) else ((host_Default.f (⟨#[104, 116, 116, 112, 115]⟩ : ByteArray)).bind fun t113 => (some (t113 == 443)))) else (some false)) else (some false)))) else (some false))))))) = some r := by rw [if_pos rfl] at H; exact H
  clear H
  have H := H1
  clear H1
  replace H := Option.bind_eq_some_iff.mp H
  obtain ⟨t109, A50, H⟩ := H
  replace H : (if t109 = true then (some false) else ((host_Good.f k (⟨#[45, 97]⟩ : ByteArray)).bind fun t110 => (if t110 = true then (some false) else ((host_Under.f k (⟨#[97, 46, 101, 120, 97, 109, 112, 108, 101]⟩ : ByteArray) (⟨#[101, 120, 97, 109, 112, 108, 101]⟩ : ByteArray)).bind fun t111 => (if t111 = true then ((host_Under.f k (⟨#[98, 97, 100, 101, 120, 97, 109, 112, 108, 101]⟩ : ByteArray) (⟨#[101, 120, 97, 109, 112, 108, 101]⟩ : ByteArray)).bind fun t112 => (if t112 = true then (some false) else (if t104 = 8080 then (if t105 = true then (if t107 = true then (some false) else ((host_Default.f (⟨#[104, 116, 116, 112, 115]⟩ : ByteArray)).bind fun t113 => (some (t113 == 443)))) else (some false)) else (some false)))) else (some false)))))) = some r := H
  have A5 := Aside0.mk A50
  clear A50
  by_cases c6 : t109 = true
  ·subst c6
   have H1 : (some false) = some r := by rw [if_pos rfl] at H; exact H
   clear H
   have H := H1
   clear H1
   exact absurd ((Option.some.inj H).trans hr_) Bool.false_ne_true
  ·replace c6 := Bool.eq_false_iff.mpr c6
   subst c6
   have H1 : ((host_Good.f k (⟨#[45, 97]⟩ : ByteArray)).bind fun t110 => (if t110 = true then (some false) else ((host_Under.f k (⟨#[97, 46, 101, 120, 97, 109, 112, 108, 101]⟩ : ByteArray) (⟨#[101, 120, 97, 109, 112, 108, 101]⟩ : ByteArray)).bind fun t111 => (if t111 = true then ((host_Under.f k (⟨#[98, 97, 100, 101, 120, 97, 109, 112, 108, 101]⟩ : ByteArray) (⟨#[101, 120, 97, 109, 112, 108, 101]⟩ : ByteArray)).bind fun t112 => (if t112 = true then (some false) else (if t104 = 8080 then (if t105 = true then (if t107 = true then (some false) else ((host_Default.f (⟨#[104, 116, 116, 112, 115]⟩ : ByteArray)).bind fun t113 => (some (t113 == 443)))) else (some false)) else (some false)))) else (some false))))) = some r := by rw [if_neg (show ¬ (false = true) by decide)] at H; exact H
   clear H
   have H := H1
   clear H1
   replace H := Option.bind_eq_some_iff.mp H
   obtain ⟨t110, A70, H⟩ := H
   replace H : (if t110 = true then (some false) else ((host_Under.f k (⟨#[97, 46, 101, 120, 97, 109, 112, 108, 101]⟩ : ByteArray) (⟨#[101, 120, 97, 109, 112, 108, 101]⟩ : ByteArray)).bind fun t111 => (if t111 = true then ((host_Under.f k (⟨#[98, 97, 100, 101, 120, 97, 109, 112, 108, 101]⟩ : ByteArray) (⟨#[101, 120, 97, 109, 112, 108, 101]⟩ : ByteArray)).bind fun t112 => (if t112 = true then (some false) else (if t104 = 8080 then (if t105 = true then (if t107 = true then (some false) else ((host_Default.f (⟨#[104, 116, 116, 112, 115]⟩ : ByteArray)).bind fun t113 => (some (t113 == 443)))) else (some false)) else (some false)))) else (some false)))) = some r := H
   have A7 := Aside0.mk A70
   clear A70
   by_cases c8 : t110 = true
   ·subst c8
    have H1 : (some false) = some r := by rw [if_pos rfl] at H; exact H
    clear H
    have H := H1
    clear H1
    exact absurd ((Option.some.inj H).trans hr_) Bool.false_ne_true
   ·replace c8 := Bool.eq_false_iff.mpr c8
    subst c8
    have H1 : ((host_Under.f k (⟨#[97, 46, 101, 120, 97, 109, 112, 108, 101]⟩ : ByteArray) (⟨#[101, 120, 97, 109, 112, 108, 101]⟩ : ByteArray)).bind fun t111 => (if t111 = true then ((host_Under.f k (⟨#[98, 97, 100, 101, 120, 97, 109, 112, 108, 101]⟩ : ByteArray) (⟨#[101, 120, 97, 109, 112, 108, 101]⟩ : ByteArray)).bind fun t112 => (if t112 = true then (some false) else (if t104 = 8080 then (if t105 = true then (if t107 = true then (some false) else ((host_Default.f (⟨#[104, 116, 116, 112, 115]⟩ : ByteArray)).bind fun t113 => (some (t113 == 443)))) else (some false)) else (some false)))) else (some false))) = some r := by rw [if_neg (show ¬ (false = true) by decide)] at H; exact H
    clear H
    have H := H1
    clear H1
    replace H := Option.bind_eq_some_iff.mp H
    obtain ⟨t111, A90, H⟩ := H
    replace H : (if t111 = true then ((host_Under.f k (⟨#[98, 97, 100, 101, 120, 97, 109, 112, 108, 101]⟩ : ByteArray) (⟨#[101, 120, 97, 109, 112, 108, 101]⟩ : ByteArray)).bind fun t112 => (if t112 = true then (some false) else (if t104 = 8080 then (if t105 = true then (if t107 = true then (some false) else ((host_Default.f (⟨#[104, 116, 116, 112, 115]⟩ : ByteArray)).bind fun t113 => (some (t113 == 443)))) else (some false)) else (some false)))) else (some false)) = some r := H
    have A9 := Aside0.mk A90
    clear A90
    by_cases c10 : t111 = true
    ·subst c10
     have H1 : ((host_Under.f k (⟨#[98, 97, 100, 101, 120, 97, 109, 112, 108, 101]⟩ : ByteArray) (⟨#[101, 120, 97, 109, 112, 108, 101]⟩ : ByteArray)).bind fun t112 => (if t112 = true then (some false) else (if t104 = 8080 then (if t105 = true then (if t107 = true then (some false) else ((host_Default.f (⟨#[104, 116, 116, 112, 115]⟩ : ByteArray)).bind fun t113 => (some (t113 == 443)))) else (some false)) else (some false)))) = some r := by rw [if_pos rfl] at H; exact H
     clear H
     have H := H1
     clear H1
     replace H := Option.bind_eq_some_iff.mp H
     obtain ⟨t112, A110, H⟩ := H
     replace H : (if t112 = true then (some false) else (if t104 = 8080 then (if t105 = true then (if t107 = true then (some false) else ((host_Default.f (⟨#[104, 116, 116, 112, 115]⟩ : ByteArray)).bind fun t113 => (some (t113 == 443)))) else (some false)) else (some false))) = some r := H
     have A11 := Aside0.mk A110
     clear A110
     by_cases c12 : t112 = true
     ·subst c12
      have H1 : (some false) = some r := by rw [if_pos rfl] at H; exact H
      clear H
      have H := H1
      clear H1
      exact absurd ((Option.some.inj H).trans hr_) Bool.false_ne_true
     ·replace c12 := Bool.eq_false_iff.mpr c12
      subst c12
      have H1 : (if t104 = 8080 then (if t105 = true then (if t107 = true then (some false) else ((host_Default.f (⟨#[104, 116, 116, 112, 115]⟩ : ByteArray)).bind fun t113 => (some (t113 == 443)))) else (some false)) else (some false)) = some r := by rw [if_neg (show ¬ (false = true) by decide)] at H; exact H
      clear H
      have H := H1
      clear H1
      by_cases c13 : t104 = 8080
      ·rw [if_pos c13] at H
       have c13b0 : (t104 == 8080) = true := beq_iff_eq.mpr c13
       have c13b1 : (t104 != 8080) = false := bne_eq_false_iff_eq.mpr c13
       clear c13
       by_cases c14 : t105 = true
       ·subst c14
        have H1 : (if t107 = true then (some false) else ((host_Default.f (⟨#[104, 116, 116, 112, 115]⟩ : ByteArray)).bind fun t113 => (some (t113 == 443)))) = some r := by rw [if_pos rfl] at H; exact H
        clear H
        have H := H1
        clear H1
        by_cases c15 : t107 = true
        ·subst c15
         have H1 : (some false) = some r := by rw [if_pos rfl] at H; exact H
         clear H
         have H := H1
         clear H1
         exact absurd ((Option.some.inj H).trans hr_) Bool.false_ne_true
        ·replace c15 := Bool.eq_false_iff.mpr c15
         subst c15
         have H1 : ((host_Default.f (⟨#[104, 116, 116, 112, 115]⟩ : ByteArray)).bind fun t113 => (some (t113 == 443))) = some r := by rw [if_neg (show ¬ (false = true) by decide)] at H; exact H
         clear H
         have H := H1
         clear H1
         replace H := Option.bind_eq_some_iff.mp H
         obtain ⟨t113, A160, H⟩ := H
         replace H : (some (t113 == 443)) = some r := H
         have A16 := Aside0.mk A160
         clear A160
         obtain rfl := Option.some.inj H
         go_enter Tryd.func15, Tryd.ntmps15
         go_wp2_with (first | ((with_reducible refine gate_callee (f := 20) rfl ?_); refine goesL_ (some 6) rfl rfl Tryd.func20 (by kernel_rfl) rfl #[.string (⟨#[56, 48, 56, 48]⟩ : ByteArray)] rfl z0_ ?_; (with_reducible refine (host_Port.calls (⟨#[56, 48, 56, 48]⟩ : ByteArray) t104 true _ ?gw7_ A1.out).mono ?_); (case gw7_ => first | exact hG_ | (refine GW.below hG_ ?_; first | (with_reducible exact HB.out) | (repeat (first | (with_reducible first | exact HB.out | apply below_alloc | apply pw_below_drewN | apply below_drew1 | apply below_drew | exact Below.refl _ _) | exact HB.out))) | (apply GW.drewN; exact hG_) | (apply GW.drew; exact hG_)); rintro e w17 ⟨rfl, hb⟩; refine ⟨_, rfl, ?_⟩; have n0_ := Aside0.mk (below_step z1_ hb); clear HB; have HB := n0_; clear n0_; (try clear hb); (try clear hb2); (try clear hk); (try clear hi)) | ((with_reducible refine gate_callee (f := 20) rfl ?_); refine goesL_ (some 10) rfl rfl Tryd.func20 (by kernel_rfl) rfl #[.string (⟨#[48, 56, 48]⟩ : ByteArray)] rfl z0_ ?_; (with_reducible refine (host_Port.calls (⟨#[48, 56, 48]⟩ : ByteArray) t106 false _ ?gw8_ A2.out).mono ?_); (case gw8_ => first | exact hG_ | (refine GW.below hG_ ?_; first | (with_reducible exact HB.out) | (repeat (first | (with_reducible first | exact HB.out | apply below_alloc | apply pw_below_drewN | apply below_drew1 | apply below_drew | exact Below.refl _ _) | exact HB.out))) | (apply GW.drewN; exact hG_) | (apply GW.drew; exact hG_)); rintro e w18 ⟨rfl, hb⟩; refine ⟨_, rfl, ?_⟩; have n0_ := Aside0.mk (below_step z1_ hb); clear HB; have HB := n0_; clear n0_; (try clear hb); (try clear hb2); (try clear hk); (try clear hi)) | ((with_reducible refine gate_callee (f := 16) rfl ?_); refine goesL_ (some 13) rfl rfl Tryd.func16 (by kernel_rfl) rfl #[.string (⟨#[97, 46, 101, 120, 97, 109, 112, 108, 101]⟩ : ByteArray)] rfl z0_ ?_; (with_reducible refine (host_Good.calls k (⟨#[97, 46, 101, 120, 97, 109, 112, 108, 101]⟩ : ByteArray) true _ ?gw9_ A3.out).mono ?_); (case gw9_ => first | exact hG_ | (refine GW.below hG_ ?_; first | (with_reducible exact HB.out) | (repeat (first | (with_reducible first | exact HB.out | apply below_alloc | apply pw_below_drewN | apply below_drew1 | apply below_drew | exact Below.refl _ _) | exact HB.out))) | (apply GW.drewN; exact hG_) | (apply GW.drew; exact hG_)); rintro e w19 ⟨rfl, hb⟩; refine ⟨_, rfl, ?_⟩; have n0_ := Aside0.mk (below_step z1_ hb); clear HB; have HB := n0_; clear n0_; (try clear hb); (try clear hb2); (try clear hk); (try clear hi)) | (go_at_call 16; (fail_if_success (have z_ := U_4)); have U_4 := trivial; (with_reducible refine (host_Good.calls k (⟨#[97, 46, 46, 98]⟩ : ByteArray) false _ ?gw10_ A5.out).mono ?_); (case gw10_ => first | exact hG_ | (refine GW.below hG_ ?_; first | (with_reducible exact HB.out) | (repeat (first | (with_reducible first | exact HB.out | apply below_alloc | apply pw_below_drewN | apply below_drew1 | apply below_drew | exact Below.refl _ _) | exact HB.out))) | (apply GW.drewN; exact hG_) | (apply GW.drew; exact hG_)); rintro e w20 ⟨rfl, hb⟩; have n0_ := Aside0.mk (below_step z1_ hb); clear HB; have HB := n0_; clear n0_; (try clear hb); (try clear hb2); (try clear hk); (try clear hi)) | (go_at_call 16; (fail_if_success (have z_ := U_5)); have U_5 := trivial; (with_reducible refine (host_Good.calls k (⟨#[45, 97]⟩ : ByteArray) false _ ?gw11_ A7.out).mono ?_); (case gw11_ => first | exact hG_ | (refine GW.below hG_ ?_; first | (with_reducible exact HB.out) | (repeat (first | (with_reducible first | exact HB.out | apply below_alloc | apply pw_below_drewN | apply below_drew1 | apply below_drew | exact Below.refl _ _) | exact HB.out))) | (apply GW.drewN; exact hG_) | (apply GW.drew; exact hG_)); rintro e w21 ⟨rfl, hb⟩; have n0_ := Aside0.mk (below_step z1_ hb); clear HB; have HB := n0_; clear n0_; (try clear hb); (try clear hb2); (try clear hk); (try clear hi)) | (go_at_call 18; (fail_if_success (have z_ := U_6)); have U_6 := trivial; (with_reducible refine (host_Under.calls k (⟨#[97, 46, 101, 120, 97, 109, 112, 108, 101]⟩ : ByteArray) (⟨#[101, 120, 97, 109, 112, 108, 101]⟩ : ByteArray) true _ ?gw12_ A9.out).mono ?_); (case gw12_ => first | exact hG_ | (refine GW.below hG_ ?_; first | (with_reducible exact HB.out) | (repeat (first | (with_reducible first | exact HB.out | apply below_alloc | apply pw_below_drewN | apply below_drew1 | apply below_drew | exact Below.refl _ _) | exact HB.out))) | (apply GW.drewN; exact hG_) | (apply GW.drew; exact hG_)); rintro e w22 ⟨rfl, hb⟩; have n0_ := Aside0.mk (below_step z1_ hb); clear HB; have HB := n0_; clear n0_; (try clear hb); (try clear hb2); (try clear hk); (try clear hi)) | (go_at_call 18; (fail_if_success (have z_ := U_7)); have U_7 := trivial; (with_reducible refine (host_Under.calls k (⟨#[98, 97, 100, 101, 120, 97, 109, 112, 108, 101]⟩ : ByteArray) (⟨#[101, 120, 97, 109, 112, 108, 101]⟩ : ByteArray) false _ ?gw13_ A11.out).mono ?_); (case gw13_ => first | exact hG_ | (refine GW.below hG_ ?_; first | (with_reducible exact HB.out) | (repeat (first | (with_reducible first | exact HB.out | apply below_alloc | apply pw_below_drewN | apply below_drew1 | apply below_drew | exact Below.refl _ _) | exact HB.out))) | (apply GW.drewN; exact hG_) | (apply GW.drew; exact hG_)); rintro e w23 ⟨rfl, hb⟩; have n0_ := Aside0.mk (below_step z1_ hb); clear HB; have HB := n0_; clear n0_; (try clear hb); (try clear hb2); (try clear hk); (try clear hi)) | (go_at_call 22; (fail_if_success (have z_ := U_8)); have U_8 := trivial; (with_reducible refine (host_Default.calls (⟨#[104, 116, 116, 112, 115]⟩ : ByteArray) t113 _ ?gw14_ A16.out).mono ?_); (case gw14_ => first | exact hG_ | (refine GW.below hG_ ?_; first | (with_reducible exact HB.out) | (repeat (first | (with_reducible first | exact HB.out | apply below_alloc | apply pw_below_drewN | apply below_drew1 | apply below_drew | exact Below.refl _ _) | exact HB.out))) | (apply GW.drewN; exact hG_) | (apply GW.drew; exact hG_)); rintro e w' ⟨rfl, ⟨nd, rfl⟩⟩))
         go_ret
         exact ⟨z2_, z1_⟩
       ·replace c14 := Bool.eq_false_iff.mpr c14
        subst c14
        have H1 : (some false) = some r := by rw [if_neg (show ¬ (false = true) by decide)] at H; exact H
        clear H
        have H := H1
        clear H1
        exact absurd ((Option.some.inj H).trans hr_) Bool.false_ne_true
      ·rw [if_neg c13] at H
       have c13b0 : (t104 == 8080) = false := beq_eq_false_iff_ne.mpr c13
       have c13b1 : (t104 != 8080) = true := bne_iff_ne.mpr c13
       exact absurd ((Option.some.inj H).trans hr_) Bool.false_ne_true
    ·replace c10 := Bool.eq_false_iff.mpr c10
     subst c10
     have H1 : (some false) = some r := by rw [if_neg (show ¬ (false = true) by decide)] at H; exact H
     clear H
     have H := H1
     clear H1
     exact absurd ((Option.some.inj H).trans hr_) Bool.false_ne_true
 ·replace c4 := Bool.eq_false_iff.mpr c4
  subst c4
  have H1 : (some false) = some r := by rw [if_neg (show ¬ (false = true) by decide)] at H; exact H
  clear H
  have H := H1
  clear H1
  exact absurd ((Option.some.inj H).trans hr_) Bool.false_ne_true

/-! ### pursuivantlaw05_HostGoods: function 3 -/
/-! ### pursuivantlaw05_HostPorts: function 4 -/
/-! ### pursuivantlaw05_HostJoins: function 5 -/
def pursuivantlaw05_HostJoins.j0 : Nat → ByteArray → ByteArray → ByteArray → Bool → Option (Bool)
 | 0, _, _, _, _ => none
 | k + 1, x0, x1, x2, x15 => if x15 = true then ((pursuivantlaw05_awake.f k).bind fun t128 => (if t128 = true then ((host_Under.f k x0 x1).bind fun t129 => (some (!t129))) else (some false))) else (if x0.size + 1 ≤ 9223372036854775807 then (if (x0 ++ (⟨#[46]⟩ : ByteArray)).size + x1.size ≤ 9223372036854775807 then (if (((x0 ++ (⟨#[46]⟩ : ByteArray)) ++ x1).size : Int) > 253 then ((pursuivantlaw05_awake.f k).bind fun t130 => (if t130 = true then ((host_Good.f k ((x0 ++ (⟨#[46]⟩ : ByteArray)) ++ x1)).bind fun t131 => (some (!t131))) else (some false))) else ((pursuivantlaw05_awake.f k).bind fun t132 => (if t132 = true then ((host_Good.f k ((x0 ++ (⟨#[46]⟩ : ByteArray)) ++ x1)).bind fun t133 => (if t133 = true then ((host_Under.f k ((x0 ++ (⟨#[46]⟩ : ByteArray)) ++ x1) x1).bind fun t134 => (if t134 = true then ((host_Under.f k x1 ((x0 ++ (⟨#[46]⟩ : ByteArray)) ++ x1)).bind fun t135 => (if t135 = true then (some false) else ((host_Under.f k x0 x0).bind fun t136 => (if t136 = true then (some false) else ((host_Under.f k x1 x2).bind fun t137 => (if t137 = true then ((host_Under.f k ((x0 ++ (⟨#[46]⟩ : ByteArray)) ++ x1) x2).bind fun t138 => (some t138)) else (some true))))))) else (some false))) else (some false))) else (some false)))) else (none)) else (none))
def pursuivantlaw05_HostJoins.f (k : Nat) (a0 : ByteArray) (a1 : ByteArray) (a2 : ByteArray) : Option (Bool) := (host_Good.f k a0).bind fun t126 => (if t126 = true then ((host_Good.f k a1).bind fun t127 => (pursuivantlaw05_HostJoins.j0 k a0 a1 a2 (!t127))) else (pursuivantlaw05_HostJoins.j0 k a0 a1 a2 true))
set_option maxHeartbeats 8000000 in
set_option maxRecDepth 100000 in
theorem pursuivantlaw05_HostJoins.calls (k : Nat) (a0 : ByteArray) (a1 : ByteArray) (a2 : ByteArray) (r : Bool) (w : World) (hG_ : GW w) (h : pursuivantlaw05_HostJoins.f k a0 a1 a2 = some r) (hr_ : r = true) :
  Calls Tryd.prog 5 #[.string a0, .string a1, .string a2] w fun e w' => e = .returned (.bool r) ∧ Below w.heap.size w w' := by
 have HB := Aside0.mk (Below.refl w.heap.size w)
 have H : ((host_Good.f k a0).bind fun t126 => (if t126 = true then ((host_Good.f k a1).bind fun t127 => (pursuivantlaw05_HostJoins.j0 k a0 a1 a2 (!t127))) else (pursuivantlaw05_HostJoins.j0 k a0 a1 a2 true))) = some r := h
 clear h
 have HC4 := Aside0.mk H
 clear H
 go_enter Tryd.func5, Tryd.ntmps5
 go_upto_region 1 with (fail)
 go_cut [15] (fun v15 wc => ∃ (kq : Nat) (x15_3 : Bool), v15 = .bool x15_3 ∧ Aside0 (pursuivantlaw05_HostJoins.j0 kq a0 a1 a2 x15_3 = some r) ∧ Aside0 (kq ≤ k) ∧ Aside0 (Below w.heap.size w wc))
 case first =>
  have H := HC4.out
  clear HC4
  replace H := Option.bind_eq_some_iff.mp H
  obtain ⟨t126, A50, H⟩ := H
  replace H : (if t126 = true then ((host_Good.f k a1).bind fun t127 => (pursuivantlaw05_HostJoins.j0 k a0 a1 a2 (!t127))) else (pursuivantlaw05_HostJoins.j0 k a0 a1 a2 true)) = some r := H
  have A5 := Aside0.mk A50
  clear A50
  by_cases c6 : t126 = true
  ·subst c6
   have H1 : ((host_Good.f k a1).bind fun t127 => (pursuivantlaw05_HostJoins.j0 k a0 a1 a2 (!t127))) = some r := by rw [if_pos rfl] at H; exact H
   clear H
   have H := H1
   clear H1
   replace H := Option.bind_eq_some_iff.mp H
   obtain ⟨t127, A70, H⟩ := H
   replace H : (pursuivantlaw05_HostJoins.j0 k a0 a1 a2 (!t127)) = some r := H
   have A7 := Aside0.mk A70
   clear A70
   have H' := Aside0.mk H
   clear H
   go_wp2_with (first | ((with_reducible refine gate_callee (f := 16) rfl ?_); refine goesL_ (some 9) rfl rfl Tryd.func16 (by kernel_rfl) rfl #[.string a0] rfl z0_ ?_; (with_reducible refine (host_Good.calls k a0 true _ ?gw25_ A5.out).mono ?_); (case gw25_ => first | exact hG_ | (refine GW.below hG_ ?_; first | (with_reducible exact HB.out) | (repeat (first | (with_reducible first | exact HB.out | apply below_alloc | apply pw_below_drewN | apply below_drew1 | apply below_drew | exact Below.refl _ _) | exact HB.out))) | (apply GW.drewN; exact hG_) | (apply GW.drew; exact hG_)); rintro e w8 ⟨rfl, hb⟩; refine ⟨_, rfl, ?_⟩; have n0_ := Aside0.mk (below_step z1_ hb); clear HB; have HB := n0_; clear n0_; (try clear hb); (try clear hb2); (try clear hk); (try clear hi)) | (go_at_call 16; (fail_if_success (have z_ := U_15)); have U_15 := trivial; (with_reducible refine (host_Good.calls k a1 t127 _ ?gw26_ A7.out).mono ?_); (case gw26_ => first | exact hG_ | (refine GW.below hG_ ?_; first | (with_reducible exact HB.out) | (repeat (first | (with_reducible first | exact HB.out | apply below_alloc | apply pw_below_drewN | apply below_drew1 | apply below_drew | exact Below.refl _ _) | exact HB.out))) | (apply GW.drewN; exact hG_) | (apply GW.drew; exact hG_)); rintro e w9 ⟨rfl, hb⟩; have n0_ := Aside0.mk (below_step z1_ hb); clear HB; have HB := n0_; clear n0_; (try clear hb); (try clear hb2); (try clear hk); (try clear hi)))
   go_meet
   case rel => exact ⟨_, (!t127), z3_, H', ⟨z7_⟩, ⟨z1_⟩⟩
  ·replace c6 := Bool.eq_false_iff.mpr c6
   subst c6
   have H1 : (pursuivantlaw05_HostJoins.j0 k a0 a1 a2 true) = some r := by rw [if_neg (show ¬ (false = true) by decide)] at H; exact H
   clear H
   have H := H1
   clear H1
   have H' := Aside0.mk H
   clear H
   go_wp2_with (first | ((with_reducible refine gate_callee (f := 16) rfl ?_); refine goesL_ (some 9) rfl rfl Tryd.func16 (by kernel_rfl) rfl #[.string a0] rfl z0_ ?_; (with_reducible refine (host_Good.calls k a0 false _ ?gw27_ A5.out).mono ?_); (case gw27_ => first | exact hG_ | (refine GW.below hG_ ?_; first | (with_reducible exact HB.out) | (repeat (first | (with_reducible first | exact HB.out | apply below_alloc | apply pw_below_drewN | apply below_drew1 | apply below_drew | exact Below.refl _ _) | exact HB.out))) | (apply GW.drewN; exact hG_) | (apply GW.drew; exact hG_)); rintro e w10 ⟨rfl, hb⟩; refine ⟨_, rfl, ?_⟩; have n0_ := Aside0.mk (below_step z1_ hb); clear HB; have HB := n0_; clear n0_; (try clear hb); (try clear hb2); (try clear hk); (try clear hi)))
   go_meet
   case rel => exact ⟨_, (true), z3_, H', ⟨z7_⟩, ⟨z1_⟩⟩
 case rest =>
  clear HC4
  try clear c1
  try clear p2
  try clear c5
  try clear c6
  obtain ⟨kq, x15_3, rfl, HA, HJ3, HB⟩ := hcut
  cases kq with
  | zero => exact absurd HA.out (by simp [pursuivantlaw05_HostJoins.j0])
  | succ kj3 =>
   have H := HA.out
   clear HA
   simp only [pursuivantlaw05_HostJoins.j0] at H
   by_cases c11 : x15_3 = true
   ·subst c11
    have H1 : ((pursuivantlaw05_awake.f kj3).bind fun t128 => (if t128 = true then ((host_Under.f kj3 a0 a1).bind fun t129 => (some (!t129))) else (some false))) = some r := by rw [if_pos rfl] at H; exact H
    clear H
    have H := H1
    clear H1
    replace H := Option.bind_eq_some_iff.mp H
    obtain ⟨t128, A120, H⟩ := H
    replace H : (if t128 = true then ((host_Under.f kj3 a0 a1).bind fun t129 => (some (!t129))) else (some false)) = some r := H
    have A12 := Aside0.mk A120
    clear A120
    by_cases c13 : t128 = true
    ·subst c13
     have H1 : ((host_Under.f kj3 a0 a1).bind fun t129 => (some (!t129))) = some r := by rw [if_pos rfl] at H; exact H
     clear H
     have H := H1
     clear H1
     replace H := Option.bind_eq_some_iff.mp H
     obtain ⟨t129, A140, H⟩ := H
     replace H : (some (!t129)) = some r := H
     have A14 := Aside0.mk A140
     clear A140
     obtain rfl := Option.some.inj H
     go_wp2_with (first | ((with_reducible refine gate_callee (f := 15) rfl ?_); refine goesL_ (some 16) rfl rfl Tryd.func15 (by kernel_rfl) rfl #[] rfl z0_ ?_; (with_reducible refine (pursuivantlaw05_awake.calls kj3  true _ ?gw28_ A12.out z8_).mono ?_); (case gw28_ => first | exact hG_ | (refine GW.below hG_ ?_; first | (with_reducible exact HB.out) | (repeat (first | (with_reducible first | exact HB.out | apply below_alloc | apply pw_below_drewN | apply below_drew1 | apply below_drew | exact Below.refl _ _) | exact HB.out))) | (apply GW.drewN; exact hG_) | (apply GW.drew; exact hG_)); rintro e w15 ⟨rfl, hb⟩; refine ⟨_, rfl, ?_⟩; have n0_ := Aside0.mk (below_step z1_ hb); clear HB; have HB := n0_; clear n0_; (try clear hb); (try clear hb2); (try clear hk); (try clear hi)) | (go_at_call 18; (fail_if_success (have z_ := U_16)); have U_16 := trivial; (with_reducible refine (host_Under.calls kj3 a0 a1 t129 _ ?gw29_ A14.out).mono ?_); (case gw29_ => first | exact hG_ | (refine GW.below hG_ ?_; first | (with_reducible exact HB.out) | (repeat (first | (with_reducible first | exact HB.out | apply below_alloc | apply pw_below_drewN | apply below_drew1 | apply below_drew | exact Below.refl _ _) | exact HB.out))) | (apply GW.drewN; exact hG_) | (apply GW.drew; exact hG_)); rintro e w16 ⟨rfl, hb⟩; have n0_ := Aside0.mk (below_step z1_ hb); clear HB; have HB := n0_; clear n0_; (try clear hb); (try clear hb2); (try clear hk); (try clear hi)))
     go_ret
     exact ⟨z2_, z1_⟩
    ·replace c13 := Bool.eq_false_iff.mpr c13
     subst c13
     have H1 : (some false) = some r := by rw [if_neg (show ¬ (false = true) by decide)] at H; exact H
     clear H
     have H := H1
     clear H1
     exact absurd ((Option.some.inj H).trans hr_) Bool.false_ne_true
   ·replace c11 := Bool.eq_false_iff.mpr c11
    subst c11
    have H1 : (if a0.size + 1 ≤ 9223372036854775807 then (if (a0 ++ (⟨#[46]⟩ : ByteArray)).size + a1.size ≤ 9223372036854775807 then (if (((a0 ++ (⟨#[46]⟩ : ByteArray)) ++ a1).size : Int) > 253 then ((pursuivantlaw05_awake.f kj3).bind fun t130 => (if t130 = true then ((host_Good.f kj3 ((a0 ++ (⟨#[46]⟩ : ByteArray)) ++ a1)).bind fun t131 => (some (!t131))) else (some false))) else ((pursuivantlaw05_awake.f kj3).bind fun t132 => (if t132 = true then ((host_Good.f kj3 ((a0 ++ (⟨#[46]⟩ : ByteArray)) ++ a1)).bind fun t133 => (if t133 = true then ((host_Under.f kj3 ((a0 ++ (⟨#[46]⟩ : ByteArray)) ++ a1) a1).bind fun t134 => (if t134 = true then ((host_Under.f kj3 a1 ((a0 ++ (⟨#[46]⟩ : ByteArray)) ++ a1)).bind fun t135 => (if t135 = true then (some false) else ((host_Under.f kj3 a0 a0).bind fun t136 => (if t136 = true then (some false) else ((host_Under.f kj3 a1 a2).bind fun t137 => (if t137 = true then ((host_Under.f kj3 ((a0 ++ (⟨#[46]⟩ : ByteArray)) ++ a1) a2).bind fun t138 => (some t138)) else (some true))))))) else (some false))) else (some false))) else (some false)))) else (none)) else (none)) = some r := by rw [if_neg (show ¬ (false = true) by decide)] at H; exact H
    clear H
    have H := H1
    clear H1
    by_cases c17 : a0.size + 1 ≤ 9223372036854775807
    ·rw [if_pos c17] at H
     have c17b0 := eq_true c17
     have c17b1 : decide (a0.size + 1 ≤ 9223372036854775807) = true := decide_eq_true c17
     try have c17b2 : (9223372036854775807 < a0.size + 1) = False := eq_false (Nat.not_lt.2 c17)
     try have c17c0 : (9223372036854775807 ≤ a0.size) = False := eq_false (by omega)
     try have c17c1 : (a0.size < 9223372036854775807) = True := eq_true (by omega)
     by_cases c18 : (a0 ++ (⟨#[46]⟩ : ByteArray)).size + a1.size ≤ 9223372036854775807
     ·rw [if_pos c18] at H
      have c18b0 := eq_true c18
      try have c18m : ((a0.size + 1) + a1.size ≤ 9223372036854775807) = True := by first | exact c18b0 | (have h_ := c18; simp only [ByteArray.size_append, Int.natCast_add] at h_; exact eq_true h_)
      have c18b1 : decide ((a0 ++ (⟨#[46]⟩ : ByteArray)).size + a1.size ≤ 9223372036854775807) = true := decide_eq_true c18
      try have c18b1n : decide ((a0.size + 1) + a1.size ≤ 9223372036854775807) = true := by first | exact c18b1 | (have h_ := c18b1; simp only [ByteArray.size_append, Int.natCast_add] at h_; exact h_)
      try have c18b2 : (9223372036854775807 < (a0 ++ (⟨#[46]⟩ : ByteArray)).size + a1.size) = False := eq_false (Nat.not_lt.2 c18)
      try have c18b2n : (9223372036854775807 < (a0.size + 1) + a1.size) = False := by first | exact c18b2 | (have h_ := c18b2; simp only [ByteArray.size_append, Int.natCast_add] at h_; exact h_)
      by_cases c19 : (((a0 ++ (⟨#[46]⟩ : ByteArray)) ++ a1).size : Int) > 253
      ·rw [if_pos c19] at H
       have c19b0 : decide (253 < (((a0 ++ (⟨#[46]⟩ : ByteArray)) ++ a1).size : Int)) = true := decide_eq_true c19
       try have c19b0n : decide (253 < ((a0.size : Int) + 1 + (a1.size : Int))) = true := by first | exact c19b0 | (have h_ := c19b0; simp only [ByteArray.size_append, Int.natCast_add] at h_; exact h_)
       have c19b1 : decide (253 < ((a0 ++ (⟨#[46]⟩ : ByteArray)) ++ a1).size) = true := decide_eq_true (by omega)
       try have c19b1n : decide (253 < (a0.size + 1 + a1.size)) = true := by first | exact c19b1 | (have h_ := c19b1; simp only [ByteArray.size_append, Int.natCast_add] at h_; exact h_)
       clear c19
       replace H := Option.bind_eq_some_iff.mp H
       obtain ⟨t130, A200, H⟩ := H
       replace H : (if t130 = true then ((host_Good.f kj3 ((a0 ++ (⟨#[46]⟩ : ByteArray)) ++ a1)).bind fun t131 => (some (!t131))) else (some false)) = some r := H
       have A20 := Aside0.mk A200
       clear A200
       by_cases c21 : t130 = true
       ·subst c21
        have H1 : ((host_Good.f kj3 ((a0 ++ (⟨#[46]⟩ : ByteArray)) ++ a1)).bind fun t131 => (some (!t131))) = some r := by rw [if_pos rfl] at H; exact H
        clear H
        have H := H1
        clear H1
        replace H := Option.bind_eq_some_iff.mp H
        obtain ⟨t131, A220, H⟩ := H
        replace H : (some (!t131)) = some r := H
        have A22 := Aside0.mk A220
        clear A220
        obtain rfl := Option.some.inj H
        go_wp2_with (first | ((with_reducible refine gate_callee (f := 15) rfl ?_); refine goesL_ (some 30) rfl rfl Tryd.func15 (by kernel_rfl) rfl #[] rfl z0_ ?_; (with_reducible refine (pursuivantlaw05_awake.calls kj3  true _ ?gw30_ A20.out z8_).mono ?_); (case gw30_ => first | exact hG_ | (refine GW.below hG_ ?_; first | (with_reducible exact HB.out) | (repeat (first | (with_reducible first | exact HB.out | apply below_alloc | apply pw_below_drewN | apply below_drew1 | apply below_drew | exact Below.refl _ _) | exact HB.out))) | (apply GW.drewN; exact hG_) | (apply GW.drew; exact hG_)); rintro e w23 ⟨rfl, hb⟩; refine ⟨_, rfl, ?_⟩; have n0_ := Aside0.mk (below_step z1_ hb); clear HB; have HB := n0_; clear n0_; (try clear hb); (try clear hb2); (try clear hk); (try clear hi)) | (go_at_call 16; (fail_if_success (have z_ := U_17)); have U_17 := trivial; (with_reducible refine (host_Good.calls kj3 ((a0 ++ (⟨#[46]⟩ : ByteArray)) ++ a1) t131 _ ?gw31_ A22.out).mono ?_); (case gw31_ => first | exact hG_ | (refine GW.below hG_ ?_; first | (with_reducible exact HB.out) | (repeat (first | (with_reducible first | exact HB.out | apply below_alloc | apply pw_below_drewN | apply below_drew1 | apply below_drew | exact Below.refl _ _) | exact HB.out))) | (apply GW.drewN; exact hG_) | (apply GW.drew; exact hG_)); rintro e w24 ⟨rfl, hb⟩; have n0_ := Aside0.mk (below_step z1_ hb); clear HB; have HB := n0_; clear n0_; (try clear hb); (try clear hb2); (try clear hk); (try clear hi)))
        go_ret
        exact ⟨z2_, z1_⟩
       ·replace c21 := Bool.eq_false_iff.mpr c21
        subst c21
        have H1 : (some false) = some r := by rw [if_neg (show ¬ (false = true) by decide)] at H; exact H
        clear H
        have H := H1
        clear H1
        exact absurd ((Option.some.inj H).trans hr_) Bool.false_ne_true
      ·rw [if_neg c19] at H
       have c19b0 : decide (253 < (((a0 ++ (⟨#[46]⟩ : ByteArray)) ++ a1).size : Int)) = false := decide_eq_false c19
       try have c19b0n : decide (253 < ((a0.size : Int) + 1 + (a1.size : Int))) = false := by first | exact c19b0 | (have h_ := c19b0; simp only [ByteArray.size_append, Int.natCast_add] at h_; exact h_)
       have c19b1 : decide (253 < ((a0 ++ (⟨#[46]⟩ : ByteArray)) ++ a1).size) = false := decide_eq_false (by omega)
       try have c19b1n : decide (253 < (a0.size + 1 + a1.size)) = false := by first | exact c19b1 | (have h_ := c19b1; simp only [ByteArray.size_append, Int.natCast_add] at h_; exact h_)
       clear c19
       replace H := Option.bind_eq_some_iff.mp H
       obtain ⟨t132, A250, H⟩ := H
       replace H : (if t132 = true then ((host_Good.f kj3 ((a0 ++ (⟨#[46]⟩ : ByteArray)) ++ a1)).bind fun t133 => (if t133 = true then ((host_Under.f kj3 ((a0 ++ (⟨#[46]⟩ : ByteArray)) ++ a1) a1).bind fun t134 => (if t134 = true then ((host_Under.f kj3 a1 ((a0 ++ (⟨#[46]⟩ : ByteArray)) ++ a1)).bind fun t135 => (if t135 = true then (some false) else ((host_Under.f kj3 a0 a0).bind fun t136 => (if t136 = true then (some false) else ((host_Under.f kj3 a1 a2).bind fun t137 => (if t137 = true then ((host_Under.f kj3 ((a0 ++ (⟨#[46]⟩ : ByteArray)) ++ a1) a2).bind fun t138 => (some t138)) else (some true))))))) else (some false))) else (some false))) else (some false)) = some r := H
       have A25 := Aside0.mk A250
       clear A250
       by_cases c26 : t132 = true
       ·subst c26
        have H1 : ((host_Good.f kj3 ((a0 ++ (⟨#[46]⟩ : ByteArray)) ++ a1)).bind fun t133 => (if t133 = true then ((host_Under.f kj3 ((a0 ++ (⟨#[46]⟩ : ByteArray)) ++ a1) a1).bind fun t134 => (if t134 = true then ((host_Under.f kj3 a1 ((a0 ++ (⟨#[46]⟩ : ByteArray)) ++ a1)).bind fun t135 => (if t135 = true then (some false) else ((host_Under.f kj3 a0 a0).bind fun t136 => (if t136 = true then (some false) else ((host_Under.f kj3 a1 a2).bind fun t137 => (if t137 = true then ((host_Under.f kj3 ((a0 ++ (⟨#[46]⟩ : ByteArray)) ++ a1) a2).bind fun t138 => (some t138)) else (some true))))))) else (some false))) else (some false))) = some r := by rw [if_pos rfl] at H; exact H
        clear H
        have H := H1
        clear H1
        replace H := Option.bind_eq_some_iff.mp H
        obtain ⟨t133, A270, H⟩ := H
        replace H : (if t133 = true then ((host_Under.f kj3 ((a0 ++ (⟨#[46]⟩ : ByteArray)) ++ a1) a1).bind fun t134 => (if t134 = true then ((host_Under.f kj3 a1 ((a0 ++ (⟨#[46]⟩ : ByteArray)) ++ a1)).bind fun t135 => (if t135 = true then (some false) else ((host_Under.f kj3 a0 a0).bind fun t136 => (if t136 = true then (some false) else ((host_Under.f kj3 a1 a2).bind fun t137 => (if t137 = true then ((host_Under.f kj3 ((a0 ++ (⟨#[46]⟩ : ByteArray)) ++ a1) a2).bind fun t138 => (some t138)) else (some true))))))) else (some false))) else (some false)) = some r := H
        have A27 := Aside0.mk A270
        clear A270
        by_cases c28 : t133 = true
        ·subst c28
         have H1 : ((host_Under.f kj3 ((a0 ++ (⟨#[46]⟩ : ByteArray)) ++ a1) a1).bind fun t134 => (if t134 = true then ((host_Under.f kj3 a1 ((a0 ++ (⟨#[46]⟩ : ByteArray)) ++ a1)).bind fun t135 => (if t135 = true then (some false) else ((host_Under.f kj3 a0 a0).bind fun t136 => (if t136 = true then (some false) else ((host_Under.f kj3 a1 a2).bind fun t137 => (if t137 = true then ((host_Under.f kj3 ((a0 ++ (⟨#[46]⟩ : ByteArray)) ++ a1) a2).bind fun t138 => (some t138)) else (some true))))))) else (some false))) = some r := by rw [if_pos rfl] at H; exact H
         clear H
         have H := H1
         clear H1
         replace H := Option.bind_eq_some_iff.mp H
         obtain ⟨t134, A290, H⟩ := H
         replace H : (if t134 = true then ((host_Under.f kj3 a1 ((a0 ++ (⟨#[46]⟩ : ByteArray)) ++ a1)).bind fun t135 => (if t135 = true then (some false) else ((host_Under.f kj3 a0 a0).bind fun t136 => (if t136 = true then (some false) else ((host_Under.f kj3 a1 a2).bind fun t137 => (if t137 = true then ((host_Under.f kj3 ((a0 ++ (⟨#[46]⟩ : ByteArray)) ++ a1) a2).bind fun t138 => (some t138)) else (some true))))))) else (some false)) = some r := H
         have A29 := Aside0.mk A290
         clear A290
         by_cases c30 : t134 = true
         ·subst c30
          have H1 : ((host_Under.f kj3 a1 ((a0 ++ (⟨#[46]⟩ : ByteArray)) ++ a1)).bind fun t135 => (if t135 = true then (some false) else ((host_Under.f kj3 a0 a0).bind fun t136 => (if t136 = true then (some false) else ((host_Under.f kj3 a1 a2).bind fun t137 => (if t137 = true then ((host_Under.f kj3 ((a0 ++ (⟨#[46]⟩ : ByteArray)) ++ a1) a2).bind fun t138 => (some t138)) else (some true))))))) = some r := by rw [if_pos rfl] at H; exact H
          clear H
          have H := H1
          clear H1
          replace H := Option.bind_eq_some_iff.mp H
          obtain ⟨t135, A310, H⟩ := H
          replace H : (if t135 = true then (some false) else ((host_Under.f kj3 a0 a0).bind fun t136 => (if t136 = true then (some false) else ((host_Under.f kj3 a1 a2).bind fun t137 => (if t137 = true then ((host_Under.f kj3 ((a0 ++ (⟨#[46]⟩ : ByteArray)) ++ a1) a2).bind fun t138 => (some t138)) else (some true)))))) = some r := H
          have A31 := Aside0.mk A310
          clear A310
          by_cases c32 : t135 = true
          ·subst c32
           have H1 : (some false) = some r := by rw [if_pos rfl] at H; exact H
           clear H
           have H := H1
           clear H1
           exact absurd ((Option.some.inj H).trans hr_) Bool.false_ne_true
          ·replace c32 := Bool.eq_false_iff.mpr c32
           subst c32
           have H1 : ((host_Under.f kj3 a0 a0).bind fun t136 => (if t136 = true then (some false) else ((host_Under.f kj3 a1 a2).bind fun t137 => (if t137 = true then ((host_Under.f kj3 ((a0 ++ (⟨#[46]⟩ : ByteArray)) ++ a1) a2).bind fun t138 => (some t138)) else (some true))))) = some r := by rw [if_neg (show ¬ (false = true) by decide)] at H; exact H
           clear H
           have H := H1
           clear H1
           replace H := Option.bind_eq_some_iff.mp H
           obtain ⟨t136, A330, H⟩ := H
           replace H : (if t136 = true then (some false) else ((host_Under.f kj3 a1 a2).bind fun t137 => (if t137 = true then ((host_Under.f kj3 ((a0 ++ (⟨#[46]⟩ : ByteArray)) ++ a1) a2).bind fun t138 => (some t138)) else (some true)))) = some r := H
           have A33 := Aside0.mk A330
           clear A330
           by_cases c34 : t136 = true
           ·subst c34
            have H1 : (some false) = some r := by rw [if_pos rfl] at H; exact H
            clear H
            have H := H1
            clear H1
            exact absurd ((Option.some.inj H).trans hr_) Bool.false_ne_true
           ·replace c34 := Bool.eq_false_iff.mpr c34
            subst c34
            have H1 : ((host_Under.f kj3 a1 a2).bind fun t137 => (if t137 = true then ((host_Under.f kj3 ((a0 ++ (⟨#[46]⟩ : ByteArray)) ++ a1) a2).bind fun t138 => (some t138)) else (some true))) = some r := by rw [if_neg (show ¬ (false = true) by decide)] at H; exact H
            clear H
            have H := H1
            clear H1
            replace H := Option.bind_eq_some_iff.mp H
            obtain ⟨t137, A350, H⟩ := H
            replace H : (if t137 = true then ((host_Under.f kj3 ((a0 ++ (⟨#[46]⟩ : ByteArray)) ++ a1) a2).bind fun t138 => (some t138)) else (some true)) = some r := H
            have A35 := Aside0.mk A350
            clear A350
            by_cases c36 : t137 = true
            ·subst c36
             have H1 : ((host_Under.f kj3 ((a0 ++ (⟨#[46]⟩ : ByteArray)) ++ a1) a2).bind fun t138 => (some t138)) = some r := by rw [if_pos rfl] at H; exact H
             clear H
             have H := H1
             clear H1
             replace H := Option.bind_eq_some_iff.mp H
             obtain ⟨t138, A370, H⟩ := H
             replace H : (some t138) = some r := H
             have A37 := Aside0.mk A370
             clear A370
             obtain rfl := Option.some.inj H
             go_wp2_with (first | ((with_reducible refine gate_callee (f := 15) rfl ?_); refine goesL_ (some 36) rfl rfl Tryd.func15 (by kernel_rfl) rfl #[] rfl z0_ ?_; (with_reducible refine (pursuivantlaw05_awake.calls kj3  true _ ?gw32_ A25.out z8_).mono ?_); (case gw32_ => first | exact hG_ | (refine GW.below hG_ ?_; first | (with_reducible exact HB.out) | (repeat (first | (with_reducible first | exact HB.out | apply below_alloc | apply pw_below_drewN | apply below_drew1 | apply below_drew | exact Below.refl _ _) | exact HB.out))) | (apply GW.drewN; exact hG_) | (apply GW.drew; exact hG_)); rintro e w38 ⟨rfl, hb⟩; refine ⟨_, rfl, ?_⟩; have n0_ := Aside0.mk (below_step z1_ hb); clear HB; have HB := n0_; clear n0_; (try clear hb); (try clear hb2); (try clear hk); (try clear hi)) | (go_at_call 16; (fail_if_success (have z_ := U_18)); have U_18 := trivial; (with_reducible refine (host_Good.calls kj3 ((a0 ++ (⟨#[46]⟩ : ByteArray)) ++ a1) true _ ?gw33_ A27.out).mono ?_); (case gw33_ => first | exact hG_ | (refine GW.below hG_ ?_; first | (with_reducible exact HB.out) | (repeat (first | (with_reducible first | exact HB.out | apply below_alloc | apply pw_below_drewN | apply below_drew1 | apply below_drew | exact Below.refl _ _) | exact HB.out))) | (apply GW.drewN; exact hG_) | (apply GW.drew; exact hG_)); rintro e w39 ⟨rfl, hb⟩; have n0_ := Aside0.mk (below_step z1_ hb); clear HB; have HB := n0_; clear n0_; (try clear hb); (try clear hb2); (try clear hk); (try clear hi)) | (go_at_call 18; (fail_if_success (have z_ := U_19)); have U_19 := trivial; (with_reducible refine (host_Under.calls kj3 ((a0 ++ (⟨#[46]⟩ : ByteArray)) ++ a1) a1 true _ ?gw34_ A29.out).mono ?_); (case gw34_ => first | exact hG_ | (refine GW.below hG_ ?_; first | (with_reducible exact HB.out) | (repeat (first | (with_reducible first | exact HB.out | apply below_alloc | apply pw_below_drewN | apply below_drew1 | apply below_drew | exact Below.refl _ _) | exact HB.out))) | (apply GW.drewN; exact hG_) | (apply GW.drew; exact hG_)); rintro e w40 ⟨rfl, hb⟩; have n0_ := Aside0.mk (below_step z1_ hb); clear HB; have HB := n0_; clear n0_; (try clear hb); (try clear hb2); (try clear hk); (try clear hi)) | (go_at_call 18; (fail_if_success (have z_ := U_20)); have U_20 := trivial; (with_reducible refine (host_Under.calls kj3 a1 ((a0 ++ (⟨#[46]⟩ : ByteArray)) ++ a1) false _ ?gw35_ A31.out).mono ?_); (case gw35_ => first | exact hG_ | (refine GW.below hG_ ?_; first | (with_reducible exact HB.out) | (repeat (first | (with_reducible first | exact HB.out | apply below_alloc | apply pw_below_drewN | apply below_drew1 | apply below_drew | exact Below.refl _ _) | exact HB.out))) | (apply GW.drewN; exact hG_) | (apply GW.drew; exact hG_)); rintro e w41 ⟨rfl, hb⟩; have n0_ := Aside0.mk (below_step z1_ hb); clear HB; have HB := n0_; clear n0_; (try clear hb); (try clear hb2); (try clear hk); (try clear hi)) | (go_at_call 18; (fail_if_success (have z_ := U_21)); have U_21 := trivial; (with_reducible refine (host_Under.calls kj3 a0 a0 false _ ?gw36_ A33.out).mono ?_); (case gw36_ => first | exact hG_ | (refine GW.below hG_ ?_; first | (with_reducible exact HB.out) | (repeat (first | (with_reducible first | exact HB.out | apply below_alloc | apply pw_below_drewN | apply below_drew1 | apply below_drew | exact Below.refl _ _) | exact HB.out))) | (apply GW.drewN; exact hG_) | (apply GW.drew; exact hG_)); rintro e w42 ⟨rfl, hb⟩; have n0_ := Aside0.mk (below_step z1_ hb); clear HB; have HB := n0_; clear n0_; (try clear hb); (try clear hb2); (try clear hk); (try clear hi)) | (go_at_call 18; (fail_if_success (have z_ := U_22)); have U_22 := trivial; (with_reducible refine (host_Under.calls kj3 a1 a2 true _ ?gw37_ A35.out).mono ?_); (case gw37_ => first | exact hG_ | (refine GW.below hG_ ?_; first | (with_reducible exact HB.out) | (repeat (first | (with_reducible first | exact HB.out | apply below_alloc | apply pw_below_drewN | apply below_drew1 | apply below_drew | exact Below.refl _ _) | exact HB.out))) | (apply GW.drewN; exact hG_) | (apply GW.drew; exact hG_)); rintro e w43 ⟨rfl, hb⟩; have n0_ := Aside0.mk (below_step z1_ hb); clear HB; have HB := n0_; clear n0_; (try clear hb); (try clear hb2); (try clear hk); (try clear hi)) | (go_at_call 18; (fail_if_success (have z_ := U_23)); have U_23 := trivial; (with_reducible refine (host_Under.calls kj3 ((a0 ++ (⟨#[46]⟩ : ByteArray)) ++ a1) a2 t138 _ ?gw38_ A37.out).mono ?_); (case gw38_ => first | exact hG_ | (refine GW.below hG_ ?_; first | (with_reducible exact HB.out) | (repeat (first | (with_reducible first | exact HB.out | apply below_alloc | apply pw_below_drewN | apply below_drew1 | apply below_drew | exact Below.refl _ _) | exact HB.out))) | (apply GW.drewN; exact hG_) | (apply GW.drew; exact hG_)); rintro e w44 ⟨rfl, hb⟩; have n0_ := Aside0.mk (below_step z1_ hb); clear HB; have HB := n0_; clear n0_; (try clear hb); (try clear hb2); (try clear hk); (try clear hi)))
             go_ret
             exact ⟨z2_, z1_⟩
            ·replace c36 := Bool.eq_false_iff.mpr c36
             subst c36
             have H1 : (some true) = some r := by rw [if_neg (show ¬ (false = true) by decide)] at H; exact H
             clear H
             have H := H1
             clear H1
             obtain rfl := Option.some.inj H
             go_wp2_with (first | ((with_reducible refine gate_callee (f := 15) rfl ?_); refine goesL_ (some 36) rfl rfl Tryd.func15 (by kernel_rfl) rfl #[] rfl z0_ ?_; (with_reducible refine (pursuivantlaw05_awake.calls kj3  true _ ?gw39_ A25.out z8_).mono ?_); (case gw39_ => first | exact hG_ | (refine GW.below hG_ ?_; first | (with_reducible exact HB.out) | (repeat (first | (with_reducible first | exact HB.out | apply below_alloc | apply pw_below_drewN | apply below_drew1 | apply below_drew | exact Below.refl _ _) | exact HB.out))) | (apply GW.drewN; exact hG_) | (apply GW.drew; exact hG_)); rintro e w45 ⟨rfl, hb⟩; refine ⟨_, rfl, ?_⟩; have n0_ := Aside0.mk (below_step z1_ hb); clear HB; have HB := n0_; clear n0_; (try clear hb); (try clear hb2); (try clear hk); (try clear hi)) | (go_at_call 16; (fail_if_success (have z_ := U_24)); have U_24 := trivial; (with_reducible refine (host_Good.calls kj3 ((a0 ++ (⟨#[46]⟩ : ByteArray)) ++ a1) true _ ?gw40_ A27.out).mono ?_); (case gw40_ => first | exact hG_ | (refine GW.below hG_ ?_; first | (with_reducible exact HB.out) | (repeat (first | (with_reducible first | exact HB.out | apply below_alloc | apply pw_below_drewN | apply below_drew1 | apply below_drew | exact Below.refl _ _) | exact HB.out))) | (apply GW.drewN; exact hG_) | (apply GW.drew; exact hG_)); rintro e w46 ⟨rfl, hb⟩; have n0_ := Aside0.mk (below_step z1_ hb); clear HB; have HB := n0_; clear n0_; (try clear hb); (try clear hb2); (try clear hk); (try clear hi)) | (go_at_call 18; (fail_if_success (have z_ := U_25)); have U_25 := trivial; (with_reducible refine (host_Under.calls kj3 ((a0 ++ (⟨#[46]⟩ : ByteArray)) ++ a1) a1 true _ ?gw41_ A29.out).mono ?_); (case gw41_ => first | exact hG_ | (refine GW.below hG_ ?_; first | (with_reducible exact HB.out) | (repeat (first | (with_reducible first | exact HB.out | apply below_alloc | apply pw_below_drewN | apply below_drew1 | apply below_drew | exact Below.refl _ _) | exact HB.out))) | (apply GW.drewN; exact hG_) | (apply GW.drew; exact hG_)); rintro e w47 ⟨rfl, hb⟩; have n0_ := Aside0.mk (below_step z1_ hb); clear HB; have HB := n0_; clear n0_; (try clear hb); (try clear hb2); (try clear hk); (try clear hi)) | (go_at_call 18; (fail_if_success (have z_ := U_26)); have U_26 := trivial; (with_reducible refine (host_Under.calls kj3 a1 ((a0 ++ (⟨#[46]⟩ : ByteArray)) ++ a1) false _ ?gw42_ A31.out).mono ?_); (case gw42_ => first | exact hG_ | (refine GW.below hG_ ?_; first | (with_reducible exact HB.out) | (repeat (first | (with_reducible first | exact HB.out | apply below_alloc | apply pw_below_drewN | apply below_drew1 | apply below_drew | exact Below.refl _ _) | exact HB.out))) | (apply GW.drewN; exact hG_) | (apply GW.drew; exact hG_)); rintro e w48 ⟨rfl, hb⟩; have n0_ := Aside0.mk (below_step z1_ hb); clear HB; have HB := n0_; clear n0_; (try clear hb); (try clear hb2); (try clear hk); (try clear hi)) | (go_at_call 18; (fail_if_success (have z_ := U_27)); have U_27 := trivial; (with_reducible refine (host_Under.calls kj3 a0 a0 false _ ?gw43_ A33.out).mono ?_); (case gw43_ => first | exact hG_ | (refine GW.below hG_ ?_; first | (with_reducible exact HB.out) | (repeat (first | (with_reducible first | exact HB.out | apply below_alloc | apply pw_below_drewN | apply below_drew1 | apply below_drew | exact Below.refl _ _) | exact HB.out))) | (apply GW.drewN; exact hG_) | (apply GW.drew; exact hG_)); rintro e w49 ⟨rfl, hb⟩; have n0_ := Aside0.mk (below_step z1_ hb); clear HB; have HB := n0_; clear n0_; (try clear hb); (try clear hb2); (try clear hk); (try clear hi)) | (go_at_call 18; (fail_if_success (have z_ := U_28)); have U_28 := trivial; (with_reducible refine (host_Under.calls kj3 a1 a2 false _ ?gw44_ A35.out).mono ?_); (case gw44_ => first | exact hG_ | (refine GW.below hG_ ?_; first | (with_reducible exact HB.out) | (repeat (first | (with_reducible first | exact HB.out | apply below_alloc | apply pw_below_drewN | apply below_drew1 | apply below_drew | exact Below.refl _ _) | exact HB.out))) | (apply GW.drewN; exact hG_) | (apply GW.drew; exact hG_)); rintro e w50 ⟨rfl, hb⟩; have n0_ := Aside0.mk (below_step z1_ hb); clear HB; have HB := n0_; clear n0_; (try clear hb); (try clear hb2); (try clear hk); (try clear hi)))
             go_ret
             exact ⟨z2_, z1_⟩
         ·replace c30 := Bool.eq_false_iff.mpr c30
          subst c30
          have H1 : (some false) = some r := by rw [if_neg (show ¬ (false = true) by decide)] at H; exact H
          clear H
          have H := H1
          clear H1
          exact absurd ((Option.some.inj H).trans hr_) Bool.false_ne_true
        ·replace c28 := Bool.eq_false_iff.mpr c28
         subst c28
         have H1 : (some false) = some r := by rw [if_neg (show ¬ (false = true) by decide)] at H; exact H
         clear H
         have H := H1
         clear H1
         exact absurd ((Option.some.inj H).trans hr_) Bool.false_ne_true
       ·replace c26 := Bool.eq_false_iff.mpr c26
        subst c26
        have H1 : (some false) = some r := by rw [if_neg (show ¬ (false = true) by decide)] at H; exact H
        clear H
        have H := H1
        clear H1
        exact absurd ((Option.some.inj H).trans hr_) Bool.false_ne_true
     ·rw [if_neg c18] at H
      exact absurd H (by simp)
    ·rw [if_neg c17] at H
     exact absurd H (by simp)

end Go.Proofs.YtindkgcbglonhaaDoor.Hand
