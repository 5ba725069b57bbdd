/- What each Go function here computes, and that its call computes it, over contracts proved by hand (written by this project's xprint.py, which drives the kit's print). -/
import Derived.Test.YtindkgcbglonhaaDoorZ
import Derived.Test.YtindkgcbglonhaaDoorK
import Derived.Test.YtindkgcbglonhaaDoorHostG
import Derived.Test.YtindkgcbglonhaaDoorHostP
import Derived.Test.YtindkgcbglonhaaDoorFA1
namespace Go.Proofs.YtindkgcbglonhaaDoor.Hand
open Go.RowKit Go.Proofs.YtindkgcbglonhaaDoorW.PrintWords Go.Proofs.YtindkgcbglonhaaDoorW.PrintLast Go.Proofs.YtindkgcbglonhaaDoorW.PrintMore
attribute [local go_sem] max2_int min2_int max_two min_two max_three min_three max_four min_four   -- for this text's walks alone
set_option linter.unusedVariables false
set_option linter.unusedSimpArgs false

/-! ### host_Under: function 18 -/
def host_Under.f (k : Nat) (a0 : ByteArray) (a1 : ByteArray) : Option (Bool) := (host_Good.f k a0).bind fun t101 => (if t101 = true then ((host_Good.f k a1).bind fun t102 => (if t102 = true then (if 1 + a1.size ≤ 9223372036854775807 then ((strings_HasSuffix.f a0 ((⟨#[46]⟩ : ByteArray) ++ a1)).bind fun t103 => (some t103)) else (none)) else (some false))) else (some false))
theorem host_Under.mono : ∀ a0 a1 k, LeO (host_Under.f k a0 a1) (host_Under.f (k + 1) a0 a1) := by
 intro a0 a1 k
 unfold host_Under.f
 repeat' first
   | (with_reducible exact host_Good.mono _ _)
   | (with_reducible exact LeO.refl _)
   | (with_reducible exact LeO.none _)
   | (with_reducible refine LeO.ite ?_ ?_)
   | (with_reducible refine LeO.bind ?_ (fun _ => ?_))
   | exact host_Good.mono _ _
   | exact LeO.none _
   | refine LeO.ite ?_ ?_
   | refine LeO.bind ?_ (fun _ => ?_)
set_option maxHeartbeats 8000000 in
set_option maxRecDepth 100000 in
theorem host_Under.calls (k : Nat) (a0 : ByteArray) (a1 : ByteArray) (r : Bool) (w : World) (hG_ : GW w) (h : host_Under.f k a0 a1 = some r) :
  Calls Tryd.prog 18 #[.string a0, .string a1] w fun e w' => e = .returned (.bool r) ∧ Below w.heap.size w w' := by
 have HB := Aside0.mk (Below.refl w.heap.size w)
 have H : ((host_Good.f k a0).bind fun t101 => (if t101 = true then ((host_Good.f k a1).bind fun t102 => (if t102 = true then (if 1 + a1.size ≤ 9223372036854775807 then ((strings_HasSuffix.f a0 ((⟨#[46]⟩ : ByteArray) ++ a1)).bind fun t103 => (some t103)) else (none)) else (some false))) else (some false))) = some r := h
 clear h
 replace H := Option.bind_eq_some_iff.mp H
 obtain ⟨t101, A30, H⟩ := H
 replace H : (if t101 = true then ((host_Good.f k a1).bind fun t102 => (if t102 = true then (if 1 + a1.size ≤ 9223372036854775807 then ((strings_HasSuffix.f a0 ((⟨#[46]⟩ : ByteArray) ++ a1)).bind fun t103 => (some t103)) else (none)) else (some false))) else (some false)) = some r := H
 have A3 := Aside0.mk A30
 clear A30
 by_cases c4 : t101 = true
 ·subst c4
  have H1 : ((host_Good.f k a1).bind fun t102 => (if t102 = true then (if 1 + a1.size ≤ 9223372036854775807 then ((strings_HasSuffix.f a0 ((⟨#[46]⟩ : ByteArray) ++ a1)).bind fun t103 => (some t103)) else (none)) else (some false))) = some r := by rw [if_pos rfl] at H; exact H
  clear H
  have H := H1
  clear H1
  replace H := Option.bind_eq_some_iff.mp H
  obtain ⟨t102, A50, H⟩ := H
  replace H : (if t102 = true then (if 1 + a1.size ≤ 9223372036854775807 then ((strings_HasSuffix.f a0 ((⟨#[46]⟩ : ByteArray) ++ a1)).bind fun t103 => (some t103)) else (none)) else (some false)) = some r := H
  have A5 := Aside0.mk A50
  clear A50
  by_cases c6 : t102 = true
  ·subst c6
   have H1 : (if 1 + a1.size ≤ 9223372036854775807 then ((strings_HasSuffix.f a0 ((⟨#[46]⟩ : ByteArray) ++ a1)).bind fun t103 => (some t103)) else (none)) = some r := by rw [if_pos rfl] at H; exact H
   clear H
   have H := H1
   clear H1
   by_cases c7 : 1 + a1.size ≤ 9223372036854775807
   ·rw [if_pos c7] at H
    have c7b0 := eq_true c7
    have c7b1 : decide (1 + a1.size ≤ 9223372036854775807) = true := decide_eq_true c7
    try have c7b2 : (9223372036854775807 < 1 + a1.size) = False := eq_false (Nat.not_lt.2 c7)
    try have c7c0 : (9223372036854775807 ≤ a1.size) = False := eq_false (by omega)
    try have c7c1 : (a1.size < 9223372036854775807) = True := eq_true (by omega)
    replace H := Option.bind_eq_some_iff.mp H
    obtain ⟨t103, A80, H⟩ := H
    replace H : (some t103) = some r := H
    have A8 := Aside0.mk A80
    clear A80
    obtain rfl := Option.some.inj H
    go_enter Tryd.func18, Tryd.ntmps18
    go_wp2_with (first | ((with_reducible refine gate_callee (f := 16) rfl ?_); refine goesL_ (some 6) rfl rfl Tryd.func16 (by kernel_rfl) rfl #[.string a0] rfl z0_ ?_; (with_reducible refine (host_Good.calls k a0 true _ ?gw1_ A3.out).mono ?_); (case gw1_ => first | exact hG_ | (refine GW.below hG_ ?_; first | (with_reducible exact HB.out) | (repeat (first | (with_reducible first | exact HB.out | apply below_alloc | apply pw_below_drewN | apply below_drew1 | apply below_drew | exact Below.refl _ _) | exact HB.out))) | (apply GW.drewN; exact hG_) | (apply GW.drew; exact hG_)); rintro e w9 ⟨rfl, hb⟩; refine ⟨_, rfl, ?_⟩; have n0_ := Aside0.mk (below_step z1_ hb); clear HB; have HB := n0_; clear n0_; (try clear hb); (try clear hb2); (try clear hk); (try clear hi)) | (go_at_call 16; (fail_if_success (have z_ := U_1)); have U_1 := trivial; (with_reducible refine (host_Good.calls k a1 true _ ?gw2_ A5.out).mono ?_); (case gw2_ => first | exact hG_ | (refine GW.below hG_ ?_; first | (with_reducible exact HB.out) | (repeat (first | (with_reducible first | exact HB.out | apply below_alloc | apply pw_below_drewN | apply below_drew1 | apply below_drew | exact Below.refl _ _) | exact HB.out))) | (apply GW.drewN; exact hG_) | (apply GW.drew; exact hG_)); rintro e w10 ⟨rfl, hb⟩; have n0_ := Aside0.mk (below_step z1_ hb); clear HB; have HB := n0_; clear n0_; (try clear hb); (try clear hb2); (try clear hk); (try clear hi)) | (go_at_call 61; (fail_if_success (have z_ := U_2)); have U_2 := trivial; (with_reducible refine (strings_HasSuffix.calls a0 ((⟨#[46]⟩ : ByteArray) ++ a1) t103 _ ?gw3_ A8.out).mono ?_); (case gw3_ => first | exact hG_ | (refine GW.below hG_ ?_; first | (with_reducible exact HB.out) | (repeat (first | (with_reducible first | exact HB.out | apply below_alloc | apply pw_below_drewN | apply below_drew1 | apply below_drew | exact Below.refl _ _) | exact HB.out))) | (apply GW.drewN; exact hG_) | (apply GW.drew; exact hG_)); rintro e w' ⟨rfl, ⟨nd, rfl⟩⟩))
    go_ret
    exact ⟨z2_, z1_⟩
   ·rw [if_neg c7] at H
    exact absurd H (by simp)
  ·replace c6 := Bool.eq_false_iff.mpr c6
   subst c6
   have H1 : (some false) = some r := by rw [if_neg (show ¬ (false = true) by decide)] at H; exact H
   clear H
   have H := H1
   clear H1
   obtain rfl := Option.some.inj H
   go_enter Tryd.func18, Tryd.ntmps18
   go_wp2_with (first | ((with_reducible refine gate_callee (f := 16) rfl ?_); refine goesL_ (some 6) rfl rfl Tryd.func16 (by kernel_rfl) rfl #[.string a0] rfl z0_ ?_; (with_reducible refine (host_Good.calls k a0 true _ ?gw4_ A3.out).mono ?_); (case gw4_ => first | exact hG_ | (refine GW.below hG_ ?_; first | (with_reducible exact HB.out) | (repeat (first | (with_reducible first | exact HB.out | apply below_alloc | apply pw_below_drewN | apply below_drew1 | apply below_drew | exact Below.refl _ _) | exact HB.out))) | (apply GW.drewN; exact hG_) | (apply GW.drew; exact hG_)); rintro e w11 ⟨rfl, hb⟩; refine ⟨_, rfl, ?_⟩; have n0_ := Aside0.mk (below_step z1_ hb); clear HB; have HB := n0_; clear n0_; (try clear hb); (try clear hb2); (try clear hk); (try clear hi)) | (go_at_call 16; (fail_if_success (have z_ := U_3)); have U_3 := trivial; (with_reducible refine (host_Good.calls k a1 false _ ?gw5_ A5.out).mono ?_); (case gw5_ => first | exact hG_ | (refine GW.below hG_ ?_; first | (with_reducible exact HB.out) | (repeat (first | (with_reducible first | exact HB.out | apply below_alloc | apply pw_below_drewN | apply below_drew1 | apply below_drew | exact Below.refl _ _) | exact HB.out))) | (apply GW.drewN; exact hG_) | (apply GW.drew; exact hG_)); rintro e w12 ⟨rfl, hb⟩; have n0_ := Aside0.mk (below_step z1_ hb); clear HB; have HB := n0_; clear n0_; (try clear hb); (try clear hb2); (try clear hk); (try clear hi)))
   go_ret
   exact ⟨z2_, z1_⟩
 ·replace c4 := Bool.eq_false_iff.mpr c4
  subst c4
  have H1 : (some false) = some r := by rw [if_neg (show ¬ (false = true) by decide)] at H; exact H
  clear H
  have H := H1
  clear H1
  obtain rfl := Option.some.inj H
  go_enter Tryd.func18, Tryd.ntmps18
  go_wp2_with (first | ((with_reducible refine gate_callee (f := 16) rfl ?_); refine goesL_ (some 6) rfl rfl Tryd.func16 (by kernel_rfl) rfl #[.string a0] rfl z0_ ?_; (with_reducible refine (host_Good.calls k a0 false _ ?gw6_ A3.out).mono ?_); (case gw6_ => first | exact hG_ | (refine GW.below hG_ ?_; first | (with_reducible exact HB.out) | (repeat (first | (with_reducible first | exact HB.out | apply below_alloc | apply pw_below_drewN | apply below_drew1 | apply below_drew | exact Below.refl _ _) | exact HB.out))) | (apply GW.drewN; exact hG_) | (apply GW.drew; exact hG_)); rintro e w13 ⟨rfl, hb⟩; refine ⟨_, rfl, ?_⟩; have n0_ := Aside0.mk (below_step z1_ hb); clear HB; have HB := n0_; clear n0_; (try clear hb); (try clear hb2); (try clear hk); (try clear hi)))
  go_ret
  exact ⟨z2_, z1_⟩

/-! ### pursuivantlaw05_awake: function 15 -/
def pursuivantlaw05_awake.f (k : Nat)  : Option (Bool) := (host_Port.f (⟨#[56, 48, 56, 48]⟩ : ByteArray)).bind fun bt104 => ((host_Port.f (⟨#[48, 56, 48]⟩ : ByteArray)).bind fun bt106 => ((host_Good.f k (⟨#[97, 46, 101, 120, 97, 109, 112, 108, 101]⟩ : ByteArray)).bind fun t108 => (if t108 = true then ((host_Good.f k (⟨#[97, 46, 46, 98]⟩ : ByteArray)).bind fun t109 => (if t109 = true then (some false) else ((host_Good.f k (⟨#[45, 97]⟩ : ByteArray)).bind fun t110 => (if t110 = true then (some false) else ((host_Under.f k (⟨#[97, 46, 101, 120, 97, 109, 112, 108, 101]⟩ : ByteArray) (⟨#[101, 120, 97, 109, 112, 108, 101]⟩ : ByteArray)).bind fun t111 => (if t111 = true then ((host_Under.f k (⟨#[98, 97, 100, 101, 120, 97, 109, 112, 108, 101]⟩ : ByteArray) (⟨#[101, 120, 97, 109, 112, 108, 101]⟩ : ByteArray)).bind fun t112 => (if t112 = true then (some false) else (if bt104.1 = 8080 then (if bt104.2 = true then (if bt106.2 = true then (some false) else ((host_Default.f (⟨#[104, 116, 116, 112, 115]⟩ : ByteArray)).bind fun t113 => (some (t113 == 443)))) else (some false)) else (some false)))) else (some false))))))) else (some false))))
theorem pursuivantlaw05_awake.mono : ∀ k, LeO (pursuivantlaw05_awake.f k ) (pursuivantlaw05_awake.f (k + 1) ) := by
 intro  k
 unfold pursuivantlaw05_awake.f
 repeat' first
   | (with_reducible exact host_Good.mono _ _)
   | (with_reducible exact host_Under.mono _ _ _)
   | (with_reducible exact LeO.refl _)
   | (with_reducible exact LeO.none _)
   | (with_reducible refine LeO.ite ?_ ?_)
   | (with_reducible refine LeO.bind ?_ (fun _ => ?_))
   | exact host_Good.mono _ _
   | exact host_Under.mono _ _ _
   | exact LeO.none _
   | refine LeO.ite ?_ ?_
   | refine LeO.bind ?_ (fun _ => ?_)
set_option maxHeartbeats 8000000 in
set_option maxRecDepth 100000 in
theorem pursuivantlaw05_awake.calls (k : Nat)  (r : Bool) (w : World) (hG_ : GW w) (h : pursuivantlaw05_awake.f k  = some r) (hr_ : r = true) :
  Calls Tryd.prog 15 #[] w fun e w' => e = .returned (.bool r) ∧ Below w.heap.size w w' := by
 have HB := Aside0.mk (Below.refl w.heap.size w)
 have H : ((host_Port.f (⟨#[56, 48, 56, 48]⟩ : ByteArray)).bind fun bt104 => ((host_Port.f (⟨#[48, 56, 48]⟩ : ByteArray)).bind fun bt106 => ((host_Good.f k (⟨#[97, 46, 101, 120, 97, 109, 112, 108, 101]⟩ : ByteArray)).bind fun t108 => (if t108 = true then ((host_Good.f k (⟨#[97, 46, 46, 98]⟩ : ByteArray)).bind fun t109 => (if t109 = true then (some false) else ((host_Good.f k (⟨#[45, 97]⟩ : ByteArray)).bind fun t110 => (if t110 = true then (some false) else ((host_Under.f k (⟨#[97, 46, 101, 120, 97, 109, 112, 108, 101]⟩ : ByteArray) (⟨#[101, 120, 97, 109, 112, 108, 101]⟩ : ByteArray)).bind fun t111 => (if t111 = true then ((host_Under.f k (⟨#[98, 97, 100, 101, 120, 97, 109, 112, 108, 101]⟩ : ByteArray) (⟨#[101, 120, 97, 109, 112, 108, 101]⟩ : ByteArray)).bind fun t112 => (if t112 = true then (some false) else (if bt104.1 = 8080 then (if bt104.2 = true then (if bt106.2 = true then (some false) else ((host_Default.f (⟨#[104, 116, 116, 112, 115]⟩ : ByteArray)).bind fun t113 => (some (t113 == 443)))) else (some false)) else (some false)))) else (some false))))))) else (some false))))) = some r := h
 clear h
 replace H := Option.bind_eq_some_iff.mp H
 obtain ⟨⟨t104, t105⟩, A10, H⟩ := H
 replace H : ((host_Port.f (⟨#[48, 56, 48]⟩ : ByteArray)).bind fun bt106 => ((host_Good.f k (⟨#[97, 46, 101, 120, 97, 109, 112, 108, 101]⟩ : ByteArray)).bind fun t108 => (if t108 = true then ((host_Good.f k (⟨#[97, 46, 46, 98]⟩ : ByteArray)).bind fun t109 => (if t109 = true then (some false) else ((host_Good.f k (⟨#[45, 97]⟩ : ByteArray)).bind fun t110 => (if t110 = true then (some false) else ((host_Under.f k (⟨#[97, 46, 101, 120, 97, 109, 112, 108, 101]⟩ : ByteArray) (⟨#[101, 120, 97, 109, 112, 108, 101]⟩ : ByteArray)).bind fun t111 => (if t111 = true then ((host_Under.f k (⟨#[98, 97, 100, 101, 120, 97, 109, 112, 108, 101]⟩ : ByteArray) (⟨#[101, 120, 97, 109, 112, 108, 101]⟩ : ByteArray)).bind fun t112 => (if t112 = true then (some false) else (if t104 = 8080 then (if t105 = true then (if bt106.2 = true then (some false) else ((host_Default.f (⟨#[104, 116, 116, 112, 115]⟩ : ByteArray)).bind fun t113 => (some (t113 == 443)))) else (some false)) else (some false)))) else (some false))))))) else (some false)))) = some r := H
 have A1 := Aside0.mk A10
 clear A10
 replace H := Option.bind_eq_some_iff.mp H
 obtain ⟨⟨t106, t107⟩, A20, H⟩ := H
 replace H : ((host_Good.f k (⟨#[97, 46, 101, 120, 97, 109, 112, 108, 101]⟩ : ByteArray)).bind fun t108 => (if t108 = true then ((host_Good.f k (⟨#[97, 46, 46, 98]⟩ : ByteArray)).bind fun t109 => (if t109 = true then (some false) else ((host_Good.f k (⟨#[45, 97]⟩ : ByteArray)).bind fun t110 => (if t110 = true then (some false) else ((host_Under.f k (⟨#[97, 46, 101, 120, 97, 109, 112, 108, 101]⟩ : ByteArray) (⟨#[101, 120, 97, 109, 112, 108, 101]⟩ : ByteArray)).bind fun t111 => (if t111 = true then ((host_Under.f k (⟨#[98, 97, 100, 101, 120, 97, 109, 112, 108, 101]⟩ : ByteArray) (⟨#[101, 120, 97, 109, 112, 108, 101]⟩ : ByteArray)).bind fun t112 => (if t112 = true then (some false) else (if t104 = 8080 then (if t105 = true then (if t107 = true then (some false) else ((host_Default.f (⟨#[104, 116, 116, 112, 115]⟩ : ByteArray)).bind fun t113 => (some (t113 == 443)))) else (some false)) else (some false)))) else (some false))))))) else (some false))) = some r := H
 have A2 := Aside0.mk A20
 clear A20
 replace H := Option.bind_eq_some_iff.mp H
 obtain ⟨t108, A30, H⟩ := H
 replace H : (if t108 = true then ((host_Good.f k (⟨#[97, 46, 46, 98]⟩ : ByteArray)).bind fun t109 => (if t109 = true then (some false) else ((host_Good.f k (⟨#[45, 97]⟩ : ByteArray)).bind fun t110 => (if t110 = true then (some false) else ((host_Under.f k (⟨#[97, 46, 101, 120, 97, 109, 112, 108, 101]⟩ : ByteArray) (⟨#[101, 120, 97, 109, 112, 108, 101]⟩ : ByteArray)).bind fun t111 => (if t111 = true then ((host_Under.f k (⟨#[98, 97, 100, 101, 120, 97, 109, 112, 108, 101]⟩ : ByteArray) (⟨#[101, 120, 97, 109, 112, 108, 101]⟩ : ByteArray)).bind fun t112 => (if t112 = true then (some false) else (if t104 = 8080 then (if t105 = true then (if t107 = true then (some false) else ((host_Default.f (⟨#[104, 116, 116, 112, 115]⟩ : ByteArray)).bind fun t113 => (some (t113 == 443)))) else (some false)) else (some false)))) else (some false))))))) else (some false)) = some r := H
 have A3 := Aside0.mk A30
 clear A30
 by_cases c4 : t108 = true
 ·subst c4
  have H1 : ((host_Good.f k (⟨#[97, 46, 46, 98]⟩ : ByteArray)).bind fun t109 => (if t109 = true then (some false) else ((host_Good.f k (⟨#[45, 97]⟩ : ByteArray)).bind fun t110 => (if t110 = true then (some false) else ((host_Under.f k (⟨#[97, 46, 101, 120, 97, 109, 112, 108, 101]⟩ : ByteArray) (⟨#[101, 120, 97, 109, 112, 108, 101]⟩ : ByteArray)).bind fun t111 => (if t111 = true then ((host_Under.f k (⟨#[98, 97, 100, 101, 120, 97, 109, 112, 108, 101]⟩ : ByteArray) (⟨#[101, 120, 97, 109, 112, 108, 101]⟩ : ByteArray)).bind fun t112 => (if t112 = true then (some false) else (if t104 = 8080 then (if t105 = true then (if t107 = true then (some false) else ((host_Default.f (⟨#[104, 116, 116, 112, 115]⟩ : ByteArray)).bind fun t113 => (some (t113 == 443)))) else (some false)) else (some false)))) else (some false))))))) = some r := by rw [if_pos rfl] at H; exact H
  clear H
  have H := H1
  clear H1
  replace H := Option.bind_eq_some_iff.mp H
  obtain ⟨t109, A50, H⟩ := H
  replace H : (if t109 = true then (some false) else ((host_Good.f k (⟨#[45, 97]⟩ : ByteArray)).bind fun t110 => (if t110 = true then (some false) else ((host_Under.f k (⟨#[97, 46, 101, 120, 97, 109, 112, 108, 101]⟩ : ByteArray) (⟨#[101, 120, 97, 109, 112, 108, 101]⟩ : ByteArray)).bind fun t111 => (if t111 = true then ((host_Under.f k (⟨#[98, 97, 100, 101, 120, 97, 109, 112, 108, 101]⟩ : ByteArray) (⟨#[101, 120, 97, 109, 112, 108, 101]⟩ : ByteArray)).bind fun t112 => (if t112 = true then (some false) else (if t104 = 8080 then (if t105 = true then (if t107 = true then (some false) else ((host_Default.f (⟨#[104, 116, 116, 112, 115]⟩ : ByteArray)).bind fun t113 => (some (t113 == 443)))) else (some false)) else (some false)))) else (some false)))))) = some r := H
  have A5 := Aside0.mk A50
  clear A50
  by_cases c6 : t109 = true
  ·subst c6
   have H1 : (some false) = some r := by rw [if_pos rfl] at H; exact H
   clear H
   have H := H1
   clear H1
   exact absurd ((Option.some.inj H).trans hr_) Bool.false_ne_true
  ·replace c6 := Bool.eq_false_iff.mpr c6
   subst c6
   have H1 : ((host_Good.f k (⟨#[45, 97]⟩ : ByteArray)).bind fun t110 => (if t110 = true then (some false) else ((host_Under.f k (⟨#[97, 46, 101, 120, 97, 109, 112, 108, 101]⟩ : ByteArray) (⟨#[101, 120, 97, 109, 112, 108, 101]⟩ : ByteArray)).bind fun t111 => (if t111 = true then ((host_Under.f k (⟨#[98, 97, 100, 101, 120, 97, 109, 112, 108, 101]⟩ : ByteArray) (⟨#[101, 120, 97, 109, 112, 108, 101]⟩ : ByteArray)).bind fun t112 => (if t112 = true then (some false) else (if t104 = 8080 then (if t105 = true then (if t107 = true then (some false) else ((host_Default.f (⟨#[104, 116, 116, 112, 115]⟩ : ByteArray)).bind fun t113 => (some (t113 == 443)))) else (some false)) else (some false)))) else (some false))))) = some r := by rw [if_neg (show ¬ (false = true) by decide)] at H; exact H
   clear H
   have H := H1
   clear H1
   replace H := Option.bind_eq_some_iff.mp H
   obtain ⟨t110, A70, H⟩ := H
   replace H : (if t110 = true then (some false) else ((host_Under.f k (⟨#[97, 46, 101, 120, 97, 109, 112, 108, 101]⟩ : ByteArray) (⟨#[101, 120, 97, 109, 112, 108, 101]⟩ : ByteArray)).bind fun t111 => (if t111 = true then ((host_Under.f k (⟨#[98, 97, 100, 101, 120, 97, 109, 112, 108, 101]⟩ : ByteArray) (⟨#[101, 120, 97, 109, 112, 108, 101]⟩ : ByteArray)).bind fun t112 => (if t112 = true then (some false) else (if t104 = 8080 then (if t105 = true then (if t107 = true then (some false) else ((host_Default.f (⟨#[104, 116, 116, 112, 115]⟩ : ByteArray)).bind fun t113 => (some (t113 == 443)))) else (some false)) else (some false)))) else (some false)))) = some r := H
   have A7 := Aside0.mk A70
   clear A70
   by_cases c8 : t110 = true
   ·subst c8
    have H1 : (some false) = some r := by rw [if_pos rfl] at H; exact H
    clear H
    have H := H1
    clear H1
    exact absurd ((Option.some.inj H).trans hr_) Bool.false_ne_true
   ·replace c8 := Bool.eq_false_iff.mpr c8
    subst c8
    have H1 : ((host_Under.f k (⟨#[97, 46, 101, 120, 97, 109, 112, 108, 101]⟩ : ByteArray) (⟨#[101, 120, 97, 109, 112, 108, 101]⟩ : ByteArray)).bind fun t111 => (if t111 = true then ((host_Under.f k (⟨#[98, 97, 100, 101, 120, 97, 109, 112, 108, 101]⟩ : ByteArray) (⟨#[101, 120, 97, 109, 112, 108, 101]⟩ : ByteArray)).bind fun t112 => (if t112 = true then (some false) else (if t104 = 8080 then (if t105 = true then (if t107 = true then (some false) else ((host_Default.f (⟨#[104, 116, 116, 112, 115]⟩ : ByteArray)).bind fun t113 => (some (t113 == 443)))) else (some false)) else (some false)))) else (some false))) = some r := by rw [if_neg (show ¬ (false = true) by decide)] at H; exact H
    clear H
    have H := H1
    clear H1
    replace H := Option.bind_eq_some_iff.mp H
    obtain ⟨t111, A90, H⟩ := H
    replace H : (if t111 = true then ((host_Under.f k (⟨#[98, 97, 100, 101, 120, 97, 109, 112, 108, 101]⟩ : ByteArray) (⟨#[101, 120, 97, 109, 112, 108, 101]⟩ : ByteArray)).bind fun t112 => (if t112 = true then (some false) else (if t104 = 8080 then (if t105 = true then (if t107 = true then (some false) else ((host_Default.f (⟨#[104, 116, 116, 112, 115]⟩ : ByteArray)).bind fun t113 => (some (t113 == 443)))) else (some false)) else (some false)))) else (some false)) = some r := H
    have A9 := Aside0.mk A90
    clear A90
    by_cases c10 : t111 = true
    ·subst c10
     have H1 : ((host_Under.f k (⟨#[98, 97, 100, 101, 120, 97, 109, 112, 108, 101]⟩ : ByteArray) (⟨#[101, 120, 97, 109, 112, 108, 101]⟩ : ByteArray)).bind fun t112 => (if t112 = true then (some false) else (if t104 = 8080 then (if t105 = true then (if t107 = true then (some false) else ((host_Default.f (⟨#[104, 116, 116, 112, 115]⟩ : ByteArray)).bind fun t113 => (some (t113 == 443)))) else (some false)) else (some false)))) = some r := by rw [if_pos rfl] at H; exact H
     clear H
     have H := H1
     clear H1
     replace H := Option.bind_eq_some_iff.mp H
     obtain ⟨t112, A110, H⟩ := H
     replace H : (if t112 = true then (some false) else (if t104 = 8080 then (if t105 = true then (if t107 = true then (some false) else ((host_Default.f (⟨#[104, 116, 116, 112, 115]⟩ : ByteArray)).bind fun t113 => (some (t113 == 443)))) else (some false)) else (some false))) = some r := H
     have A11 := Aside0.mk A110
     clear A110
     by_cases c12 : t112 = true
     ·subst c12
      have H1 : (some false) = some r := by rw [if_pos rfl] at H; exact H
      clear H
      have H := H1
      clear H1
      exact absurd ((Option.some.inj H).trans hr_) Bool.false_ne_true
     ·replace c12 := Bool.eq_false_iff.mpr c12
      subst c12
      have H1 : (if t104 = 8080 then (if t105 = true then (if t107 = true then (some false) else ((host_Default.f (⟨#[104, 116, 116, 112, 115]⟩ : ByteArray)).bind fun t113 => (some (t113 == 443)))) else (some false)) else (some false)) = some r := by rw [if_neg (show ¬ (false = true) by decide)] at H; exact H
      clear H
      have H := H1
      clear H1
      by_cases c13 : t104 = 8080
      ·rw [if_pos c13] at H
       have c13b0 : (t104 == 8080) = true := beq_iff_eq.mpr c13
       have c13b1 : (t104 != 8080) = false := bne_eq_false_iff_eq.mpr c13
       clear c13
       by_cases c14 : t105 = true
       ·subst c14
        have H1 : (if t107 = true then (some false) else ((host_Default.f (⟨#[104, 116, 116, 112, 115]⟩ : ByteArray)).bind fun t113 => (some (t113 == 443)))) = some r := by rw [if_pos rfl] at H; exact H
        clear H
        have H := H1
        clear H1
        by_cases c15 : t107 = true
        ·subst c15
         have H1 : (some false) = some r := by rw [if_pos rfl] at H; exact H
         clear H
         have H := H1
         clear H1
         exact absurd ((Option.some.inj H).trans hr_) Bool.false_ne_true
        ·replace c15 := Bool.eq_false_iff.mpr c15
         subst c15
         have H1 : ((host_Default.f (⟨#[104, 116, 116, 112, 115]⟩ : ByteArray)).bind fun t113 => (some (t113 == 443))) = some r := by rw [if_neg (show ¬ (false = true) by decide)] at H; exact H
         clear H
         have H := H1
         clear H1
         replace H := Option.bind_eq_some_iff.mp H
         obtain ⟨t113, A160, H⟩ := H
         replace H : (some (t113 == 443)) = some r := H
         have A16 := Aside0.mk A160
         clear A160
         obtain rfl := Option.some.inj H
         go_enter Tryd.func15, Tryd.ntmps15
         go_wp2_with (first | ((with_reducible refine gate_callee (f := 20) rfl ?_); refine goesL_ (some 6) rfl rfl Tryd.func20 (by kernel_rfl) rfl #[.string (⟨#[56, 48, 56, 48]⟩ : ByteArray)] rfl z0_ ?_; (with_reducible refine (host_Port.calls (⟨#[56, 48, 56, 48]⟩ : ByteArray) t104 true _ ?gw7_ A1.out).mono ?_); (case gw7_ => first | exact hG_ | (refine GW.below hG_ ?_; first | (with_reducible exact HB.out) | (repeat (first | (with_reducible first | exact HB.out | apply below_alloc | apply pw_below_drewN | apply below_drew1 | apply below_drew | exact Below.refl _ _) | exact HB.out))) | (apply GW.drewN; exact hG_) | (apply GW.drew; exact hG_)); rintro e w17 ⟨rfl, hb⟩; refine ⟨_, rfl, ?_⟩; have n0_ := Aside0.mk (below_step z1_ hb); clear HB; have HB := n0_; clear n0_; (try clear hb); (try clear hb2); (try clear hk); (try clear hi)) | ((with_reducible refine gate_callee (f := 20) rfl ?_); refine goesL_ (some 10) rfl rfl Tryd.func20 (by kernel_rfl) rfl #[.string (⟨#[48, 56, 48]⟩ : ByteArray)] rfl z0_ ?_; (with_reducible refine (host_Port.calls (⟨#[48, 56, 48]⟩ : ByteArray) t106 false _ ?gw8_ A2.out).mono ?_); (case gw8_ => first | exact hG_ | (refine GW.below hG_ ?_; first | (with_reducible exact HB.out) | (repeat (first | (with_reducible first | exact HB.out | apply below_alloc | apply pw_below_drewN | apply below_drew1 | apply below_drew | exact Below.refl _ _) | exact HB.out))) | (apply GW.drewN; exact hG_) | (apply GW.drew; exact hG_)); rintro e w18 ⟨rfl, hb⟩; refine ⟨_, rfl, ?_⟩; have n0_ := Aside0.mk (below_step z1_ hb); clear HB; have HB := n0_; clear n0_; (try clear hb); (try clear hb2); (try clear hk); (try clear hi)) | ((with_reducible refine gate_callee (f := 16) rfl ?_); refine goesL_ (some 13) rfl rfl Tryd.func16 (by kernel_rfl) rfl #[.string (⟨#[97, 46, 101, 120, 97, 109, 112, 108, 101]⟩ : ByteArray)] rfl z0_ ?_; (with_reducible refine (host_Good.calls k (⟨#[97, 46, 101, 120, 97, 109, 112, 108, 101]⟩ : ByteArray) true _ ?gw9_ A3.out).mono ?_); (case gw9_ => first | exact hG_ | (refine GW.below hG_ ?_; first | (with_reducible exact HB.out) | (repeat (first | (with_reducible first | exact HB.out | apply below_alloc | apply pw_below_drewN | apply below_drew1 | apply below_drew | exact Below.refl _ _) | exact HB.out))) | (apply GW.drewN; exact hG_) | (apply GW.drew; exact hG_)); rintro e w19 ⟨rfl, hb⟩; refine ⟨_, rfl, ?_⟩; have n0_ := Aside0.mk (below_step z1_ hb); clear HB; have HB := n0_; clear n0_; (try clear hb); (try clear hb2); (try clear hk); (try clear hi)) | (go_at_call 16; (fail_if_success (have z_ := U_4)); have U_4 := trivial; (with_reducible refine (host_Good.calls k (⟨#[97, 46, 46, 98]⟩ : ByteArray) false _ ?gw10_ A5.out).mono ?_); (case gw10_ => first | exact hG_ | (refine GW.below hG_ ?_; first | (with_reducible exact HB.out) | (repeat (first | (with_reducible first | exact HB.out | apply below_alloc | apply pw_below_drewN | apply below_drew1 | apply below_drew | exact Below.refl _ _) | exact HB.out))) | (apply GW.drewN; exact hG_) | (apply GW.drew; exact hG_)); rintro e w20 ⟨rfl, hb⟩; have n0_ := Aside0.mk (below_step z1_ hb); clear HB; have HB := n0_; clear n0_; (try clear hb); (try clear hb2); (try clear hk); (try clear hi)) | (go_at_call 16; (fail_if_success (have z_ := U_5)); have U_5 := trivial; (with_reducible refine (host_Good.calls k (⟨#[45, 97]⟩ : ByteArray) false _ ?gw11_ A7.out).mono ?_); (case gw11_ => first | exact hG_ | (refine GW.below hG_ ?_; first | (with_reducible exact HB.out) | (repeat (first | (with_reducible first | exact HB.out | apply below_alloc | apply pw_below_drewN | apply below_drew1 | apply below_drew | exact Below.refl _ _) | exact HB.out))) | (apply GW.drewN; exact hG_) | (apply GW.drew; exact hG_)); rintro e w21 ⟨rfl, hb⟩; have n0_ := Aside0.mk (below_step z1_ hb); clear HB; have HB := n0_; clear n0_; (try clear hb); (try clear hb2); (try clear hk); (try clear hi)) | (go_at_call 18; (fail_if_success (have z_ := U_6)); have U_6 := trivial; (with_reducible refine (host_Under.calls k (⟨#[97, 46, 101, 120, 97, 109, 112, 108, 101]⟩ : ByteArray) (⟨#[101, 120, 97, 109, 112, 108, 101]⟩ : ByteArray) true _ ?gw12_ A9.out).mono ?_); (case gw12_ => first | exact hG_ | (refine GW.below hG_ ?_; first | (with_reducible exact HB.out) | (repeat (first | (with_reducible first | exact HB.out | apply below_alloc | apply pw_below_drewN | apply below_drew1 | apply below_drew | exact Below.refl _ _) | exact HB.out))) | (apply GW.drewN; exact hG_) | (apply GW.drew; exact hG_)); rintro e w22 ⟨rfl, hb⟩; have n0_ := Aside0.mk (below_step z1_ hb); clear HB; have HB := n0_; clear n0_; (try clear hb); (try clear hb2); (try clear hk); (try clear hi)) | (go_at_call 18; (fail_if_success (have z_ := U_7)); have U_7 := trivial; (with_reducible refine (host_Under.calls k (⟨#[98, 97, 100, 101, 120, 97, 109, 112, 108, 101]⟩ : ByteArray) (⟨#[101, 120, 97, 109, 112, 108, 101]⟩ : ByteArray) false _ ?gw13_ A11.out).mono ?_); (case gw13_ => first | exact hG_ | (refine GW.below hG_ ?_; first | (with_reducible exact HB.out) | (repeat (first | (with_reducible first | exact HB.out | apply below_alloc | apply pw_below_drewN | apply below_drew1 | apply below_drew | exact Below.refl _ _) | exact HB.out))) | (apply GW.drewN; exact hG_) | (apply GW.drew; exact hG_)); rintro e w23 ⟨rfl, hb⟩; have n0_ := Aside0.mk (below_step z1_ hb); clear HB; have HB := n0_; clear n0_; (try clear hb); (try clear hb2); (try clear hk); (try clear hi)) | (go_at_call 22; (fail_if_success (have z_ := U_8)); have U_8 := trivial; (with_reducible refine (host_Default.calls (⟨#[104, 116, 116, 112, 115]⟩ : ByteArray) t113 _ ?gw14_ A16.out).mono ?_); (case gw14_ => first | exact hG_ | (refine GW.below hG_ ?_; first | (with_reducible exact HB.out) | (repeat (first | (with_reducible first | exact HB.out | apply below_alloc | apply pw_below_drewN | apply below_drew1 | apply below_drew | exact Below.refl _ _) | exact HB.out))) | (apply GW.drewN; exact hG_) | (apply GW.drew; exact hG_)); rintro e w' ⟨rfl, ⟨nd, rfl⟩⟩))
         go_ret
         exact ⟨z2_, z1_⟩
       ·replace c14 := Bool.eq_false_iff.mpr c14
        subst c14
        have H1 : (some false) = some r := by rw [if_neg (show ¬ (false = true) by decide)] at H; exact H
        clear H
        have H := H1
        clear H1
        exact absurd ((Option.some.inj H).trans hr_) Bool.false_ne_true
      ·rw [if_neg c13] at H
       have c13b0 : (t104 == 8080) = false := beq_eq_false_iff_ne.mpr c13
       have c13b1 : (t104 != 8080) = true := bne_iff_ne.mpr c13
       exact absurd ((Option.some.inj H).trans hr_) Bool.false_ne_true
    ·replace c10 := Bool.eq_false_iff.mpr c10
     subst c10
     have H1 : (some false) = some r := by rw [if_neg (show ¬ (false = true) by decide)] at H; exact H
     clear H
     have H := H1
     clear H1
     exact absurd ((Option.some.inj H).trans hr_) Bool.false_ne_true
 ·replace c4 := Bool.eq_false_iff.mpr c4
  subst c4
  have H1 : (some false) = some r := by rw [if_neg (show ¬ (false = true) by decide)] at H; exact H
  clear H
  have H := H1
  clear H1
  exact absurd ((Option.some.inj H).trans hr_) Bool.false_ne_true

/-! ### pursuivantlaw05_HostGoods: function 3 -/
/-! ### pursuivantlaw05_HostPorts: function 4 -/
def pursuivantlaw05_HostPorts.f (k : Nat) (a0 : ByteArray) (a1 : ByteArray) : Option (Bool) := (host_Port.f a0).bind fun bt119 => ((pursuivantref05_Port.f k a0).bind fun bt121 => ((pursuivantlaw05_awake.f k).bind fun t123 => (if t123 = true then (if bt119.1 = bt121.1 then (if (bt119.2 == bt121.2) = true then ((host_Default.f a1).bind fun t124 => ((pursuivantref05_Default.f a1).bind fun t125 => (some (t124 == t125)))) else (some false)) else (some false)) else (some false))))
set_option maxHeartbeats 8000000 in
set_option maxRecDepth 100000 in
theorem pursuivantlaw05_HostPorts.calls (k : Nat) (a0 : ByteArray) (a1 : ByteArray) (r : Bool) (w : World) (hG_ : GW w) (h : pursuivantlaw05_HostPorts.f k a0 a1 = some r) (hr_ : r = true) :
  Calls Tryd.prog 4 #[.string a0, .string a1] w fun e w' => e = .returned (.bool r) ∧ Below w.heap.size w w' := by
 have HB := Aside0.mk (Below.refl w.heap.size w)
 have H : ((host_Port.f a0).bind fun bt119 => ((pursuivantref05_Port.f k a0).bind fun bt121 => ((pursuivantlaw05_awake.f k).bind fun t123 => (if t123 = true then (if bt119.1 = bt121.1 then (if (bt119.2 == bt121.2) = true then ((host_Default.f a1).bind fun t124 => ((pursuivantref05_Default.f a1).bind fun t125 => (some (t124 == t125)))) else (some false)) else (some false)) else (some false))))) = some r := h
 clear h
 replace H := Option.bind_eq_some_iff.mp H
 obtain ⟨⟨t119, t120⟩, A30, H⟩ := H
 replace H : ((pursuivantref05_Port.f k a0).bind fun bt121 => ((pursuivantlaw05_awake.f k).bind fun t123 => (if t123 = true then (if t119 = bt121.1 then (if (t120 == bt121.2) = true then ((host_Default.f a1).bind fun t124 => ((pursuivantref05_Default.f a1).bind fun t125 => (some (t124 == t125)))) else (some false)) else (some false)) else (some false)))) = some r := H
 have A3 := Aside0.mk A30
 clear A30
 replace H := Option.bind_eq_some_iff.mp H
 obtain ⟨⟨t121, t122⟩, A40, H⟩ := H
 replace H : ((pursuivantlaw05_awake.f k).bind fun t123 => (if t123 = true then (if t119 = t121 then (if (t120 == t122) = true then ((host_Default.f a1).bind fun t124 => ((pursuivantref05_Default.f a1).bind fun t125 => (some (t124 == t125)))) else (some false)) else (some false)) else (some false))) = some r := H
 have A4 := Aside0.mk A40
 clear A40
 replace H := Option.bind_eq_some_iff.mp H
 obtain ⟨t123, A50, H⟩ := H
 replace H : (if t123 = true then (if t119 = t121 then (if (t120 == t122) = true then ((host_Default.f a1).bind fun t124 => ((pursuivantref05_Default.f a1).bind fun t125 => (some (t124 == t125)))) else (some false)) else (some false)) else (some false)) = some r := H
 have A5 := Aside0.mk A50
 clear A50
 by_cases c6 : t123 = true
 ·subst c6
  have H1 : (if t119 = t121 then (if (t120 == t122) = true then ((host_Default.f a1).bind fun t124 => ((pursuivantref05_Default.f a1).bind fun t125 => (some (t124 == t125)))) else (some false)) else (some false)) = some r := by rw [if_pos rfl] at H; exact H
  clear H
  have H := H1
  clear H1
  by_cases c7 : t119 = t121
  ·rw [if_pos c7] at H
   have c7b0 : (t119 == t121) = true := beq_iff_eq.mpr c7
   have c7b1 : (t119 != t121) = false := bne_eq_false_iff_eq.mpr c7
   clear c7
   by_cases c8 : (t120 == t122) = true
   ·rw [if_pos c8] at H
    have c8b0 : (t120 == t122) = true := c8
    (try (have c8b1 : decide (t120 = t122) = true := by simpa using c8))
    (try (have c8b2 : (t120 == t122) = true := by simpa using c8))
    clear c8
    replace H := Option.bind_eq_some_iff.mp H
    obtain ⟨t124, A90, H⟩ := H
    replace H : ((pursuivantref05_Default.f a1).bind fun t125 => (some (t124 == t125))) = some r := H
    have A9 := Aside0.mk A90
    clear A90
    replace H := Option.bind_eq_some_iff.mp H
    obtain ⟨t125, A100, H⟩ := H
    replace H : (some (t124 == t125)) = some r := H
    have A10 := Aside0.mk A100
    clear A100
    obtain rfl := Option.some.inj H
    go_enter Tryd.func4, Tryd.ntmps4
    go_wp2_with (first | ((with_reducible refine gate_callee (f := 20) rfl ?_); refine goesL_ (some 11) rfl rfl Tryd.func20 (by kernel_rfl) rfl #[.string a0] rfl z0_ ?_; (with_reducible refine (host_Port.calls a0 t119 t120 _ ?gw20_ A3.out).mono ?_); (case gw20_ => first | exact hG_ | (refine GW.below hG_ ?_; first | (with_reducible exact HB.out) | (repeat (first | (with_reducible first | exact HB.out | apply below_alloc | apply pw_below_drewN | apply below_drew1 | apply below_drew | exact Below.refl _ _) | exact HB.out))) | (apply GW.drewN; exact hG_) | (apply GW.drew; exact hG_)); rintro e w11 ⟨rfl, hb⟩; refine ⟨_, rfl, ?_⟩; have n0_ := Aside0.mk (below_step z1_ hb); clear HB; have HB := n0_; clear n0_; (try clear hb); (try clear hb2); (try clear hk); (try clear hi)) | ((with_reducible refine gate_callee (f := 21) rfl ?_); refine goesL_ (some 16) rfl rfl Tryd.func21 (by kernel_rfl) rfl #[.string a0] rfl z0_ ?_; (with_reducible refine (pursuivantref05_Port.calls k a0 t121 t122 _ ?gw21_ A4.out).mono ?_); (case gw21_ => first | exact hG_ | (refine GW.below hG_ ?_; first | (with_reducible exact HB.out) | (repeat (first | (with_reducible first | exact HB.out | apply below_alloc | apply pw_below_drewN | apply below_drew1 | apply below_drew | exact Below.refl _ _) | exact HB.out))) | (apply GW.drewN; exact hG_) | (apply GW.drew; exact hG_)); rintro e w' ⟨rfl, ⟨nd, rfl⟩⟩; refine ⟨_, rfl, ?_⟩) | ((with_reducible refine gate_callee (f := 15) rfl ?_); refine goesL_ (some 19) rfl rfl Tryd.func15 (by kernel_rfl) rfl #[] rfl z0_ ?_; (with_reducible refine (pursuivantlaw05_awake.calls k  true _ ?gw22_ A5.out (by first | rfl | assumption)).mono ?_); (case gw22_ => first | exact hG_ | (refine GW.below hG_ ?_; first | (with_reducible exact HB.out) | (repeat (first | (with_reducible first | exact HB.out | apply below_alloc | apply pw_below_drewN | apply below_drew1 | apply below_drew | exact Below.refl _ _) | exact HB.out))) | (apply GW.drewN; exact hG_) | (apply GW.drew; exact hG_)); rintro e w12 ⟨rfl, hb⟩; refine ⟨_, rfl, ?_⟩; have n0_ := Aside0.mk (below_step z1_ hb); clear HB; have HB := n0_; clear n0_; (try clear hb); (try clear hb2); (try clear hk); (try clear hi)) | (go_at_call 22; (fail_if_success (have z_ := U_13)); have U_13 := trivial; (with_reducible refine (host_Default.calls a1 t124 _ ?gw23_ A9.out).mono ?_); (case gw23_ => first | exact hG_ | (refine GW.below hG_ ?_; first | (with_reducible exact HB.out) | (repeat (first | (with_reducible first | exact HB.out | apply below_alloc | apply pw_below_drewN | apply below_drew1 | apply below_drew | exact Below.refl _ _) | exact HB.out))) | (apply GW.drewN; exact hG_) | (apply GW.drew; exact hG_)); rintro e w' ⟨rfl, ⟨nd, rfl⟩⟩) | (go_at_call 23; (fail_if_success (have z_ := U_14)); have U_14 := trivial; (with_reducible refine (pursuivantref05_Default.calls a1 t125 _ ?gw24_ A10.out).mono ?_); (case gw24_ => first | exact hG_ | (refine GW.below hG_ ?_; first | (with_reducible exact HB.out) | (repeat (first | (with_reducible first | exact HB.out | apply below_alloc | apply pw_below_drewN | apply below_drew1 | apply below_drew | exact Below.refl _ _) | exact HB.out))) | (apply GW.drewN; exact hG_) | (apply GW.drew; exact hG_)); rintro e w' ⟨rfl, ⟨nd, rfl⟩⟩))
    go_ret
    exact ⟨z2_, z1_⟩
   ·rw [if_neg c8] at H
    have c8b0 : (t120 == t122) = false := by simpa using c8
    (try (have c8b1 : decide (t120 = t122) = false := by simpa using c8))
    (try (have c8b2 : (t120 == t122) = false := by simpa using c8))
    (try (have c8b3 : ¬ (t120 = t122) := by simpa using c8))
    clear c8
    exact absurd ((Option.some.inj H).trans hr_) Bool.false_ne_true
  ·rw [if_neg c7] at H
   have c7b0 : (t119 == t121) = false := beq_eq_false_iff_ne.mpr c7
   have c7b1 : (t119 != t121) = true := bne_iff_ne.mpr c7
   exact absurd ((Option.some.inj H).trans hr_) Bool.false_ne_true
 ·replace c6 := Bool.eq_false_iff.mpr c6
  subst c6
  have H1 : (some false) = some r := by rw [if_neg (show ¬ (false = true) by decide)] at H; exact H
  clear H
  have H := H1
  clear H1
  exact absurd ((Option.some.inj H).trans hr_) Bool.false_ne_true

/-! ### pursuivantlaw05_HostJoins: function 5 -/
end Go.Proofs.YtindkgcbglonhaaDoor.Hand
