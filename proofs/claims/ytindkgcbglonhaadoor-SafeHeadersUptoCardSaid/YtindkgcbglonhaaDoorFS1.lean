/- What each Go function here computes, and that its call computes it, over contracts proved by hand (written by this project's xprint.py, which drives the kit's print). -/
import Derived.Test.YtindkgcbglonhaaDoorZ
import Derived.Test.YtindkgcbglonhaaDoorK
import Derived.Test.YtindkgcbglonhaaDoorSafeU
import Derived.Test.YtindkgcbglonhaaDoorSafeR
import Derived.Test.YtindkgcbglonhaaDoorFA1
import Derived.Test.YtindkgcbglonhaaDoorFA2
namespace Go.Proofs.YtindkgcbglonhaaDoor.Hand
open Go.RowKit Go.Proofs.YtindkgcbglonhaaDoorW.PrintWords Go.Proofs.YtindkgcbglonhaaDoorW.PrintLast Go.Proofs.YtindkgcbglonhaaDoorW.PrintMore
attribute [local go_sem] max2_int min2_int max_two min_two max_three min_three max_four min_four   -- for this text's walks alone
set_option linter.unusedVariables false
set_option linter.unusedSimpArgs false

/-! ### pursuivantlaw10_awake: function 24 -/
def pursuivantlaw10_awake.f (k : Nat)  : Option (Bool) := (safe_Method.f (⟨#[103, 101, 116]⟩ : ByteArray)).bind fun t104 => (if t104.toList = ([71, 69, 84] : List UInt8) then ((safe_Method.f (⟨#[112, 97, 116, 99, 104]⟩ : ByteArray)).bind fun t105 => (if t105.toList = ([112, 97, 116, 99, 104] : List UInt8) then ((safe_Bad.f (⟨#[116, 114, 97, 99, 101]⟩ : ByteArray)).bind fun t106 => (if t106 = true then ((safe_Simple.f (⟨#[72, 69, 65, 68]⟩ : ByteArray)).bind fun t107 => (if t107 = true then ((safe_Simple.f (⟨#[80, 85, 84]⟩ : ByteArray)).bind fun t108 => (if t108 = true then (some false) else ((safe_Forbidden.f k (⟨#[83, 101, 99, 45, 88]⟩ : ByteArray)).bind fun t109 => (if t109 = true then ((safe_Forbidden.f k (⟨#[88, 45, 83, 101, 99, 45]⟩ : ByteArray)).bind fun t110 => (if t110 = true then (some false) else ((safe_Header.f k (⟨#[99, 111, 110, 116, 101, 110, 116, 45, 116, 121, 112, 101]⟩ : ByteArray) (⟨#[116, 101, 120, 116, 47, 112, 108, 97, 105, 110, 59, 99, 104, 97, 114, 115, 101, 116, 61, 117, 116, 102, 45, 56]⟩ : ByteArray)).bind fun t111 => (if t111 = true then ((safe_Unsafe.f k (([(⟨(⟨#[88, 45, 66]⟩ : ByteArray), (⟨#[]⟩ : ByteArray)⟩ : S31), (⟨(⟨#[65, 99, 99, 101, 112, 116]⟩ : ByteArray), (⟨#[97]⟩ : ByteArray)⟩ : S31), (⟨(⟨#[120, 45, 97]⟩ : ByteArray), (⟨#[]⟩ : ByteArray)⟩ : S31), (⟨(⟨#[120, 45, 98]⟩ : ByteArray), (⟨#[]⟩ : ByteArray)⟩ : S31), (⟨(⟨#[67, 111, 110, 116, 101, 110, 116, 45, 84, 121, 112, 101]⟩ : ByteArray), (⟨#[97, 112, 112, 108, 105, 99, 97, 116, 105, 111, 110, 47, 106, 115, 111, 110]⟩ : ByteArray)⟩ : S31)] : List (S31)))).bind fun t112 => ((pursuivantref04_Same.f k t112 (([(⟨#[99, 111, 110, 116, 101, 110, 116, 45, 116, 121, 112, 101]⟩ : ByteArray), (⟨#[120, 45, 97]⟩ : ByteArray), (⟨#[120, 45, 98]⟩ : ByteArray)] : List ByteArray))).bind fun t118 => (some t118))) else (some false))))) else (some false))))) else (some false))) else (some false))) else (some false))) else (some false))
set_option maxHeartbeats 8000000 in
set_option maxRecDepth 100000 in
theorem pursuivantlaw10_awake.calls (k : Nat)  (r : Bool) (w : World) (hG_ : GW w) (h : pursuivantlaw10_awake.f k  = some r) (hr_ : r = true) :
  Calls Tryd.prog 24 #[] w fun e w' => e = .returned (.bool r) ∧ Below w.heap.size w w' := by
 have hu31 := Tryd.underlying31
 have HB := Aside0.mk (Below.refl w.heap.size w)
 have H : ((safe_Method.f (⟨#[103, 101, 116]⟩ : ByteArray)).bind fun t104 => (if t104.toList = ([71, 69, 84] : List UInt8) then ((safe_Method.f (⟨#[112, 97, 116, 99, 104]⟩ : ByteArray)).bind fun t105 => (if t105.toList = ([112, 97, 116, 99, 104] : List UInt8) then ((safe_Bad.f (⟨#[116, 114, 97, 99, 101]⟩ : ByteArray)).bind fun t106 => (if t106 = true then ((safe_Simple.f (⟨#[72, 69, 65, 68]⟩ : ByteArray)).bind fun t107 => (if t107 = true then ((safe_Simple.f (⟨#[80, 85, 84]⟩ : ByteArray)).bind fun t108 => (if t108 = true then (some false) else ((safe_Forbidden.f k (⟨#[83, 101, 99, 45, 88]⟩ : ByteArray)).bind fun t109 => (if t109 = true then ((safe_Forbidden.f k (⟨#[88, 45, 83, 101, 99, 45]⟩ : ByteArray)).bind fun t110 => (if t110 = true then (some false) else ((safe_Header.f k (⟨#[99, 111, 110, 116, 101, 110, 116, 45, 116, 121, 112, 101]⟩ : ByteArray) (⟨#[116, 101, 120, 116, 47, 112, 108, 97, 105, 110, 59, 99, 104, 97, 114, 115, 101, 116, 61, 117, 116, 102, 45, 56]⟩ : ByteArray)).bind fun t111 => (if t111 = true then ((safe_Unsafe.f k (([(⟨(⟨#[88, 45, 66]⟩ : ByteArray), (⟨#[]⟩ : ByteArray)⟩ : S31), (⟨(⟨#[65, 99, 99, 101, 112, 116]⟩ : ByteArray), (⟨#[97]⟩ : ByteArray)⟩ : S31), (⟨(⟨#[120, 45, 97]⟩ : ByteArray), (⟨#[]⟩ : ByteArray)⟩ : S31), (⟨(⟨#[120, 45, 98]⟩ : ByteArray), (⟨#[]⟩ : ByteArray)⟩ : S31), (⟨(⟨#[67, 111, 110, 116, 101, 110, 116, 45, 84, 121, 112, 101]⟩ : ByteArray), (⟨#[97, 112, 112, 108, 105, 99, 97, 116, 105, 111, 110, 47, 106, 115, 111, 110]⟩ : ByteArray)⟩ : S31)] : List (S31)))).bind fun t112 => ((pursuivantref04_Same.f k t112 (([(⟨#[99, 111, 110, 116, 101, 110, 116, 45, 116, 121, 112, 101]⟩ : ByteArray), (⟨#[120, 45, 97]⟩ : ByteArray), (⟨#[120, 45, 98]⟩ : ByteArray)] : List ByteArray))).bind fun t118 => (some t118))) else (some false))))) else (some false))))) else (some false))) else (some false))) else (some false))) else (some false))) = some r := h
 clear h
 obtain ⟨y101, hy101⟩ : ∃ y_ : List (S31), y_ = (([(⟨(⟨#[88, 45, 66]⟩ : ByteArray), (⟨#[]⟩ : ByteArray)⟩ : S31), (⟨(⟨#[65, 99, 99, 101, 112, 116]⟩ : ByteArray), (⟨#[97]⟩ : ByteArray)⟩ : S31), (⟨(⟨#[120, 45, 97]⟩ : ByteArray), (⟨#[]⟩ : ByteArray)⟩ : S31), (⟨(⟨#[120, 45, 98]⟩ : ByteArray), (⟨#[]⟩ : ByteArray)⟩ : S31), (⟨(⟨#[67, 111, 110, 116, 101, 110, 116, 45, 84, 121, 112, 101]⟩ : ByteArray), (⟨#[97, 112, 112, 108, 105, 99, 97, 116, 105, 111, 110, 47, 106, 115, 111, 110]⟩ : ByteArray)⟩ : S31)] : List (S31))) := ⟨_, rfl⟩
 replace H : ((safe_Method.f (⟨#[103, 101, 116]⟩ : ByteArray)).bind fun t104 => (if t104.toList = ([71, 69, 84] : List UInt8) then ((safe_Method.f (⟨#[112, 97, 116, 99, 104]⟩ : ByteArray)).bind fun t105 => (if t105.toList = ([112, 97, 116, 99, 104] : List UInt8) then ((safe_Bad.f (⟨#[116, 114, 97, 99, 101]⟩ : ByteArray)).bind fun t106 => (if t106 = true then ((safe_Simple.f (⟨#[72, 69, 65, 68]⟩ : ByteArray)).bind fun t107 => (if t107 = true then ((safe_Simple.f (⟨#[80, 85, 84]⟩ : ByteArray)).bind fun t108 => (if t108 = true then (some false) else ((safe_Forbidden.f k (⟨#[83, 101, 99, 45, 88]⟩ : ByteArray)).bind fun t109 => (if t109 = true then ((safe_Forbidden.f k (⟨#[88, 45, 83, 101, 99, 45]⟩ : ByteArray)).bind fun t110 => (if t110 = true then (some false) else ((safe_Header.f k (⟨#[99, 111, 110, 116, 101, 110, 116, 45, 116, 121, 112, 101]⟩ : ByteArray) (⟨#[116, 101, 120, 116, 47, 112, 108, 97, 105, 110, 59, 99, 104, 97, 114, 115, 101, 116, 61, 117, 116, 102, 45, 56]⟩ : ByteArray)).bind fun t111 => (if t111 = true then ((safe_Unsafe.f k y101).bind fun t112 => ((pursuivantref04_Same.f k t112 (([(⟨#[99, 111, 110, 116, 101, 110, 116, 45, 116, 121, 112, 101]⟩ : ByteArray), (⟨#[120, 45, 97]⟩ : ByteArray), (⟨#[120, 45, 98]⟩ : ByteArray)] : List ByteArray))).bind fun t118 => (some t118))) else (some false))))) else (some false))))) else (some false))) else (some false))) else (some false))) else (some false))) = some r := by first | (rw [hy101]; with_reducible exact H) | (have H2_ := (Option.bind_some _ _).symm.trans H; rw [hy101]; with_reducible exact H2_) | (have H2_ := (Option.bind_some _ _).symm.trans H; with_reducible exact H2_) | with_reducible exact H | (rw [hy101]; exact H) | exact H
 have Ny101 := Aside0.mk hy101
 clear hy101
 replace H := Option.bind_eq_some_iff.mp H
 obtain ⟨t104, A10, H⟩ := H
 replace H : (if t104.toList = ([71, 69, 84] : List UInt8) then ((safe_Method.f (⟨#[112, 97, 116, 99, 104]⟩ : ByteArray)).bind fun t105 => (if t105.toList = ([112, 97, 116, 99, 104] : List UInt8) then ((safe_Bad.f (⟨#[116, 114, 97, 99, 101]⟩ : ByteArray)).bind fun t106 => (if t106 = true then ((safe_Simple.f (⟨#[72, 69, 65, 68]⟩ : ByteArray)).bind fun t107 => (if t107 = true then ((safe_Simple.f (⟨#[80, 85, 84]⟩ : ByteArray)).bind fun t108 => (if t108 = true then (some false) else ((safe_Forbidden.f k (⟨#[83, 101, 99, 45, 88]⟩ : ByteArray)).bind fun t109 => (if t109 = true then ((safe_Forbidden.f k (⟨#[88, 45, 83, 101, 99, 45]⟩ : ByteArray)).bind fun t110 => (if t110 = true then (some false) else ((safe_Header.f k (⟨#[99, 111, 110, 116, 101, 110, 116, 45, 116, 121, 112, 101]⟩ : ByteArray) (⟨#[116, 101, 120, 116, 47, 112, 108, 97, 105, 110, 59, 99, 104, 97, 114, 115, 101, 116, 61, 117, 116, 102, 45, 56]⟩ : ByteArray)).bind fun t111 => (if t111 = true then ((safe_Unsafe.f k y101).bind fun t112 => ((pursuivantref04_Same.f k t112 (([(⟨#[99, 111, 110, 116, 101, 110, 116, 45, 116, 121, 112, 101]⟩ : ByteArray), (⟨#[120, 45, 97]⟩ : ByteArray), (⟨#[120, 45, 98]⟩ : ByteArray)] : List ByteArray))).bind fun t118 => (some t118))) else (some false))))) else (some false))))) else (some false))) else (some false))) else (some false))) else (some false)) = some r := H
 have A1 := Aside0.mk A10
 clear A10
 by_cases c2 : t104.toList = ([71, 69, 84] : List UInt8)
 ·rw [if_pos c2] at H
  have c2b0 : (t104.toList == ([71, 69, 84] : List UInt8)) = true := beq_iff_eq.mpr c2
  have c2b1 : (t104.toList != ([71, 69, 84] : List UInt8)) = false := bne_eq_false_iff_eq.mpr c2
  clear c2
  replace H := Option.bind_eq_some_iff.mp H
  obtain ⟨t105, A30, H⟩ := H
  replace H : (if t105.toList = ([112, 97, 116, 99, 104] : List UInt8) then ((safe_Bad.f (⟨#[116, 114, 97, 99, 101]⟩ : ByteArray)).bind fun t106 => (if t106 = true then ((safe_Simple.f (⟨#[72, 69, 65, 68]⟩ : ByteArray)).bind fun t107 => (if t107 = true then ((safe_Simple.f (⟨#[80, 85, 84]⟩ : ByteArray)).bind fun t108 => (if t108 = true then (some false) else ((safe_Forbidden.f k (⟨#[83, 101, 99, 45, 88]⟩ : ByteArray)).bind fun t109 => (if t109 = true then ((safe_Forbidden.f k (⟨#[88, 45, 83, 101, 99, 45]⟩ : ByteArray)).bind fun t110 => (if t110 = true then (some false) else ((safe_Header.f k (⟨#[99, 111, 110, 116, 101, 110, 116, 45, 116, 121, 112, 101]⟩ : ByteArray) (⟨#[116, 101, 120, 116, 47, 112, 108, 97, 105, 110, 59, 99, 104, 97, 114, 115, 101, 116, 61, 117, 116, 102, 45, 56]⟩ : ByteArray)).bind fun t111 => (if t111 = true then ((safe_Unsafe.f k y101).bind fun t112 => ((pursuivantref04_Same.f k t112 (([(⟨#[99, 111, 110, 116, 101, 110, 116, 45, 116, 121, 112, 101]⟩ : ByteArray), (⟨#[120, 45, 97]⟩ : ByteArray), (⟨#[120, 45, 98]⟩ : ByteArray)] : List ByteArray))).bind fun t118 => (some t118))) else (some false))))) else (some false))))) else (some false))) else (some false))) else (some false)) = some r := H
  have A3 := Aside0.mk A30
  clear A30
  by_cases c4 : t105.toList = ([112, 97, 116, 99, 104] : List UInt8)
  ·rw [if_pos c4] at H
   have c4b0 : (t105.toList == ([112, 97, 116, 99, 104] : List UInt8)) = true := beq_iff_eq.mpr c4
   have c4b1 : (t105.toList != ([112, 97, 116, 99, 104] : List UInt8)) = false := bne_eq_false_iff_eq.mpr c4
   clear c4
   replace H := Option.bind_eq_some_iff.mp H
   obtain ⟨t106, A50, H⟩ := H
   replace H : (if t106 = true then ((safe_Simple.f (⟨#[72, 69, 65, 68]⟩ : ByteArray)).bind fun t107 => (if t107 = true then ((safe_Simple.f (⟨#[80, 85, 84]⟩ : ByteArray)).bind fun t108 => (if t108 = true then (some false) else ((safe_Forbidden.f k (⟨#[83, 101, 99, 45, 88]⟩ : ByteArray)).bind fun t109 => (if t109 = true then ((safe_Forbidden.f k (⟨#[88, 45, 83, 101, 99, 45]⟩ : ByteArray)).bind fun t110 => (if t110 = true then (some false) else ((safe_Header.f k (⟨#[99, 111, 110, 116, 101, 110, 116, 45, 116, 121, 112, 101]⟩ : ByteArray) (⟨#[116, 101, 120, 116, 47, 112, 108, 97, 105, 110, 59, 99, 104, 97, 114, 115, 101, 116, 61, 117, 116, 102, 45, 56]⟩ : ByteArray)).bind fun t111 => (if t111 = true then ((safe_Unsafe.f k y101).bind fun t112 => ((pursuivantref04_Same.f k t112 (([(⟨#[99, 111, 110, 116, 101, 110, 116, 45, 116, 121, 112, 101]⟩ : ByteArray), (⟨#[120, 45, 97]⟩ : ByteArray), (⟨#[120, 45, 98]⟩ : ByteArray)] : List ByteArray))).bind fun t118 => (some t118))) else (some false))))) else (some false))))) else (some false))) else (some false)) = some r := H
   have A5 := Aside0.mk A50
   clear A50
   by_cases c6 : t106 = true
   ·subst c6
    have H1 : ((safe_Simple.f (⟨#[72, 69, 65, 68]⟩ : ByteArray)).bind fun t107 => (if t107 = true then ((safe_Simple.f (⟨#[80, 85, 84]⟩ : ByteArray)).bind fun t108 => (if t108 = true then (some false) else ((safe_Forbidden.f k (⟨#[83, 101, 99, 45, 88]⟩ : ByteArray)).bind fun t109 => (if t109 = true then ((safe_Forbidden.f k (⟨#[88, 45, 83, 101, 99, 45]⟩ : ByteArray)).bind fun t110 => (if t110 = true then (some false) else ((safe_Header.f k (⟨#[99, 111, 110, 116, 101, 110, 116, 45, 116, 121, 112, 101]⟩ : ByteArray) (⟨#[116, 101, 120, 116, 47, 112, 108, 97, 105, 110, 59, 99, 104, 97, 114, 115, 101, 116, 61, 117, 116, 102, 45, 56]⟩ : ByteArray)).bind fun t111 => (if t111 = true then ((safe_Unsafe.f k y101).bind fun t112 => ((pursuivantref04_Same.f k t112 (([(⟨#[99, 111, 110, 116, 101, 110, 116, 45, 116, 121, 112, 101]⟩ : ByteArray), (⟨#[120, 45, 97]⟩ : ByteArray), (⟨#[120, 45, 98]⟩ : ByteArray)] : List ByteArray))).bind fun t118 => (some t118))) else (some false))))) else (some false))))) else (some false))) = some r := by rw [if_pos rfl] at H; exact H
    clear H
    have H := H1
    clear H1
    replace H := Option.bind_eq_some_iff.mp H
    obtain ⟨t107, A70, H⟩ := H
    replace H : (if t107 = true then ((safe_Simple.f (⟨#[80, 85, 84]⟩ : ByteArray)).bind fun t108 => (if t108 = true then (some false) else ((safe_Forbidden.f k (⟨#[83, 101, 99, 45, 88]⟩ : ByteArray)).bind fun t109 => (if t109 = true then ((safe_Forbidden.f k (⟨#[88, 45, 83, 101, 99, 45]⟩ : ByteArray)).bind fun t110 => (if t110 = true then (some false) else ((safe_Header.f k (⟨#[99, 111, 110, 116, 101, 110, 116, 45, 116, 121, 112, 101]⟩ : ByteArray) (⟨#[116, 101, 120, 116, 47, 112, 108, 97, 105, 110, 59, 99, 104, 97, 114, 115, 101, 116, 61, 117, 116, 102, 45, 56]⟩ : ByteArray)).bind fun t111 => (if t111 = true then ((safe_Unsafe.f k y101).bind fun t112 => ((pursuivantref04_Same.f k t112 (([(⟨#[99, 111, 110, 116, 101, 110, 116, 45, 116, 121, 112, 101]⟩ : ByteArray), (⟨#[120, 45, 97]⟩ : ByteArray), (⟨#[120, 45, 98]⟩ : ByteArray)] : List ByteArray))).bind fun t118 => (some t118))) else (some false))))) else (some false))))) else (some false)) = some r := H
    have A7 := Aside0.mk A70
    clear A70
    by_cases c8 : t107 = true
    ·subst c8
     have H1 : ((safe_Simple.f (⟨#[80, 85, 84]⟩ : ByteArray)).bind fun t108 => (if t108 = true then (some false) else ((safe_Forbidden.f k (⟨#[83, 101, 99, 45, 88]⟩ : ByteArray)).bind fun t109 => (if t109 = true then ((safe_Forbidden.f k (⟨#[88, 45, 83, 101, 99, 45]⟩ : ByteArray)).bind fun t110 => (if t110 = true then (some false) else ((safe_Header.f k (⟨#[99, 111, 110, 116, 101, 110, 116, 45, 116, 121, 112, 101]⟩ : ByteArray) (⟨#[116, 101, 120, 116, 47, 112, 108, 97, 105, 110, 59, 99, 104, 97, 114, 115, 101, 116, 61, 117, 116, 102, 45, 56]⟩ : ByteArray)).bind fun t111 => (if t111 = true then ((safe_Unsafe.f k y101).bind fun t112 => ((pursuivantref04_Same.f k t112 (([(⟨#[99, 111, 110, 116, 101, 110, 116, 45, 116, 121, 112, 101]⟩ : ByteArray), (⟨#[120, 45, 97]⟩ : ByteArray), (⟨#[120, 45, 98]⟩ : ByteArray)] : List ByteArray))).bind fun t118 => (some t118))) else (some false))))) else (some false))))) = some r := by rw [if_pos rfl] at H; exact H
     clear H
     have H := H1
     clear H1
     replace H := Option.bind_eq_some_iff.mp H
     obtain ⟨t108, A90, H⟩ := H
     replace H : (if t108 = true then (some false) else ((safe_Forbidden.f k (⟨#[83, 101, 99, 45, 88]⟩ : ByteArray)).bind fun t109 => (if t109 = true then ((safe_Forbidden.f k (⟨#[88, 45, 83, 101, 99, 45]⟩ : ByteArray)).bind fun t110 => (if t110 = true then (some false) else ((safe_Header.f k (⟨#[99, 111, 110, 116, 101, 110, 116, 45, 116, 121, 112, 101]⟩ : ByteArray) (⟨#[116, 101, 120, 116, 47, 112, 108, 97, 105, 110, 59, 99, 104, 97, 114, 115, 101, 116, 61, 117, 116, 102, 45, 56]⟩ : ByteArray)).bind fun t111 => (if t111 = true then ((safe_Unsafe.f k y101).bind fun t112 => ((pursuivantref04_Same.f k t112 (([(⟨#[99, 111, 110, 116, 101, 110, 116, 45, 116, 121, 112, 101]⟩ : ByteArray), (⟨#[120, 45, 97]⟩ : ByteArray), (⟨#[120, 45, 98]⟩ : ByteArray)] : List ByteArray))).bind fun t118 => (some t118))) else (some false))))) else (some false)))) = some r := H
     have A9 := Aside0.mk A90
     clear A90
     by_cases c10 : t108 = true
     ·subst c10
      have H1 : (some false) = some r := by rw [if_pos rfl] at H; exact H
      clear H
      have H := H1
      clear H1
      exact absurd ((Option.some.inj H).trans hr_) Bool.false_ne_true
     ·replace c10 := Bool.eq_false_iff.mpr c10
      subst c10
      have H1 : ((safe_Forbidden.f k (⟨#[83, 101, 99, 45, 88]⟩ : ByteArray)).bind fun t109 => (if t109 = true then ((safe_Forbidden.f k (⟨#[88, 45, 83, 101, 99, 45]⟩ : ByteArray)).bind fun t110 => (if t110 = true then (some false) else ((safe_Header.f k (⟨#[99, 111, 110, 116, 101, 110, 116, 45, 116, 121, 112, 101]⟩ : ByteArray) (⟨#[116, 101, 120, 116, 47, 112, 108, 97, 105, 110, 59, 99, 104, 97, 114, 115, 101, 116, 61, 117, 116, 102, 45, 56]⟩ : ByteArray)).bind fun t111 => (if t111 = true then ((safe_Unsafe.f k y101).bind fun t112 => ((pursuivantref04_Same.f k t112 (([(⟨#[99, 111, 110, 116, 101, 110, 116, 45, 116, 121, 112, 101]⟩ : ByteArray), (⟨#[120, 45, 97]⟩ : ByteArray), (⟨#[120, 45, 98]⟩ : ByteArray)] : List ByteArray))).bind fun t118 => (some t118))) else (some false))))) else (some false))) = some r := by rw [if_neg (show ¬ (false = true) by decide)] at H; exact H
      clear H
      have H := H1
      clear H1
      replace H := Option.bind_eq_some_iff.mp H
      obtain ⟨t109, A110, H⟩ := H
      replace H : (if t109 = true then ((safe_Forbidden.f k (⟨#[88, 45, 83, 101, 99, 45]⟩ : ByteArray)).bind fun t110 => (if t110 = true then (some false) else ((safe_Header.f k (⟨#[99, 111, 110, 116, 101, 110, 116, 45, 116, 121, 112, 101]⟩ : ByteArray) (⟨#[116, 101, 120, 116, 47, 112, 108, 97, 105, 110, 59, 99, 104, 97, 114, 115, 101, 116, 61, 117, 116, 102, 45, 56]⟩ : ByteArray)).bind fun t111 => (if t111 = true then ((safe_Unsafe.f k y101).bind fun t112 => ((pursuivantref04_Same.f k t112 (([(⟨#[99, 111, 110, 116, 101, 110, 116, 45, 116, 121, 112, 101]⟩ : ByteArray), (⟨#[120, 45, 97]⟩ : ByteArray), (⟨#[120, 45, 98]⟩ : ByteArray)] : List ByteArray))).bind fun t118 => (some t118))) else (some false))))) else (some false)) = some r := H
      have A11 := Aside0.mk A110
      clear A110
      by_cases c12 : t109 = true
      ·subst c12
       have H1 : ((safe_Forbidden.f k (⟨#[88, 45, 83, 101, 99, 45]⟩ : ByteArray)).bind fun t110 => (if t110 = true then (some false) else ((safe_Header.f k (⟨#[99, 111, 110, 116, 101, 110, 116, 45, 116, 121, 112, 101]⟩ : ByteArray) (⟨#[116, 101, 120, 116, 47, 112, 108, 97, 105, 110, 59, 99, 104, 97, 114, 115, 101, 116, 61, 117, 116, 102, 45, 56]⟩ : ByteArray)).bind fun t111 => (if t111 = true then ((safe_Unsafe.f k y101).bind fun t112 => ((pursuivantref04_Same.f k t112 (([(⟨#[99, 111, 110, 116, 101, 110, 116, 45, 116, 121, 112, 101]⟩ : ByteArray), (⟨#[120, 45, 97]⟩ : ByteArray), (⟨#[120, 45, 98]⟩ : ByteArray)] : List ByteArray))).bind fun t118 => (some t118))) else (some false))))) = some r := by rw [if_pos rfl] at H; exact H
       clear H
       have H := H1
       clear H1
       replace H := Option.bind_eq_some_iff.mp H
       obtain ⟨t110, A130, H⟩ := H
       replace H : (if t110 = true then (some false) else ((safe_Header.f k (⟨#[99, 111, 110, 116, 101, 110, 116, 45, 116, 121, 112, 101]⟩ : ByteArray) (⟨#[116, 101, 120, 116, 47, 112, 108, 97, 105, 110, 59, 99, 104, 97, 114, 115, 101, 116, 61, 117, 116, 102, 45, 56]⟩ : ByteArray)).bind fun t111 => (if t111 = true then ((safe_Unsafe.f k y101).bind fun t112 => ((pursuivantref04_Same.f k t112 (([(⟨#[99, 111, 110, 116, 101, 110, 116, 45, 116, 121, 112, 101]⟩ : ByteArray), (⟨#[120, 45, 97]⟩ : ByteArray), (⟨#[120, 45, 98]⟩ : ByteArray)] : List ByteArray))).bind fun t118 => (some t118))) else (some false)))) = some r := H
       have A13 := Aside0.mk A130
       clear A130
       by_cases c14 : t110 = true
       ·subst c14
        have H1 : (some false) = some r := by rw [if_pos rfl] at H; exact H
        clear H
        have H := H1
        clear H1
        exact absurd ((Option.some.inj H).trans hr_) Bool.false_ne_true
       ·replace c14 := Bool.eq_false_iff.mpr c14
        subst c14
        have H1 : ((safe_Header.f k (⟨#[99, 111, 110, 116, 101, 110, 116, 45, 116, 121, 112, 101]⟩ : ByteArray) (⟨#[116, 101, 120, 116, 47, 112, 108, 97, 105, 110, 59, 99, 104, 97, 114, 115, 101, 116, 61, 117, 116, 102, 45, 56]⟩ : ByteArray)).bind fun t111 => (if t111 = true then ((safe_Unsafe.f k y101).bind fun t112 => ((pursuivantref04_Same.f k t112 (([(⟨#[99, 111, 110, 116, 101, 110, 116, 45, 116, 121, 112, 101]⟩ : ByteArray), (⟨#[120, 45, 97]⟩ : ByteArray), (⟨#[120, 45, 98]⟩ : ByteArray)] : List ByteArray))).bind fun t118 => (some t118))) else (some false))) = some r := by rw [if_neg (show ¬ (false = true) by decide)] at H; exact H
        clear H
        have H := H1
        clear H1
        replace H := Option.bind_eq_some_iff.mp H
        obtain ⟨t111, A150, H⟩ := H
        replace H : (if t111 = true then ((safe_Unsafe.f k y101).bind fun t112 => ((pursuivantref04_Same.f k t112 (([(⟨#[99, 111, 110, 116, 101, 110, 116, 45, 116, 121, 112, 101]⟩ : ByteArray), (⟨#[120, 45, 97]⟩ : ByteArray), (⟨#[120, 45, 98]⟩ : ByteArray)] : List ByteArray))).bind fun t118 => (some t118))) else (some false)) = some r := H
        have A15 := Aside0.mk A150
        clear A150
        by_cases c16 : t111 = true
        ·subst c16
         have H1 : ((safe_Unsafe.f k y101).bind fun t112 => ((pursuivantref04_Same.f k t112 (([(⟨#[99, 111, 110, 116, 101, 110, 116, 45, 116, 121, 112, 101]⟩ : ByteArray), (⟨#[120, 45, 97]⟩ : ByteArray), (⟨#[120, 45, 98]⟩ : ByteArray)] : List ByteArray))).bind fun t118 => (some t118))) = some r := by rw [if_pos rfl] at H; exact H
         clear H
         have H := H1
         clear H1
         replace H := Option.bind_eq_some_iff.mp H
         obtain ⟨t112, A170, H⟩ := H
         replace H : ((pursuivantref04_Same.f k t112 (([(⟨#[99, 111, 110, 116, 101, 110, 116, 45, 116, 121, 112, 101]⟩ : ByteArray), (⟨#[120, 45, 97]⟩ : ByteArray), (⟨#[120, 45, 98]⟩ : ByteArray)] : List ByteArray))).bind fun t118 => (some t118)) = some r := H
         have A17 := Aside0.mk A170
         clear A170
         obtain ⟨y115, hy115⟩ : ∃ y_ : List ByteArray, y_ = (([(⟨#[99, 111, 110, 116, 101, 110, 116, 45, 116, 121, 112, 101]⟩ : ByteArray), (⟨#[120, 45, 97]⟩ : ByteArray), (⟨#[120, 45, 98]⟩ : ByteArray)] : List ByteArray)) := ⟨_, rfl⟩
         replace H : ((pursuivantref04_Same.f k t112 y115).bind fun t118 => (some t118)) = some r := by first | (rw [hy115]; with_reducible exact H) | (have H2_ := (Option.bind_some _ _).symm.trans H; rw [hy115]; with_reducible exact H2_) | (have H2_ := (Option.bind_some _ _).symm.trans H; with_reducible exact H2_) | with_reducible exact H | (rw [hy115]; exact H) | exact H
         have Ny115 := Aside0.mk hy115
         clear hy115
         replace H := Option.bind_eq_some_iff.mp H
         obtain ⟨t118, A180, H⟩ := H
         replace H : (some t118) = some r := H
         have A18 := Aside0.mk A180
         clear A180
         obtain rfl := Option.some.inj H
         go_enter Tryd.func24, Tryd.ntmps24
         go_wp2_with (first | ((with_reducible refine gate_dst (N := 7) rfl ?_); (try (refine gate_guard (by rfl) ?_; dsimp only)); refine Kd.R_lit k31 _ 31 ?hg (N := 7) ?hd (xs := ([(⟨(⟨#[88, 45, 66]⟩ : ByteArray), (⟨#[]⟩ : ByteArray)⟩ : S31), (⟨(⟨#[65, 99, 99, 101, 112, 116]⟩ : ByteArray), (⟨#[97]⟩ : ByteArray)⟩ : S31), (⟨(⟨#[120, 45, 97]⟩ : ByteArray), (⟨#[]⟩ : ByteArray)⟩ : S31), (⟨(⟨#[120, 45, 98]⟩ : ByteArray), (⟨#[]⟩ : ByteArray)⟩ : S31), (⟨(⟨#[67, 111, 110, 116, 101, 110, 116, 45, 84, 121, 112, 101]⟩ : ByteArray), (⟨#[97, 112, 112, 108, 105, 99, 97, 116, 105, 111, 110, 47, 106, 115, 111, 110]⟩ : ByteArray)⟩ : S31)] : List (S31))) (inner := [.string (⟨#[88, 45, 66]⟩ : ByteArray), .string (⟨#[]⟩ : ByteArray), .string (⟨#[65, 99, 99, 101, 112, 116]⟩ : ByteArray), .string (⟨#[97]⟩ : ByteArray), .string (⟨#[120, 45, 97]⟩ : ByteArray), .string (⟨#[]⟩ : ByteArray), .string (⟨#[120, 45, 98]⟩ : ByteArray), .string (⟨#[]⟩ : ByteArray), .string (⟨#[67, 111, 110, 116, 101, 110, 116, 45, 84, 121, 112, 101]⟩ : ByteArray), .string (⟨#[97, 112, 112, 108, 105, 99, 97, 116, 105, 111, 110, 47, 106, 115, 111, 110]⟩ : ByteArray)]) (ok := fun _ => True) (okp := fun _ => True) ?hr ?hp (fun _ hk => hk) trivial (Below.refl _ _) (Nat.le_refl _) (by simp) ?_; (case hd => rfl); (case hg => rfl); (case hr => first | (go_simp; done) | (go_simp; rfl)); (case hp => exact (Reps.c2 (show Kd.M k31 _ _ _ (⟨(⟨#[88, 45, 66]⟩ : ByteArray), (⟨#[]⟩ : ByteArray)⟩ : S31) [.string (⟨#[88, 45, 66]⟩ : ByteArray), .string (⟨#[]⟩ : ByteArray)] from (k31_mkM _ _ _ (⟨(⟨#[88, 45, 66]⟩ : ByteArray), (⟨#[]⟩ : ByteArray)⟩ : S31) )) (Reps.c2 (show Kd.M k31 _ _ _ (⟨(⟨#[65, 99, 99, 101, 112, 116]⟩ : ByteArray), (⟨#[97]⟩ : ByteArray)⟩ : S31) [.string (⟨#[65, 99, 99, 101, 112, 116]⟩ : ByteArray), .string (⟨#[97]⟩ : ByteArray)] from (k31_mkM _ _ _ (⟨(⟨#[65, 99, 99, 101, 112, 116]⟩ : ByteArray), (⟨#[97]⟩ : ByteArray)⟩ : S31) )) (Reps.c2 (show Kd.M k31 _ _ _ (⟨(⟨#[120, 45, 97]⟩ : ByteArray), (⟨#[]⟩ : ByteArray)⟩ : S31) [.string (⟨#[120, 45, 97]⟩ : ByteArray), .string (⟨#[]⟩ : ByteArray)] from (k31_mkM _ _ _ (⟨(⟨#[120, 45, 97]⟩ : ByteArray), (⟨#[]⟩ : ByteArray)⟩ : S31) )) (Reps.c2 (show Kd.M k31 _ _ _ (⟨(⟨#[120, 45, 98]⟩ : ByteArray), (⟨#[]⟩ : ByteArray)⟩ : S31) [.string (⟨#[120, 45, 98]⟩ : ByteArray), .string (⟨#[]⟩ : ByteArray)] from (k31_mkM _ _ _ (⟨(⟨#[120, 45, 98]⟩ : ByteArray), (⟨#[]⟩ : ByteArray)⟩ : S31) )) (Reps.c2 (show Kd.M k31 _ _ _ (⟨(⟨#[67, 111, 110, 116, 101, 110, 116, 45, 84, 121, 112, 101]⟩ : ByteArray), (⟨#[97, 112, 112, 108, 105, 99, 97, 116, 105, 111, 110, 47, 106, 115, 111, 110]⟩ : ByteArray)⟩ : S31) [.string (⟨#[67, 111, 110, 116, 101, 110, 116, 45, 84, 121, 112, 101]⟩ : ByteArray), .string (⟨#[97, 112, 112, 108, 105, 99, 97, 116, 105, 111, 110, 47, 106, 115, 111, 110]⟩ : ByteArray)] from (k31_mkM _ _ _ (⟨(⟨#[67, 111, 110, 116, 101, 110, 116, 45, 84, 121, 112, 101]⟩ : ByteArray), (⟨#[97, 112, 112, 108, 105, 99, 97, 116, 105, 111, 110, 47, 106, 115, 111, 110]⟩ : ByteArray)⟩ : S31) )) (Reps.none _ _))))))); intro v102 w19 ho20 hb hg_ hnew_; clear hg_ hnew_; (first | rw [← Ny101.out] at ho20 | (simp only [Int.reduceToNat] at ho20; rw [← Ny101.out] at ho20)); have n0_ := Aside0.mk (Kd.R_lower ho20 (below_size z4_)); have n1_ := Aside0.mk (below_step z4_ hb); clear HB; have HO103 := n0_; have HB := n1_; clear n0_ n1_; clear hb ho20) | ((with_reducible refine gate_callee (f := 25) rfl ?_); refine goesL_ (some 8) rfl rfl Tryd.func25 (by kernel_rfl) rfl #[.string (⟨#[103, 101, 116]⟩ : ByteArray)] rfl z3_ ?_; (with_reducible refine (safe_Method.calls (⟨#[103, 101, 116]⟩ : ByteArray) t104 _ ?gw1_ A1.out).mono ?_); (case gw1_ => first | exact hG_ | (refine GW.below hG_ ?_; first | (with_reducible exact HB.out) | (repeat (first | (with_reducible first | exact HB.out | apply below_alloc | apply pw_below_drewN | apply below_drew1 | apply below_drew | exact Below.refl _ _) | exact HB.out))) | (apply GW.drewN; exact hG_) | (apply GW.drew; exact hG_)); rintro e w21 ⟨rfl, hb⟩; refine ⟨_, rfl, ?_⟩; have n0_ := Aside0.mk (Kd.R_below z10_ hb); have n1_ := Aside0.mk (below_step z4_ hb); clear HO103; clear HB; have HO103 := n0_; have HB := n1_; clear n0_ n1_; (try clear hb); (try clear hb2); (try clear hk); (try clear hi)) | (go_at_call 25; (fail_if_success (have z_ := U_1)); have U_1 := trivial; (with_reducible refine (safe_Method.calls (⟨#[112, 97, 116, 99, 104]⟩ : ByteArray) t105 _ ?gw2_ A3.out).mono ?_); (case gw2_ => first | exact hG_ | (refine GW.below hG_ ?_; first | (with_reducible exact HB.out) | (repeat (first | (with_reducible first | exact HB.out | apply below_alloc | apply pw_below_drewN | apply below_drew1 | apply below_drew | exact Below.refl _ _) | exact HB.out))) | (apply GW.drewN; exact hG_) | (apply GW.drew; exact hG_)); rintro e w22 ⟨rfl, hb⟩; have n0_ := Aside0.mk (Kd.R_below z10_ hb); have n1_ := Aside0.mk (below_step z4_ hb); clear HO103; clear HB; have HO103 := n0_; have HB := n1_; clear n0_ n1_; (try clear hb); (try clear hb2); (try clear hk); (try clear hi)) | (go_at_call 27; (fail_if_success (have z_ := U_2)); have U_2 := trivial; (with_reducible refine (safe_Bad.calls (⟨#[116, 114, 97, 99, 101]⟩ : ByteArray) true _ ?gw3_ A5.out).mono ?_); (case gw3_ => first | exact hG_ | (refine GW.below hG_ ?_; first | (with_reducible exact HB.out) | (repeat (first | (with_reducible first | exact HB.out | apply below_alloc | apply pw_below_drewN | apply below_drew1 | apply below_drew | exact Below.refl _ _) | exact HB.out))) | (apply GW.drewN; exact hG_) | (apply GW.drew; exact hG_)); rintro e w23 ⟨rfl, hb⟩; have n0_ := Aside0.mk (Kd.R_below z10_ hb); have n1_ := Aside0.mk (below_step z4_ hb); clear HO103; clear HB; have HO103 := n0_; have HB := n1_; clear n0_ n1_; (try clear hb); (try clear hb2); (try clear hk); (try clear hi)) | (go_at_call 29; (fail_if_success (have z_ := U_3)); have U_3 := trivial; (with_reducible refine (safe_Simple.calls (⟨#[72, 69, 65, 68]⟩ : ByteArray) true _ ?gw4_ A7.out).mono ?_); (case gw4_ => first | exact hG_ | (refine GW.below hG_ ?_; first | (with_reducible exact HB.out) | (repeat (first | (with_reducible first | exact HB.out | apply below_alloc | apply pw_below_drewN | apply below_drew1 | apply below_drew | exact Below.refl _ _) | exact HB.out))) | (apply GW.drewN; exact hG_) | (apply GW.drew; exact hG_)); rintro e w' ⟨rfl, ⟨nd, rfl⟩⟩) | (go_at_call 29; (fail_if_success (have z_ := U_4)); have U_4 := trivial; (with_reducible refine (safe_Simple.calls (⟨#[80, 85, 84]⟩ : ByteArray) false _ ?gw5_ A9.out).mono ?_); (case gw5_ => first | exact hG_ | (refine GW.below hG_ ?_; first | (with_reducible exact HB.out) | (repeat (first | (with_reducible first | exact HB.out | apply below_alloc | apply pw_below_drewN | apply below_drew1 | apply below_drew | exact Below.refl _ _) | exact HB.out))) | (apply GW.drewN; exact hG_) | (apply GW.drew; exact hG_)); rintro e w' ⟨rfl, ⟨nd, rfl⟩⟩) | (go_at_call 33; (fail_if_success (have z_ := U_5)); have U_5 := trivial; (with_reducible refine (safe_Forbidden.calls k (⟨#[83, 101, 99, 45, 88]⟩ : ByteArray) true _ ?gw6_ A11.out).mono ?_); (case gw6_ => first | exact hG_ | (refine GW.below hG_ ?_; first | (with_reducible exact HB.out) | (repeat (first | (with_reducible first | exact HB.out | apply below_alloc | apply pw_below_drewN | apply below_drew1 | apply below_drew | exact Below.refl _ _) | exact HB.out))) | (apply GW.drewN; exact hG_) | (apply GW.drew; exact hG_)); rintro e w24 ⟨rfl, hb⟩; have n0_ := Aside0.mk (Kd.R_below z10_ hb); have n1_ := Aside0.mk (below_step z4_ hb); clear HO103; clear HB; have HO103 := n0_; have HB := n1_; clear n0_ n1_; (try clear hb); (try clear hb2); (try clear hk); (try clear hi)) | (go_at_call 33; (fail_if_success (have z_ := U_6)); have U_6 := trivial; (with_reducible refine (safe_Forbidden.calls k (⟨#[88, 45, 83, 101, 99, 45]⟩ : ByteArray) false _ ?gw7_ A13.out).mono ?_); (case gw7_ => first | exact hG_ | (refine GW.below hG_ ?_; first | (with_reducible exact HB.out) | (repeat (first | (with_reducible first | exact HB.out | apply below_alloc | apply pw_below_drewN | apply below_drew1 | apply below_drew | exact Below.refl _ _) | exact HB.out))) | (apply GW.drewN; exact hG_) | (apply GW.drew; exact hG_)); rintro e w25 ⟨rfl, hb⟩; have n0_ := Aside0.mk (Kd.R_below z10_ hb); have n1_ := Aside0.mk (below_step z4_ hb); clear HO103; clear HB; have HO103 := n0_; have HB := n1_; clear n0_ n1_; (try clear hb); (try clear hb2); (try clear hk); (try clear hi)) | (go_at_call 31; (fail_if_success (have z_ := U_7)); have U_7 := trivial; (with_reducible refine (safe_Header.calls k (⟨#[99, 111, 110, 116, 101, 110, 116, 45, 116, 121, 112, 101]⟩ : ByteArray) (⟨#[116, 101, 120, 116, 47, 112, 108, 97, 105, 110, 59, 99, 104, 97, 114, 115, 101, 116, 61, 117, 116, 102, 45, 56]⟩ : ByteArray) true _ ?gw8_ A15.out).mono ?_); (case gw8_ => first | exact hG_ | (refine GW.below hG_ ?_; first | (with_reducible exact HB.out) | (repeat (first | (with_reducible first | exact HB.out | apply below_alloc | apply pw_below_drewN | apply below_drew1 | apply below_drew | exact Below.refl _ _) | exact HB.out))) | (apply GW.drewN; exact hG_) | (apply GW.drew; exact hG_)); rintro e w26 ⟨rfl, hb⟩; have n0_ := Aside0.mk (Kd.R_below z10_ hb); have n1_ := Aside0.mk (below_step z4_ hb); clear HO103; clear HB; have HO103 := n0_; have HB := n1_; clear n0_ n1_; (try clear hb); (try clear hb2); (try clear hk); (try clear hi); obtain ⟨Ao27, co27, eo27⟩ := Kd.R_slice HO103.out; subst eo27) | (go_at_call 35; (fail_if_success (have z_ := U_8)); have U_8 := trivial; (with_reducible refine (safe_Unsafe.calls k _ _ y101 t112 _ ?gw9_ ?side1 ?side2 A17.out).mono ?_); (case gw9_ => first | exact hG_ | (refine GW.below hG_ ?_; first | (with_reducible exact HB.out) | (repeat (first | (with_reducible first | exact HB.out | apply below_alloc | apply pw_below_drewN | apply below_drew1 | apply below_drew | exact Below.refl _ _) | exact HB.out))) | (apply GW.drewN; exact hG_) | (apply GW.drew; exact hG_)); (case side1 => repeat (first | exact (Kd.R_reads' HO103.out).2.2 | (with_reducible refine Kd.C_alloc ?_ _) | (with_reducible refine Kd.C_drewN ?_ _) | (with_reducible refine Kd.C_drew ?_))); (case side2 => exact (Kd.R_reads' HO103.out).2.1); rintro e w28 ⟨v113, rfl, ho0, hb⟩; have n0_ := Aside0.mk (Kd.R_below z10_ hb); have n1_ := Aside0.mk (Kd.V_lower (Kd.V_mono (ok' := fun k_ => some k_ ≠ (.slice Ao27 y101.length co27 : Value).ownBlock) ho0 (fun k_ hk_ => (Kd.fresh' (Kd.R_lt z10_) k_ hk_))) (below_size z4_)); have n2_ := Aside0.mk (below_step z4_ hb); clear HO103; clear HB; have HO103 := n0_; have HO114 := n1_; have HB := n2_; clear n0_ n1_ n2_; (try clear hb); (try clear hb2); (try clear hk); (try clear hi); (try clear ho0)) | ((with_reducible refine gate_dst (N := 38) rfl ?_); (try (refine gate_guard (by rfl) ?_; dsimp only)); refine Kd.R_lit Kd.string _ 9 ?hg (N := 38) ?hd (xs := ([(⟨#[99, 111, 110, 116, 101, 110, 116, 45, 116, 121, 112, 101]⟩ : ByteArray), (⟨#[120, 45, 97]⟩ : ByteArray), (⟨#[120, 45, 98]⟩ : ByteArray)] : List ByteArray)) (inner := [.string (⟨#[99, 111, 110, 116, 101, 110, 116, 45, 116, 121, 112, 101]⟩ : ByteArray), .string (⟨#[120, 45, 97]⟩ : ByteArray), .string (⟨#[120, 45, 98]⟩ : ByteArray)]) (ok := fun _ => True) (okp := fun _ => True) ?hr ?hp (fun _ hk => hk) trivial (Below.refl _ _) (Nat.le_refl _) (by simp) ?_; (case hd => rfl); (case hg => rfl); (case hr => first | (go_simp; done) | (go_simp; rfl)); (case hp => exact (Reps.one (show Kd.M Kd.string _ _ _ (⟨#[99, 111, 110, 116, 101, 110, 116, 45, 116, 121, 112, 101]⟩ : ByteArray) [.string (⟨#[99, 111, 110, 116, 101, 110, 116, 45, 116, 121, 112, 101]⟩ : ByteArray)] from rfl) (Reps.one (show Kd.M Kd.string _ _ _ (⟨#[120, 45, 97]⟩ : ByteArray) [.string (⟨#[120, 45, 97]⟩ : ByteArray)] from rfl) (Reps.one (show Kd.M Kd.string _ _ _ (⟨#[120, 45, 98]⟩ : ByteArray) [.string (⟨#[120, 45, 98]⟩ : ByteArray)] from rfl) (Reps.none _ _))))); intro v116 w29 ho30 hb hg_ hnew_; clear hg_ hnew_; (first | rw [← Ny115.out] at ho30 | (simp only [Int.reduceToNat] at ho30; rw [← Ny115.out] at ho30)); have n0_ := Aside0.mk (Kd.R_below z10_ hb); have n1_ := Aside0.mk (Kd.V_elder' (by (with_reducible repeat (first | apply Kd.V_alloc | apply Kd.V_drewN | apply Kd.V_drew)); exact HO114.out) (Kd.R_base ho30) hb); have n2_ := Aside0.mk (Kd.R_lower ho30 (below_size z4_)); have n3_ := Aside0.mk (below_step z4_ hb); clear HO103; clear HO114; clear HB; have HO103 := n0_; have HO114 := n1_; have HO117 := n2_; have HB := n3_; clear n0_ n1_ n2_ n3_; clear hb ho30; obtain ⟨Ao31, co31, eo31⟩ := Kd.V_slice HO114.out; subst eo31; obtain ⟨Ao32, co32, eo32⟩ := Kd.R_slice HO117.out; subst eo32) | (go_at_call 36; (fail_if_success (have z_ := U_9)); have U_9 := trivial; (with_reducible refine (pursuivantref04_Same.calls k _ _ t112 _ _ y115 t118 _ ?gw10_ ?side1 ?side2 ?side3 ?side4 A18.out).mono ?_); (case gw10_ => first | exact hG_ | (refine GW.below hG_ ?_; first | (with_reducible exact HB.out) | (repeat (first | (with_reducible first | exact HB.out | apply below_alloc | apply pw_below_drewN | apply below_drew1 | apply below_drew | exact Below.refl _ _) | exact HB.out))) | (apply GW.drewN; exact hG_) | (apply GW.drew; exact hG_)); (case side1 => repeat (first | exact (Kd.V_reads' HO114.out).2.2 | (with_reducible refine Kd.C_alloc ?_ _) | (with_reducible refine Kd.C_drewN ?_ _) | (with_reducible refine Kd.C_drew ?_))); (case side2 => exact (Kd.V_reads' HO114.out).2.1); (case side3 => repeat (first | exact (Kd.R_reads' HO117.out).2.2 | (with_reducible refine Kd.C_alloc ?_ _) | (with_reducible refine Kd.C_drewN ?_ _) | (with_reducible refine Kd.C_drew ?_))); (case side4 => exact (Kd.R_reads' HO117.out).2.1); rintro e w' ⟨rfl, ⟨nd, rfl⟩⟩))
         go_ret
         exact ⟨z5_, z4_⟩
        ·replace c16 := Bool.eq_false_iff.mpr c16
         subst c16
         have H1 : (some false) = some r := by rw [if_neg (show ¬ (false = true) by decide)] at H; exact H
         clear H
         have H := H1
         clear H1
         exact absurd ((Option.some.inj H).trans hr_) Bool.false_ne_true
      ·replace c12 := Bool.eq_false_iff.mpr c12
       subst c12
       have H1 : (some false) = some r := by rw [if_neg (show ¬ (false = true) by decide)] at H; exact H
       clear H
       have H := H1
       clear H1
       exact absurd ((Option.some.inj H).trans hr_) Bool.false_ne_true
    ·replace c8 := Bool.eq_false_iff.mpr c8
     subst c8
     have H1 : (some false) = some r := by rw [if_neg (show ¬ (false = true) by decide)] at H; exact H
     clear H
     have H := H1
     clear H1
     exact absurd ((Option.some.inj H).trans hr_) Bool.false_ne_true
   ·replace c6 := Bool.eq_false_iff.mpr c6
    subst c6
    have H1 : (some false) = some r := by rw [if_neg (show ¬ (false = true) by decide)] at H; exact H
    clear H
    have H := H1
    clear H1
    exact absurd ((Option.some.inj H).trans hr_) Bool.false_ne_true
  ·rw [if_neg c4] at H
   have c4b0 : (t105.toList == ([112, 97, 116, 99, 104] : List UInt8)) = false := beq_eq_false_iff_ne.mpr c4
   have c4b1 : (t105.toList != ([112, 97, 116, 99, 104] : List UInt8)) = true := bne_iff_ne.mpr c4
   exact absurd ((Option.some.inj H).trans hr_) Bool.false_ne_true
 ·rw [if_neg c2] at H
  have c2b0 : (t104.toList == ([71, 69, 84] : List UInt8)) = false := beq_eq_false_iff_ne.mpr c2
  have c2b1 : (t104.toList != ([71, 69, 84] : List UInt8)) = true := bne_iff_ne.mpr c2
  exact absurd ((Option.some.inj H).trans hr_) Bool.false_ne_true

/-! ### pursuivantlaw10_SafeMethods: function 6 -/
/-! ### pursuivantlaw10_SafeHeaders: function 7 -/
def pursuivantlaw10_SafeHeaders.f (k : Nat) (a0_0 : ByteArray) (a0_1 : ByteArray) : Option (Bool) := (pursuivantlaw10_awake.f k).bind fun t127 => (if t127 = true then ((safe_Header.f k a0_0 a0_1).bind fun t128 => ((pursuivantref10_Header.f k a0_0 a0_1).bind fun t129 => (if (t128 == t129) = true then ((safe_Forbidden.f k a0_0).bind fun t130 => ((pursuivantref10_Forbidden.f k a0_0).bind fun t131 => (some (t130 == t131)))) else (some false)))) else (some false))
def pursuivantlaw10_SafeHeaders.T1 : Bool × List (List Nat × List Nat) := (true, [([], []), ([0, 0], [0]), ([1], [1]), ([2, 1, 1], [1, 2]), ([1], [1]), ([4, 3, 1], [1, 4]), ([3, 5, 1], [1, 3, 5]), ([1, 6], [1, 6]), ([7, 5], [7]), ([8], [8]), ([9, 8], [8, 9]), ([10, 8, 8], [8, 10]), ([8], [8]), ([12, 8], [8, 12]), ([13, 11, 8], [8, 13]), ([11, 14, 8], [8, 11, 14]), ([8, 15], [8, 15]), ([16, 14, 0, 1, 2, 3, 4, 5, 6, 7, 8, 9, 10, 11, 12, 13, 14, 15, 16], [16])])
def pursuivantlaw10_SafeHeaders.B1 : List Nat := [0, 1, 3, 7, 3, 31, 63, 127, 255, 511, 1023, 2047, 511, 4607, 16383, 32767, 65535, 131071]
theorem pursuivantlaw10_SafeHeaders.tab1 : rtab .any (opsOf Tryd.f7 1) = pursuivantlaw10_SafeHeaders.T1 := by kernel_rfl
theorem pursuivantlaw10_SafeHeaders.bits1 : waitsOk pursuivantlaw10_SafeHeaders.T1.2 pursuivantlaw10_SafeHeaders.B1 = true := by kernel_rfl
set_option maxHeartbeats 8000000 in
set_option maxRecDepth 100000 in
theorem pursuivantlaw10_SafeHeaders.calls (k : Nat) (a0_0 : ByteArray) (a0_1 : ByteArray) (r : Bool) (w : World) (hG_ : GW w) (h : pursuivantlaw10_SafeHeaders.f k a0_0 a0_1 = some r) (hr_ : r = true) :
  Calls Tryd.prog 7 #[.agg #[.string a0_0, .string a0_1]] w fun e w' => e = .returned (.bool r) ∧ Below w.heap.size w w' := by
 have hu31 := Tryd.underlying31
 have HB := Aside0.mk (Below.refl w.heap.size w)
 have H : ((pursuivantlaw10_awake.f k).bind fun t127 => (if t127 = true then ((safe_Header.f k a0_0 a0_1).bind fun t128 => ((pursuivantref10_Header.f k a0_0 a0_1).bind fun t129 => (if (t128 == t129) = true then ((safe_Forbidden.f k a0_0).bind fun t130 => ((pursuivantref10_Forbidden.f k a0_0).bind fun t131 => (some (t130 == t131)))) else (some false)))) else (some false))) = some r := h
 clear h
 replace H := Option.bind_eq_some_iff.mp H
 obtain ⟨t127, A20, H⟩ := H
 replace H : (if t127 = true then ((safe_Header.f k a0_0 a0_1).bind fun t128 => ((pursuivantref10_Header.f k a0_0 a0_1).bind fun t129 => (if (t128 == t129) = true then ((safe_Forbidden.f k a0_0).bind fun t130 => ((pursuivantref10_Forbidden.f k a0_0).bind fun t131 => (some (t130 == t131)))) else (some false)))) else (some false)) = some r := H
 have A2 := Aside0.mk A20
 clear A20
 by_cases c3 : t127 = true
 ·subst c3
  have H1 : ((safe_Header.f k a0_0 a0_1).bind fun t128 => ((pursuivantref10_Header.f k a0_0 a0_1).bind fun t129 => (if (t128 == t129) = true then ((safe_Forbidden.f k a0_0).bind fun t130 => ((pursuivantref10_Forbidden.f k a0_0).bind fun t131 => (some (t130 == t131)))) else (some false)))) = some r := by rw [if_pos rfl] at H; exact H
  clear H
  have H := H1
  clear H1
  replace H := Option.bind_eq_some_iff.mp H
  obtain ⟨t128, A40, H⟩ := H
  replace H : ((pursuivantref10_Header.f k a0_0 a0_1).bind fun t129 => (if (t128 == t129) = true then ((safe_Forbidden.f k a0_0).bind fun t130 => ((pursuivantref10_Forbidden.f k a0_0).bind fun t131 => (some (t130 == t131)))) else (some false))) = some r := H
  have A4 := Aside0.mk A40
  clear A40
  replace H := Option.bind_eq_some_iff.mp H
  obtain ⟨t129, A50, H⟩ := H
  replace H : (if (t128 == t129) = true then ((safe_Forbidden.f k a0_0).bind fun t130 => ((pursuivantref10_Forbidden.f k a0_0).bind fun t131 => (some (t130 == t131)))) else (some false)) = some r := H
  have A5 := Aside0.mk A50
  clear A50
  by_cases c6 : (t128 == t129) = true
  ·rw [if_pos c6] at H
   have c6b0 : (t128 == t129) = true := c6
   (try (have c6b1 : decide (t128 = t129) = true := by simpa using c6))
   (try (have c6b2 : (t128 == t129) = true := by simpa using c6))
   clear c6
   replace H := Option.bind_eq_some_iff.mp H
   obtain ⟨t130, A70, H⟩ := H
   replace H : ((pursuivantref10_Forbidden.f k a0_0).bind fun t131 => (some (t130 == t131))) = some r := H
   have A7 := Aside0.mk A70
   clear A70
   replace H := Option.bind_eq_some_iff.mp H
   obtain ⟨t131, A80, H⟩ := H
   replace H : (some (t130 == t131)) = some r := H
   have A8 := Aside0.mk A80
   clear A80
   obtain rfl := Option.some.inj H
   go_enter Tryd.func7, Tryd.ntmps7
   try go_wp2_with (first | ((with_reducible refine gate_dst (N := 1) rfl ?_); refine box_event ?hg (N := 1) ?hd (cs := #[.string a0_0, .string a0_1]) (t := 31) ?hr ?_; (case hd => rfl); (case hg => rfl); (case hr => first | (go_simp; done) | (go_simp; rfl)); intro gb126 hg w9 hbox hb; have n0_ := Aside0.mk (below_step z4_ hb); have n1_ := Aside0.mk (hbox); have n2_ := Aside0.mk ((by rw [hg]; exact (below_size z4_) : w.heap.size ≤ gb126)); have n3_ := Aside0.mk ((by rw [hg]; exact (below_size z4_) : w.heap.size ≤ gb126)); clear HB; have HB := n0_; have BK126 := n1_; have GW126 := n2_; have GE126 := n3_; clear n0_ n1_ n2_ n3_; clear hb hbox hg))
   have n0_ := Aside0.mk (blk_drew BK126.out)
   have n1_ := Aside0.mk (below_drew1 HB.out)
   clear BK126
   clear HB
   have BK126 := n0_
   have HB := n1_
   clear n0_ n1_
   refine start_ (n := 18) (S := fun w' => w'.cell? ⟨gb126, 0, none⟩ = some (.string a0_0) ∧ w'.cell? ⟨gb126, 1, none⟩ = some (.string a0_1)) (ds := []) #[false, false, false, false, false, false, false, false, false, false, false, false, false, false, false, false, false, false] (by kernel_rfl) rfl rfl ⟨(blk_cell BK126.out 0).trans rfl, (blk_cell BK126.out 1).trans rfl⟩ (fun hHeld => ?_); refine with_tabW pursuivantlaw10_SafeHeaders.tab1 pursuivantlaw10_SafeHeaders.bits1 (fun HT_ HW_ => ?_)
   generalize w9.drew = w10 at BK126 HB hHeld ⊢
   refine one_ (i := 0) (N := some 3) #[true, false, false, false, false, false, false, false, false, false, false, false, false, false, false, false, false, false] rfl rfl (one_of HT_.out (by kernel_rfl)) (by decide) (fun K hK => ?_)
   refine goes_ Tryd.func24 (by kernel_rfl) rfl #[] (by rfl) rfl rfl z3_ ?_
   with_reducible refine (pursuivantlaw10_awake.calls k  true _ ?gw28_ A2.out (by first | rfl | assumption)).mono ?_
   case gw28_ => first | exact hG_ | (refine GW.below hG_ ?_; first | (with_reducible exact HB.out) | (repeat (first | (with_reducible first | exact HB.out | apply below_alloc | apply pw_below_drewN | apply below_drew1 | apply below_drew | exact Below.refl _ _) | exact HB.out))) | (apply GW.drewN; exact hG_) | (apply GW.drew; exact hG_)
   rintro e w11 ⟨rfl, hb⟩
   refine ⟨_, rfl, ?_⟩
   have n0_ := Aside0.mk (blk_below (g := gb126) (o := .cells #[.string a0_0, .string a0_1] 31 (0, 0)) z9_ hb)
   have n1_ := Aside0.mk (below_step z2_ hb)
   clear BK126
   clear HB
   have BK126 := n0_
   have HB := n1_
   clear n0_ n1_
   (try clear hb)
   (try clear hb2)
   (try clear hk)
   (try clear hi)
   refine hK.out _ _ ⟨(blk_cell BK126.out 0).trans rfl, (blk_cell BK126.out 1).trans rfl⟩ (fun hHeld => ?_)
   clear hK K
   refine norm_ (a' := ?_) ?_ ?_
   rotate_left
   ·show Act.put _ (some 3) _ = _
    simp only [Act.put, List.setIfInBounds_toArray, List.set_cons_zero, List.set_cons_succ, i64_w, i32_w]
    rfl
   refine pure_ (i := 1) (N := some 4) (v := ?_) (a' := ?_) #[true, true, false, false, false, false, false, false, false, false, false, false, false, false, false, false, false, false] rfl rfl (any_of HT_.out (by kernel_rfl)) (fun _ _ _ h => h) (Or.inl ⟨by rfl, ?_⟩) ?_ ?_
   rotate_left
   ·intro w'
    go_simp
    with_reducible rfl
   rotate_left
   ·simp only [Act.put, List.setIfInBounds_toArray, List.set_cons_zero, List.set_cons_succ, i64_w, i32_w]
    rfl
   refine take_ (i := 2) (N := some 5) (v := ?_) (a' := ?_) #[true, true, true, false, false, false, false, false, false, false, false, false, false, false, false, false, false, false] rfl rfl (take_ofW HT_.out HW_.out (by kernel_rfl)) (fun _ _ _ h => h) (Or.inl ⟨by rfl, ?_⟩) hHeld ?_ ?_
   rotate_left
   ·rintro w' ⟨s0, s1⟩
    go_simp
    with_reducible rfl
   rotate_left
   ·simp only [Act.put, List.setIfInBounds_toArray, List.set_cons_zero, List.set_cons_succ, i64_w, i32_w]
    rfl
   refine take_ (i := 4) (N := some 7) (v := ?_) (a' := ?_) #[true, true, true, false, true, false, false, false, false, false, false, false, false, false, false, false, false, false] rfl rfl (take_ofW HT_.out HW_.out (by kernel_rfl)) (fun _ _ _ h => h) (Or.inl ⟨by rfl, ?_⟩) hHeld ?_ ?_
   rotate_left
   ·rintro w' ⟨s0, s1⟩
    go_simp
    with_reducible rfl
   rotate_left
   ·simp only [Act.put, List.setIfInBounds_toArray, List.set_cons_zero, List.set_cons_succ, i64_w, i32_w]
    rfl
   refine one_ (i := 3) (N := some 6) #[true, true, true, true, true, false, false, false, false, false, false, false, false, false, false, false, false, false] rfl rfl (one_of HT_.out (by kernel_rfl)) (by decide) (fun K hK => ?_)
   refine goes_ Tryd.func31 (by kernel_rfl) rfl #[.agg #[.string a0_0, .string a0_1]] (by rfl) rfl rfl z3_ ?_
   with_reducible refine (safe_Header.calls k a0_0 a0_1 t128 _ ?gw29_ A4.out).mono ?_
   case gw29_ => first | exact hG_ | (refine GW.below hG_ ?_; first | (with_reducible exact HB.out) | (repeat (first | (with_reducible first | exact HB.out | apply below_alloc | apply pw_below_drewN | apply below_drew1 | apply below_drew | exact Below.refl _ _) | exact HB.out))) | (apply GW.drewN; exact hG_) | (apply GW.drew; exact hG_)
   rintro e w12 ⟨rfl, hb⟩
   refine ⟨_, rfl, ?_⟩
   have n0_ := Aside0.mk (blk_below (g := gb126) (o := .cells #[.string a0_0, .string a0_1] 31 (0, 0)) z9_ hb)
   have n1_ := Aside0.mk (below_step z2_ hb)
   clear BK126
   clear HB
   have BK126 := n0_
   have HB := n1_
   clear n0_ n1_
   (try clear hb)
   (try clear hb2)
   (try clear hk)
   (try clear hi)
   refine hK.out _ _ ⟨(blk_cell BK126.out 0).trans rfl, (blk_cell BK126.out 1).trans rfl⟩ (fun hHeld => ?_)
   clear hK K
   refine norm_ (a' := ?_) ?_ ?_
   rotate_left
   ·show Act.put _ (some 6) _ = _
    simp only [Act.put, List.setIfInBounds_toArray, List.set_cons_zero, List.set_cons_succ, i64_w, i32_w]
    rfl
   refine one_ (i := 5) (N := some 8) #[true, true, true, true, true, true, false, false, false, false, false, false, false, false, false, false, false, false] rfl rfl (one_of HT_.out (by kernel_rfl)) (by decide) (fun K hK => ?_)
   refine goes_ Tryd.func32 (by kernel_rfl) rfl #[.agg #[.string a0_0, .string a0_1]] (by rfl) rfl rfl z3_ ?_
   with_reducible refine (pursuivantref10_Header.calls k a0_0 a0_1 t129 _ ?gw30_ A5.out).mono ?_
   case gw30_ => first | exact hG_ | (refine GW.below hG_ ?_; first | (with_reducible exact HB.out) | (repeat (first | (with_reducible first | exact HB.out | apply below_alloc | apply pw_below_drewN | apply below_drew1 | apply below_drew | exact Below.refl _ _) | exact HB.out))) | (apply GW.drewN; exact hG_) | (apply GW.drew; exact hG_)
   rintro e w13 ⟨rfl, hb⟩
   refine ⟨_, rfl, ?_⟩
   have n0_ := Aside0.mk (blk_below (g := gb126) (o := .cells #[.string a0_0, .string a0_1] 31 (0, 0)) z9_ hb)
   have n1_ := Aside0.mk (below_step z2_ hb)
   clear BK126
   clear HB
   have BK126 := n0_
   have HB := n1_
   clear n0_ n1_
   (try clear hb)
   (try clear hb2)
   (try clear hk)
   (try clear hi)
   refine hK.out _ _ ⟨(blk_cell BK126.out 0).trans rfl, (blk_cell BK126.out 1).trans rfl⟩ (fun hHeld => ?_)
   clear hK K
   refine norm_ (a' := ?_) ?_ ?_
   rotate_left
   ·show Act.put _ (some 8) _ = _
    simp only [Act.put, List.setIfInBounds_toArray, List.set_cons_zero, List.set_cons_succ, i64_w, i32_w]
    rfl
   refine pure_ (i := 6) (N := some 9) (v := ?_) (a' := ?_) #[true, true, true, true, true, true, true, false, false, false, false, false, false, false, false, false, false, false] rfl rfl (any_of HT_.out (by kernel_rfl)) (fun _ _ _ h => h) (Or.inl ⟨by rfl, ?_⟩) ?_ ?_
   rotate_left
   ·intro w'
    go_simp
    with_reducible rfl
   rotate_left
   ·simp only [Act.put, List.setIfInBounds_toArray, List.set_cons_zero, List.set_cons_succ, i64_w, i32_w]
    rfl
   refine pure_ (i := 7) (N := some 10) (v := ?_) (a' := ?_) #[true, true, true, true, true, true, true, true, false, false, false, false, false, false, false, false, false, false] rfl rfl (any_of HT_.out (by kernel_rfl)) (fun _ _ _ h => h) (Or.inl ⟨by rfl, ?_⟩) ?_ ?_
   rotate_left
   ·intro w'
    go_simp
    with_reducible rfl
   rotate_left
   ·simp only [Act.put, List.setIfInBounds_toArray, List.set_cons_zero, List.set_cons_succ, i64_w, i32_w]
    rfl
   refine pure_ (i := 8) (N := some 11) (v := ?_) (a' := ?_) #[true, true, true, true, true, true, true, true, true, false, false, false, false, false, false, false, false, false] rfl rfl (any_of HT_.out (by kernel_rfl)) (fun _ _ _ h => h) (Or.inl ⟨by rfl, ?_⟩) ?_ ?_
   rotate_left
   ·intro w'
    go_simp
    with_reducible rfl
   rotate_left
   ·simp only [Act.put, List.setIfInBounds_toArray, List.set_cons_zero, List.set_cons_succ, i64_w, i32_w]
    rfl
   refine pure_ (i := 9) (N := some 12) (v := ?_) (a' := ?_) #[true, true, true, true, true, true, true, true, true, true, false, false, false, false, false, false, false, false] rfl rfl (any_of HT_.out (by kernel_rfl)) (fun _ _ _ h => h) (Or.inl ⟨by rfl, ?_⟩) ?_ ?_
   rotate_left
   ·intro w'
    go_simp
    with_reducible rfl
   rotate_left
   ·simp only [Act.put, List.setIfInBounds_toArray, List.set_cons_zero, List.set_cons_succ, i64_w, i32_w]
    rfl
   refine pure_ (i := 12) (N := some 15) (v := ?_) (a' := ?_) #[true, true, true, true, true, true, true, true, true, true, false, false, true, false, false, false, false, false] rfl rfl (any_of HT_.out (by kernel_rfl)) (fun _ _ _ h => h) (Or.inl ⟨by rfl, ?_⟩) ?_ ?_
   rotate_left
   ·intro w'
    go_simp
    with_reducible rfl
   rotate_left
   ·simp only [Act.put, List.setIfInBounds_toArray, List.set_cons_zero, List.set_cons_succ, i64_w, i32_w]
    rfl
   refine take_ (i := 10) (N := some 13) (v := ?_) (a' := ?_) #[true, true, true, true, true, true, true, true, true, true, true, false, true, false, false, false, false, false] rfl rfl (take_ofW HT_.out HW_.out (by kernel_rfl)) (fun _ _ _ h => h) (Or.inl ⟨by rfl, ?_⟩) hHeld ?_ ?_
   rotate_left
   ·rintro w' ⟨s0, s1⟩
    go_simp
    with_reducible rfl
   rotate_left
   ·simp only [Act.put, List.setIfInBounds_toArray, List.set_cons_zero, List.set_cons_succ, i64_w, i32_w]
    rfl
   refine take_ (i := 13) (N := some 16) (v := ?_) (a' := ?_) #[true, true, true, true, true, true, true, true, true, true, true, false, true, true, false, false, false, false] rfl rfl (take_ofW HT_.out HW_.out (by kernel_rfl)) (fun _ _ _ h => h) (Or.inl ⟨by rfl, ?_⟩) hHeld ?_ ?_
   rotate_left
   ·rintro w' ⟨s0, s1⟩
    go_simp
    with_reducible rfl
   rotate_left
   ·simp only [Act.put, List.setIfInBounds_toArray, List.set_cons_zero, List.set_cons_succ, i64_w, i32_w]
    rfl
   refine one_ (i := 11) (N := some 14) #[true, true, true, true, true, true, true, true, true, true, true, true, true, true, false, false, false, false] rfl rfl (one_of HT_.out (by kernel_rfl)) (by decide) (fun K hK => ?_)
   refine goes_ Tryd.func33 (by kernel_rfl) rfl #[.string a0_0] (by rfl) rfl rfl z3_ ?_
   with_reducible refine (safe_Forbidden.calls k a0_0 t130 _ ?gw31_ A7.out).mono ?_
   case gw31_ => first | exact hG_ | (refine GW.below hG_ ?_; first | (with_reducible exact HB.out) | (repeat (first | (with_reducible first | exact HB.out | apply below_alloc | apply pw_below_drewN | apply below_drew1 | apply below_drew | exact Below.refl _ _) | exact HB.out))) | (apply GW.drewN; exact hG_) | (apply GW.drew; exact hG_)
   rintro e w14 ⟨rfl, hb⟩
   refine ⟨_, rfl, ?_⟩
   have n0_ := Aside0.mk (blk_below (g := gb126) (o := .cells #[.string a0_0, .string a0_1] 31 (0, 0)) z9_ hb)
   have n1_ := Aside0.mk (below_step z2_ hb)
   clear BK126
   clear HB
   have BK126 := n0_
   have HB := n1_
   clear n0_ n1_
   (try clear hb)
   (try clear hb2)
   (try clear hk)
   (try clear hi)
   refine hK.out _ _ ⟨(blk_cell BK126.out 0).trans rfl, (blk_cell BK126.out 1).trans rfl⟩ (fun hHeld => ?_)
   clear hK K
   refine norm_ (a' := ?_) ?_ ?_
   rotate_left
   ·show Act.put _ (some 14) _ = _
    simp only [Act.put, List.setIfInBounds_toArray, List.set_cons_zero, List.set_cons_succ, i64_w, i32_w]
    rfl
   refine one_ (i := 14) (N := some 17) #[true, true, true, true, true, true, true, true, true, true, true, true, true, true, true, false, false, false] rfl rfl (one_of HT_.out (by kernel_rfl)) (by decide) (fun K hK => ?_)
   refine goes_ Tryd.func34 (by kernel_rfl) rfl #[.string a0_0] (by rfl) rfl rfl z3_ ?_
   with_reducible refine (pursuivantref10_Forbidden.calls k a0_0 t131 _ ?gw32_ A8.out).mono ?_
   case gw32_ => first | exact hG_ | (refine GW.below hG_ ?_; first | (with_reducible exact HB.out) | (repeat (first | (with_reducible first | exact HB.out | apply below_alloc | apply pw_below_drewN | apply below_drew1 | apply below_drew | exact Below.refl _ _) | exact HB.out))) | (apply GW.drewN; exact hG_) | (apply GW.drew; exact hG_)
   rintro e w15 ⟨rfl, hb⟩
   refine ⟨_, rfl, ?_⟩
   have n0_ := Aside0.mk (blk_below (g := gb126) (o := .cells #[.string a0_0, .string a0_1] 31 (0, 0)) z9_ hb)
   have n1_ := Aside0.mk (below_step z2_ hb)
   clear BK126
   clear HB
   have BK126 := n0_
   have HB := n1_
   clear n0_ n1_
   (try clear hb)
   (try clear hb2)
   (try clear hk)
   (try clear hi)
   refine hK.out _ _ ⟨(blk_cell BK126.out 0).trans rfl, (blk_cell BK126.out 1).trans rfl⟩ (fun hHeld => ?_)
   clear hK K
   refine norm_ (a' := ?_) ?_ ?_
   rotate_left
   ·show Act.put _ (some 17) _ = _
    simp only [Act.put, List.setIfInBounds_toArray, List.set_cons_zero, List.set_cons_succ, i64_w, i32_w]
    rfl
   refine pure_ (i := 15) (N := some 18) (v := ?_) (a' := ?_) #[true, true, true, true, true, true, true, true, true, true, true, true, true, true, true, true, false, false] rfl rfl (any_of HT_.out (by kernel_rfl)) (fun _ _ _ h => h) (Or.inl ⟨by rfl, ?_⟩) ?_ ?_
   rotate_left
   ·intro w'
    go_simp
    with_reducible rfl
   rotate_left
   ·simp only [Act.put, List.setIfInBounds_toArray, List.set_cons_zero, List.set_cons_succ, i64_w, i32_w]
    rfl
   refine pure_ (i := 16) (N := some 19) (v := ?_) (a' := ?_) #[true, true, true, true, true, true, true, true, true, true, true, true, true, true, true, true, true, false] rfl rfl (any_of HT_.out (by kernel_rfl)) (fun _ _ _ h => h) (Or.inl ⟨by rfl, ?_⟩) ?_ ?_
   rotate_left
   ·intro w'
    go_simp
    with_reducible rfl
   rotate_left
   ·simp only [Act.put, List.setIfInBounds_toArray, List.set_cons_zero, List.set_cons_succ, i64_w, i32_w]
    rfl
   refine pure_ (i := 17) (N := some 2) (v := ?_) (a' := ?_) #[true, true, true, true, true, true, true, true, true, true, true, true, true, true, true, true, true, true] rfl rfl (any_of HT_.out (by kernel_rfl)) (fun _ _ _ h => h) (Or.inl ⟨by rfl, ?_⟩) ?_ ?_
   rotate_left
   ·intro w'
    go_simp
    with_reducible rfl
   rotate_left
   ·simp only [Act.put, List.setIfInBounds_toArray, List.set_cons_zero, List.set_cons_succ, i64_w, i32_w]
    rfl
   refine done_ (done_of HT_.out (by kernel_rfl)) ?_
   try go_wp2
   go_ret
   exact ⟨z5_, z2_⟩
  ·rw [if_neg c6] at H
   have c6b0 : (t128 == t129) = false := by simpa using c6
   (try (have c6b1 : decide (t128 = t129) = false := by simpa using c6))
   (try (have c6b2 : (t128 == t129) = false := by simpa using c6))
   (try (have c6b3 : ¬ (t128 = t129) := by simpa using c6))
   clear c6
   exact absurd ((Option.some.inj H).trans hr_) Bool.false_ne_true
 ·replace c3 := Bool.eq_false_iff.mpr c3
  subst c3
  have H1 : (some false) = some r := by rw [if_neg (show ¬ (false = true) by decide)] at H; exact H
  clear H
  have H := H1
  clear H1
  exact absurd ((Option.some.inj H).trans hr_) Bool.false_ne_true

/-! ### pursuivantlaw10_SafeUnsafe: function 8 -/
end Go.Proofs.YtindkgcbglonhaaDoor.Hand
