/- What each Go function here computes, and that its call computes it, over contracts proved by hand (written by this project's xprint.py, which drives the kit's print). -/
import Derived.Test.YtindkgcbglonhaaDoorZ
import Derived.Test.YtindkgcbglonhaaDoorK
import Derived.Test.YtindkgcbglonhaaDoorSafeU
import Derived.Test.YtindkgcbglonhaaDoorSafeR
import Derived.Test.YtindkgcbglonhaaDoorFA1
import Derived.Test.YtindkgcbglonhaaDoorFA2
namespace Go.Proofs.YtindkgcbglonhaaDoor.Hand
open Go.RowKit Go.Proofs.YtindkgcbglonhaaDoorW.PrintWords Go.Proofs.YtindkgcbglonhaaDoorW.PrintLast Go.Proofs.YtindkgcbglonhaaDoorW.PrintMore
attribute [local go_sem] max2_int min2_int max_two min_two max_three min_three max_four min_four   -- for this text's walks alone
set_option linter.unusedVariables false
set_option linter.unusedSimpArgs false

/-! ### pursuivantlaw10_awake: function 24 -/
def pursuivantlaw10_awake.f (k : Nat)  : Option (Bool) := (safe_Method.f (⟨#[103, 101, 116]⟩ : ByteArray)).bind fun t104 => (if t104.toList = ([71, 69, 84] : List UInt8) then ((safe_Method.f (⟨#[112, 97, 116, 99, 104]⟩ : ByteArray)).bind fun t105 => (if t105.toList = ([112, 97, 116, 99, 104] : List UInt8) then ((safe_Bad.f (⟨#[116, 114, 97, 99, 101]⟩ : ByteArray)).bind fun t106 => (if t106 = true then ((safe_Simple.f (⟨#[72, 69, 65, 68]⟩ : ByteArray)).bind fun t107 => (if t107 = true then ((safe_Simple.f (⟨#[80, 85, 84]⟩ : ByteArray)).bind fun t108 => (if t108 = true then (some false) else ((safe_Forbidden.f k (⟨#[83, 101, 99, 45, 88]⟩ : ByteArray)).bind fun t109 => (if t109 = true then ((safe_Forbidden.f k (⟨#[88, 45, 83, 101, 99, 45]⟩ : ByteArray)).bind fun t110 => (if t110 = true then (some false) else ((safe_Header.f k (⟨#[99, 111, 110, 116, 101, 110, 116, 45, 116, 121, 112, 101]⟩ : ByteArray) (⟨#[116, 101, 120, 116, 47, 112, 108, 97, 105, 110, 59, 99, 104, 97, 114, 115, 101, 116, 61, 117, 116, 102, 45, 56]⟩ : ByteArray)).bind fun t111 => (if t111 = true then ((safe_Unsafe.f k (([(⟨(⟨#[88, 45, 66]⟩ : ByteArray), (⟨#[]⟩ : ByteArray)⟩ : S31), (⟨(⟨#[65, 99, 99, 101, 112, 116]⟩ : ByteArray), (⟨#[97]⟩ : ByteArray)⟩ : S31), (⟨(⟨#[120, 45, 97]⟩ : ByteArray), (⟨#[]⟩ : ByteArray)⟩ : S31), (⟨(⟨#[120, 45, 98]⟩ : ByteArray), (⟨#[]⟩ : ByteArray)⟩ : S31), (⟨(⟨#[67, 111, 110, 116, 101, 110, 116, 45, 84, 121, 112, 101]⟩ : ByteArray), (⟨#[97, 112, 112, 108, 105, 99, 97, 116, 105, 111, 110, 47, 106, 115, 111, 110]⟩ : ByteArray)⟩ : S31)] : List (S31)))).bind fun t112 => ((pursuivantref04_Same.f k t112 (([(⟨#[99, 111, 110, 116, 101, 110, 116, 45, 116, 121, 112, 101]⟩ : ByteArray), (⟨#[120, 45, 97]⟩ : ByteArray), (⟨#[120, 45, 98]⟩ : ByteArray)] : List ByteArray))).bind fun t118 => (some t118))) else (some false))))) else (some false))))) else (some false))) else (some false))) else (some false))) else (some false))
set_option maxHeartbeats 8000000 in
set_option maxRecDepth 100000 in
theorem pursuivantlaw10_awake.calls (k : Nat)  (r : Bool) (w : World) (hG_ : GW w) (h : pursuivantlaw10_awake.f k  = some r) (hr_ : r = true) :
  Calls Tryd.prog 24 #[] w fun e w' => e = .returned (.bool r) ∧ Below w.heap.size w w' := by
 have hu31 := Tryd.underlying31
 have HB := Aside0.mk (Below.refl w.heap.size w)
 have H : ((safe_Method.f (⟨#[103, 101, 116]⟩ : ByteArray)).bind fun t104 => (if t104.toList = ([71, 69, 84] : List UInt8) then ((safe_Method.f (⟨#[112, 97, 116, 99, 104]⟩ : ByteArray)).bind fun t105 => (if t105.toList = ([112, 97, 116, 99, 104] : List UInt8) then ((safe_Bad.f (⟨#[116, 114, 97, 99, 101]⟩ : ByteArray)).bind fun t106 => (if t106 = true then ((safe_Simple.f (⟨#[72, 69, 65, 68]⟩ : ByteArray)).bind fun t107 => (if t107 = true then ((safe_Simple.f (⟨#[80, 85, 84]⟩ : ByteArray)).bind fun t108 => (if t108 = true then (some false) else ((safe_Forbidden.f k (⟨#[83, 101, 99, 45, 88]⟩ : ByteArray)).bind fun t109 => (if t109 = true then ((safe_Forbidden.f k (⟨#[88, 45, 83, 101, 99, 45]⟩ : ByteArray)).bind fun t110 => (if t110 = true then (some false) else ((safe_Header.f k (⟨#[99, 111, 110, 116, 101, 110, 116, 45, 116, 121, 112, 101]⟩ : ByteArray) (⟨#[116, 101, 120, 116, 47, 112, 108, 97, 105, 110, 59, 99, 104, 97, 114, 115, 101, 116, 61, 117, 116, 102, 45, 56]⟩ : ByteArray)).bind fun t111 => (if t111 = true then ((safe_Unsafe.f k (([(⟨(⟨#[88, 45, 66]⟩ : ByteArray), (⟨#[]⟩ : ByteArray)⟩ : S31), (⟨(⟨#[65, 99, 99, 101, 112, 116]⟩ : ByteArray), (⟨#[97]⟩ : ByteArray)⟩ : S31), (⟨(⟨#[120, 45, 97]⟩ : ByteArray), (⟨#[]⟩ : ByteArray)⟩ : S31), (⟨(⟨#[120, 45, 98]⟩ : ByteArray), (⟨#[]⟩ : ByteArray)⟩ : S31), (⟨(⟨#[67, 111, 110, 116, 101, 110, 116, 45, 84, 121, 112, 101]⟩ : ByteArray), (⟨#[97, 112, 112, 108, 105, 99, 97, 116, 105, 111, 110, 47, 106, 115, 111, 110]⟩ : ByteArray)⟩ : S31)] : List (S31)))).bind fun t112 => ((pursuivantref04_Same.f k t112 (([(⟨#[99, 111, 110, 116, 101, 110, 116, 45, 116, 121, 112, 101]⟩ : ByteArray), (⟨#[120, 45, 97]⟩ : ByteArray), (⟨#[120, 45, 98]⟩ : ByteArray)] : List ByteArray))).bind fun t118 => (some t118))) else (some false))))) else (some false))))) else (some false))) else (some false))) else (some false))) else (some false))) = some r := h
 clear h
 obtain ⟨y101, hy101⟩ : ∃ y_ : List (S31), y_ = (([(⟨(⟨#[88, 45, 66]⟩ : ByteArray), (⟨#[]⟩ : ByteArray)⟩ : S31), (⟨(⟨#[65, 99, 99, 101, 112, 116]⟩ : ByteArray), (⟨#[97]⟩ : ByteArray)⟩ : S31), (⟨(⟨#[120, 45, 97]⟩ : ByteArray), (⟨#[]⟩ : ByteArray)⟩ : S31), (⟨(⟨#[120, 45, 98]⟩ : ByteArray), (⟨#[]⟩ : ByteArray)⟩ : S31), (⟨(⟨#[67, 111, 110, 116, 101, 110, 116, 45, 84, 121, 112, 101]⟩ : ByteArray), (⟨#[97, 112, 112, 108, 105, 99, 97, 116, 105, 111, 110, 47, 106, 115, 111, 110]⟩ : ByteArray)⟩ : S31)] : List (S31))) := ⟨_, rfl⟩
 replace H : ((safe_Method.f (⟨#[103, 101, 116]⟩ : ByteArray)).bind fun t104 => (if t104.toList = ([71, 69, 84] : List UInt8) then ((safe_Method.f (⟨#[112, 97, 116, 99, 104]⟩ : ByteArray)).bind fun t105 => (if t105.toList = ([112, 97, 116, 99, 104] : List UInt8) then ((safe_Bad.f (⟨#[116, 114, 97, 99, 101]⟩ : ByteArray)).bind fun t106 => (if t106 = true then ((safe_Simple.f (⟨#[72, 69, 65, 68]⟩ : ByteArray)).bind fun t107 => (if t107 = true then ((safe_Simple.f (⟨#[80, 85, 84]⟩ : ByteArray)).bind fun t108 => (if t108 = true then (some false) else ((safe_Forbidden.f k (⟨#[83, 101, 99, 45, 88]⟩ : ByteArray)).bind fun t109 => (if t109 = true then ((safe_Forbidden.f k (⟨#[88, 45, 83, 101, 99, 45]⟩ : ByteArray)).bind fun t110 => (if t110 = true then (some false) else ((safe_Header.f k (⟨#[99, 111, 110, 116, 101, 110, 116, 45, 116, 121, 112, 101]⟩ : ByteArray) (⟨#[116, 101, 120, 116, 47, 112, 108, 97, 105, 110, 59, 99, 104, 97, 114, 115, 101, 116, 61, 117, 116, 102, 45, 56]⟩ : ByteArray)).bind fun t111 => (if t111 = true then ((safe_Unsafe.f k y101).bind fun t112 => ((pursuivantref04_Same.f k t112 (([(⟨#[99, 111, 110, 116, 101, 110, 116, 45, 116, 121, 112, 101]⟩ : ByteArray), (⟨#[120, 45, 97]⟩ : ByteArray), (⟨#[120, 45, 98]⟩ : ByteArray)] : List ByteArray))).bind fun t118 => (some t118))) else (some false))))) else (some false))))) else (some false))) else (some false))) else (some false))) else (some false))) = some r := by first | (rw [hy101]; with_reducible exact H) | (have H2_ := (Option.bind_some _ _).symm.trans H; rw [hy101]; with_reducible exact H2_) | (have H2_ := (Option.bind_some _ _).symm.trans H; with_reducible exact H2_) | with_reducible exact H | (rw [hy101]; exact H) | exact H
 have Ny101 := Aside0.mk hy101
 clear hy101
 replace H := Option.bind_eq_some_iff.mp H
 obtain ⟨t104, A10, H⟩ := H
 replace H : (if t104.toList = ([71, 69, 84] : List UInt8) then ((safe_Method.f (⟨#[112, 97, 116, 99, 104]⟩ : ByteArray)).bind fun t105 => (if t105.toList = ([112, 97, 116, 99, 104] : List UInt8) then ((safe_Bad.f (⟨#[116, 114, 97, 99, 101]⟩ : ByteArray)).bind fun t106 => (if t106 = true then ((safe_Simple.f (⟨#[72, 69, 65, 68]⟩ : ByteArray)).bind fun t107 => (if t107 = true then ((safe_Simple.f (⟨#[80, 85, 84]⟩ : ByteArray)).bind fun t108 => (if t108 = true then (some false) else ((safe_Forbidden.f k (⟨#[83, 101, 99, 45, 88]⟩ : ByteArray)).bind fun t109 => (if t109 = true then ((safe_Forbidden.f k (⟨#[88, 45, 83, 101, 99, 45]⟩ : ByteArray)).bind fun t110 => (if t110 = true then (some false) else ((safe_Header.f k (⟨#[99, 111, 110, 116, 101, 110, 116, 45, 116, 121, 112, 101]⟩ : ByteArray) (⟨#[116, 101, 120, 116, 47, 112, 108, 97, 105, 110, 59, 99, 104, 97, 114, 115, 101, 116, 61, 117, 116, 102, 45, 56]⟩ : ByteArray)).bind fun t111 => (if t111 = true then ((safe_Unsafe.f k y101).bind fun t112 => ((pursuivantref04_Same.f k t112 (([(⟨#[99, 111, 110, 116, 101, 110, 116, 45, 116, 121, 112, 101]⟩ : ByteArray), (⟨#[120, 45, 97]⟩ : ByteArray), (⟨#[120, 45, 98]⟩ : ByteArray)] : List ByteArray))).bind fun t118 => (some t118))) else (some false))))) else (some false))))) else (some false))) else (some false))) else (some false))) else (some false)) = some r := H
 have A1 := Aside0.mk A10
 clear A10
 by_cases c2 : t104.toList = ([71, 69, 84] : List UInt8)
 ·rw [if_pos c2] at H
  have c2b0 : (t104.toList == ([71, 69, 84] : List UInt8)) = true := beq_iff_eq.mpr c2
  have c2b1 : (t104.toList != ([71, 69, 84] : List UInt8)) = false := bne_eq_false_iff_eq.mpr c2
  clear c2
  replace H := Option.bind_eq_some_iff.mp H
  obtain ⟨t105, A30, H⟩ := H
  replace H : (if t105.toList = ([112, 97, 116, 99, 104] : List UInt8) then ((safe_Bad.f (⟨#[116, 114, 97, 99, 101]⟩ : ByteArray)).bind fun t106 => (if t106 = true then ((safe_Simple.f (⟨#[72, 69, 65, 68]⟩ : ByteArray)).bind fun t107 => (if t107 = true then ((safe_Simple.f (⟨#[80, 85, 84]⟩ : ByteArray)).bind fun t108 => (if t108 = true then (some false) else ((safe_Forbidden.f k (⟨#[83, 101, 99, 45, 88]⟩ : ByteArray)).bind fun t109 => (if t109 = true then ((safe_Forbidden.f k (⟨#[88, 45, 83, 101, 99, 45]⟩ : ByteArray)).bind fun t110 => (if t110 = true then (some false) else ((safe_Header.f k (⟨#[99, 111, 110, 116, 101, 110, 116, 45, 116, 121, 112, 101]⟩ : ByteArray) (⟨#[116, 101, 120, 116, 47, 112, 108, 97, 105, 110, 59, 99, 104, 97, 114, 115, 101, 116, 61, 117, 116, 102, 45, 56]⟩ : ByteArray)).bind fun t111 => (if t111 = true then ((safe_Unsafe.f k y101).bind fun t112 => ((pursuivantref04_Same.f k t112 (([(⟨#[99, 111, 110, 116, 101, 110, 116, 45, 116, 121, 112, 101]⟩ : ByteArray), (⟨#[120, 45, 97]⟩ : ByteArray), (⟨#[120, 45, 98]⟩ : ByteArray)] : List ByteArray))).bind fun t118 => (some t118))) else (some false))))) else (some false))))) else (some false))) else (some false))) else (some false)) = some r := H
  have A3 := Aside0.mk A30
  clear A30
  by_cases c4 : t105.toList = ([112, 97, 116, 99, 104] : List UInt8)
  ·rw [if_pos c4] at H
   have c4b0 : (t105.toList == ([112, 97, 116, 99, 104] : List UInt8)) = true := beq_iff_eq.mpr c4
   have c4b1 : (t105.toList != ([112, 97, 116, 99, 104] : List UInt8)) = false := bne_eq_false_iff_eq.mpr c4
   clear c4
   replace H := Option.bind_eq_some_iff.mp H
   obtain ⟨t106, A50, H⟩ := H
   replace H : (if t106 = true then ((safe_Simple.f (⟨#[72, 69, 65, 68]⟩ : ByteArray)).bind fun t107 => (if t107 = true then ((safe_Simple.f (⟨#[80, 85, 84]⟩ : ByteArray)).bind fun t108 => (if t108 = true then (some false) else ((safe_Forbidden.f k (⟨#[83, 101, 99, 45, 88]⟩ : ByteArray)).bind fun t109 => (if t109 = true then ((safe_Forbidden.f k (⟨#[88, 45, 83, 101, 99, 45]⟩ : ByteArray)).bind fun t110 => (if t110 = true then (some false) else ((safe_Header.f k (⟨#[99, 111, 110, 116, 101, 110, 116, 45, 116, 121, 112, 101]⟩ : ByteArray) (⟨#[116, 101, 120, 116, 47, 112, 108, 97, 105, 110, 59, 99, 104, 97, 114, 115, 101, 116, 61, 117, 116, 102, 45, 56]⟩ : ByteArray)).bind fun t111 => (if t111 = true then ((safe_Unsafe.f k y101).bind fun t112 => ((pursuivantref04_Same.f k t112 (([(⟨#[99, 111, 110, 116, 101, 110, 116, 45, 116, 121, 112, 101]⟩ : ByteArray), (⟨#[120, 45, 97]⟩ : ByteArray), (⟨#[120, 45, 98]⟩ : ByteArray)] : List ByteArray))).bind fun t118 => (some t118))) else (some false))))) else (some false))))) else (some false))) else (some false)) = some r := H
   have A5 := Aside0.mk A50
   clear A50
   by_cases c6 : t106 = true
   ·subst c6
    have H1 : ((safe_Simple.f (⟨#[72, 69, 65, 68]⟩ : ByteArray)).bind fun t107 => (if t107 = true then ((safe_Simple.f (⟨#[80, 85, 84]⟩ : ByteArray)).bind fun t108 => (if t108 = true then (some false) else ((safe_Forbidden.f k (⟨#[83, 101, 99, 45, 88]⟩ : ByteArray)).bind fun t109 => (if t109 = true then ((safe_Forbidden.f k (⟨#[88, 45, 83, 101, 99, 45]⟩ : ByteArray)).bind fun t110 => (if t110 = true then (some false) else ((safe_Header.f k (⟨#[99, 111, 110, 116, 101, 110, 116, 45, 116, 121, 112, 101]⟩ : ByteArray) (⟨#[116, 101, 120, 116, 47, 112, 108, 97, 105, 110, 59, 99, 104, 97, 114, 115, 101, 116, 61, 117, 116, 102, 45, 56]⟩ : ByteArray)).bind fun t111 => (if t111 = true then ((safe_Unsafe.f k y101).bind fun t112 => ((pursuivantref04_Same.f k t112 (([(⟨#[99, 111, 110, 116, 101, 110, 116, 45, 116, 121, 112, 101]⟩ : ByteArray), (⟨#[120, 45, 97]⟩ : ByteArray), (⟨#[120, 45, 98]⟩ : ByteArray)] : List ByteArray))).bind fun t118 => (some t118))) else (some false))))) else (some false))))) else (some false))) = some r := by rw [if_pos rfl] at H; exact H
    clear H
    have H := H1
    clear H1
    replace H := Option.bind_eq_some_iff.mp H
    obtain ⟨t107, A70, H⟩ := H
    replace H : (if t107 = true then ((safe_Simple.f (⟨#[80, 85, 84]⟩ : ByteArray)).bind fun t108 => (if t108 = true then (some false) else ((safe_Forbidden.f k (⟨#[83, 101, 99, 45, 88]⟩ : ByteArray)).bind fun t109 => (if t109 = true then ((safe_Forbidden.f k (⟨#[88, 45, 83, 101, 99, 45]⟩ : ByteArray)).bind fun t110 => (if t110 = true then (some false) else ((safe_Header.f k (⟨#[99, 111, 110, 116, 101, 110, 116, 45, 116, 121, 112, 101]⟩ : ByteArray) (⟨#[116, 101, 120, 116, 47, 112, 108, 97, 105, 110, 59, 99, 104, 97, 114, 115, 101, 116, 61, 117, 116, 102, 45, 56]⟩ : ByteArray)).bind fun t111 => (if t111 = true then ((safe_Unsafe.f k y101).bind fun t112 => ((pursuivantref04_Same.f k t112 (([(⟨#[99, 111, 110, 116, 101, 110, 116, 45, 116, 121, 112, 101]⟩ : ByteArray), (⟨#[120, 45, 97]⟩ : ByteArray), (⟨#[120, 45, 98]⟩ : ByteArray)] : List ByteArray))).bind fun t118 => (some t118))) else (some false))))) else (some false))))) else (some false)) = some r := H
    have A7 := Aside0.mk A70
    clear A70
    by_cases c8 : t107 = true
    ·subst c8
     have H1 : ((safe_Simple.f (⟨#[80, 85, 84]⟩ : ByteArray)).bind fun t108 => (if t108 = true then (some false) else ((safe_Forbidden.f k (⟨#[83, 101, 99, 45, 88]⟩ : ByteArray)).bind fun t109 => (if t109 = true then ((safe_Forbidden.f k (⟨#[88, 45, 83, 101, 99, 45]⟩ : ByteArray)).bind fun t110 => (if t110 = true then (some false) else ((safe_Header.f k (⟨#[99, 111, 110, 116, 101, 110, 116, 45, 116, 121, 112, 101]⟩ : ByteArray) (⟨#[116, 101, 120, 116, 47, 112, 108, 97, 105, 110, 59, 99, 104, 97, 114, 115, 101, 116, 61, 117, 116, 102, 45, 56]⟩ : ByteArray)).bind fun t111 => (if t111 = true then ((safe_Unsafe.f k y101).bind fun t112 => ((pursuivantref04_Same.f k t112 (([(⟨#[99, 111, 110, 116, 101, 110, 116, 45, 116, 121, 112, 101]⟩ : ByteArray), (⟨#[120, 45, 97]⟩ : ByteArray), (⟨#[120, 45, 98]⟩ : ByteArray)] : List ByteArray))).bind fun t118 => (some t118))) else (some false))))) else (some false))))) = some r := by rw [if_pos rfl] at H; exact H
     clear H
     have H := H1
     clear H1
     replace H := Option.bind_eq_some_iff.mp H
     obtain ⟨t108, A90, H⟩ := H
     replace H : (if t108 = true then (some false) else ((safe_Forbidden.f k (⟨#[83, 101, 99, 45, 88]⟩ : ByteArray)).bind fun t109 => (if t109 = true then ((safe_Forbidden.f k (⟨#[88, 45, 83, 101, 99, 45]⟩ : ByteArray)).bind fun t110 => (if t110 = true then (some false) else ((safe_Header.f k (⟨#[99, 111, 110, 116, 101, 110, 116, 45, 116, 121, 112, 101]⟩ : ByteArray) (⟨#[116, 101, 120, 116, 47, 112, 108, 97, 105, 110, 59, 99, 104, 97, 114, 115, 101, 116, 61, 117, 116, 102, 45, 56]⟩ : ByteArray)).bind fun t111 => (if t111 = true then ((safe_Unsafe.f k y101).bind fun t112 => ((pursuivantref04_Same.f k t112 (([(⟨#[99, 111, 110, 116, 101, 110, 116, 45, 116, 121, 112, 101]⟩ : ByteArray), (⟨#[120, 45, 97]⟩ : ByteArray), (⟨#[120, 45, 98]⟩ : ByteArray)] : List ByteArray))).bind fun t118 => (some t118))) else (some false))))) else (some false)))) = some r := H
     have A9 := Aside0.mk A90
     clear A90
     by_cases c10 : t108 = true
     ·subst c10
      have H1 : (some false) = some r := by rw [if_pos rfl] at H; exact H
      clear H
      have H := H1
      clear H1
      exact absurd ((Option.some.inj H).trans hr_) Bool.false_ne_true
     ·replace c10 := Bool.eq_false_iff.mpr c10
      subst c10
      have H1 : ((safe_Forbidden.f k (⟨#[83, 101, 99, 45, 88]⟩ : ByteArray)).bind fun t109 => (if t109 = true then ((safe_Forbidden.f k (⟨#[88, 45, 83, 101, 99, 45]⟩ : ByteArray)).bind fun t110 => (if t110 = true then (some false) else ((safe_Header.f k (⟨#[99, 111, 110, 116, 101, 110, 116, 45, 116, 121, 112, 101]⟩ : ByteArray) (⟨#[116, 101, 120, 116, 47, 112, 108, 97, 105, 110, 59, 99, 104, 97, 114, 115, 101, 116, 61, 117, 116, 102, 45, 56]⟩ : ByteArray)).bind fun t111 => (if t111 = true then ((safe_Unsafe.f k y101).bind fun t112 => ((pursuivantref04_Same.f k t112 (([(⟨#[99, 111, 110, 116, 101, 110, 116, 45, 116, 121, 112, 101]⟩ : ByteArray), (⟨#[120, 45, 97]⟩ : ByteArray), (⟨#[120, 45, 98]⟩ : ByteArray)] : List ByteArray))).bind fun t118 => (some t118))) else (some false))))) else (some false))) = some r := by rw [if_neg (show ¬ (false = true) by decide)] at H; exact H
      clear H
      have H := H1
      clear H1
      replace H := Option.bind_eq_some_iff.mp H
      obtain ⟨t109, A110, H⟩ := H
      replace H : (if t109 = true then ((safe_Forbidden.f k (⟨#[88, 45, 83, 101, 99, 45]⟩ : ByteArray)).bind fun t110 => (if t110 = true then (some false) else ((safe_Header.f k (⟨#[99, 111, 110, 116, 101, 110, 116, 45, 116, 121, 112, 101]⟩ : ByteArray) (⟨#[116, 101, 120, 116, 47, 112, 108, 97, 105, 110, 59, 99, 104, 97, 114, 115, 101, 116, 61, 117, 116, 102, 45, 56]⟩ : ByteArray)).bind fun t111 => (if t111 = true then ((safe_Unsafe.f k y101).bind fun t112 => ((pursuivantref04_Same.f k t112 (([(⟨#[99, 111, 110, 116, 101, 110, 116, 45, 116, 121, 112, 101]⟩ : ByteArray), (⟨#[120, 45, 97]⟩ : ByteArray), (⟨#[120, 45, 98]⟩ : ByteArray)] : List ByteArray))).bind fun t118 => (some t118))) else (some false))))) else (some false)) = some r := H
      have A11 := Aside0.mk A110
      clear A110
      by_cases c12 : t109 = true
      ·subst c12
       have H1 : ((safe_Forbidden.f k (⟨#[88, 45, 83, 101, 99, 45]⟩ : ByteArray)).bind fun t110 => (if t110 = true then (some false) else ((safe_Header.f k (⟨#[99, 111, 110, 116, 101, 110, 116, 45, 116, 121, 112, 101]⟩ : ByteArray) (⟨#[116, 101, 120, 116, 47, 112, 108, 97, 105, 110, 59, 99, 104, 97, 114, 115, 101, 116, 61, 117, 116, 102, 45, 56]⟩ : ByteArray)).bind fun t111 => (if t111 = true then ((safe_Unsafe.f k y101).bind fun t112 => ((pursuivantref04_Same.f k t112 (([(⟨#[99, 111, 110, 116, 101, 110, 116, 45, 116, 121, 112, 101]⟩ : ByteArray), (⟨#[120, 45, 97]⟩ : ByteArray), (⟨#[120, 45, 98]⟩ : ByteArray)] : List ByteArray))).bind fun t118 => (some t118))) else (some false))))) = some r := by rw [if_pos rfl] at H; exact H
       clear H
       have H := H1
       clear H1
       replace H := Option.bind_eq_some_iff.mp H
       obtain ⟨t110, A130, H⟩ := H
       replace H : (if t110 = true then (some false) else ((safe_Header.f k (⟨#[99, 111, 110, 116, 101, 110, 116, 45, 116, 121, 112, 101]⟩ : ByteArray) (⟨#[116, 101, 120, 116, 47, 112, 108, 97, 105, 110, 59, 99, 104, 97, 114, 115, 101, 116, 61, 117, 116, 102, 45, 56]⟩ : ByteArray)).bind fun t111 => (if t111 = true then ((safe_Unsafe.f k y101).bind fun t112 => ((pursuivantref04_Same.f k t112 (([(⟨#[99, 111, 110, 116, 101, 110, 116, 45, 116, 121, 112, 101]⟩ : ByteArray), (⟨#[120, 45, 97]⟩ : ByteArray), (⟨#[120, 45, 98]⟩ : ByteArray)] : List ByteArray))).bind fun t118 => (some t118))) else (some false)))) = some r := H
       have A13 := Aside0.mk A130
       clear A130
       by_cases c14 : t110 = true
       ·subst c14
        have H1 : (some false) = some r := by rw [if_pos rfl] at H; exact H
        clear H
        have H := H1
        clear H1
        exact absurd ((Option.some.inj H).trans hr_) Bool.false_ne_true
       ·replace c14 := Bool.eq_false_iff.mpr c14
        subst c14
        have H1 : ((safe_Header.f k (⟨#[99, 111, 110, 116, 101, 110, 116, 45, 116, 121, 112, 101]⟩ : ByteArray) (⟨#[116, 101, 120, 116, 47, 112, 108, 97, 105, 110, 59, 99, 104, 97, 114, 115, 101, 116, 61, 117, 116, 102, 45, 56]⟩ : ByteArray)).bind fun t111 => (if t111 = true then ((safe_Unsafe.f k y101).bind fun t112 => ((pursuivantref04_Same.f k t112 (([(⟨#[99, 111, 110, 116, 101, 110, 116, 45, 116, 121, 112, 101]⟩ : ByteArray), (⟨#[120, 45, 97]⟩ : ByteArray), (⟨#[120, 45, 98]⟩ : ByteArray)] : List ByteArray))).bind fun t118 => (some t118))) else (some false))) = some r := by rw [if_neg (show ¬ (false = true) by decide)] at H; exact H
        clear H
        have H := H1
        clear H1
        replace H := Option.bind_eq_some_iff.mp H
        obtain ⟨t111, A150, H⟩ := H
        replace H : (if t111 = true then ((safe_Unsafe.f k y101).bind fun t112 => ((pursuivantref04_Same.f k t112 (([(⟨#[99, 111, 110, 116, 101, 110, 116, 45, 116, 121, 112, 101]⟩ : ByteArray), (⟨#[120, 45, 97]⟩ : ByteArray), (⟨#[120, 45, 98]⟩ : ByteArray)] : List ByteArray))).bind fun t118 => (some t118))) else (some false)) = some r := H
        have A15 := Aside0.mk A150
        clear A150
        by_cases c16 : t111 = true
        ·subst c16
         have H1 : ((safe_Unsafe.f k y101).bind fun t112 => ((pursuivantref04_Same.f k t112 (([(⟨#[99, 111, 110, 116, 101, 110, 116, 45, 116, 121, 112, 101]⟩ : ByteArray), (⟨#[120, 45, 97]⟩ : ByteArray), (⟨#[120, 45, 98]⟩ : ByteArray)] : List ByteArray))).bind fun t118 => (some t118))) = some r := by rw [if_pos rfl] at H; exact H
         clear H
         have H := H1
         clear H1
         replace H := Option.bind_eq_some_iff.mp H
         obtain ⟨t112, A170, H⟩ := H
         replace H : ((pursuivantref04_Same.f k t112 (([(⟨#[99, 111, 110, 116, 101, 110, 116, 45, 116, 121, 112, 101]⟩ : ByteArray), (⟨#[120, 45, 97]⟩ : ByteArray), (⟨#[120, 45, 98]⟩ : ByteArray)] : List ByteArray))).bind fun t118 => (some t118)) = some r := H
         have A17 := Aside0.mk A170
         clear A170
         obtain ⟨y115, hy115⟩ : ∃ y_ : List ByteArray, y_ = (([(⟨#[99, 111, 110, 116, 101, 110, 116, 45, 116, 121, 112, 101]⟩ : ByteArray), (⟨#[120, 45, 97]⟩ : ByteArray), (⟨#[120, 45, 98]⟩ : ByteArray)] : List ByteArray)) := ⟨_, rfl⟩
         replace H : ((pursuivantref04_Same.f k t112 y115).bind fun t118 => (some t118)) = some r := by first | (rw [hy115]; with_reducible exact H) | (have H2_ := (Option.bind_some _ _).symm.trans H; rw [hy115]; with_reducible exact H2_) | (have H2_ := (Option.bind_some _ _).symm.trans H; with_reducible exact H2_) | with_reducible exact H | (rw [hy115]; exact H) | exact H
         have Ny115 := Aside0.mk hy115
         clear hy115
         replace H := Option.bind_eq_some_iff.mp H
         obtain ⟨t118, A180, H⟩ := H
         replace H : (some t118) = some r := H
         have A18 := Aside0.mk A180
         clear A180
         obtain rfl := Option.some.inj H
         go_enter Tryd.func24, Tryd.ntmps24
         go_wp2_with (first | ((with_reducible refine gate_dst (N := 7) rfl ?_); (try (refine gate_guard (by rfl) ?_; dsimp only)); refine Kd.R_lit k31 _ 31 ?hg (N := 7) ?hd (xs := ([(⟨(⟨#[88, 45, 66]⟩ : ByteArray), (⟨#[]⟩ : ByteArray)⟩ : S31), (⟨(⟨#[65, 99, 99, 101, 112, 116]⟩ : ByteArray), (⟨#[97]⟩ : ByteArray)⟩ : S31), (⟨(⟨#[120, 45, 97]⟩ : ByteArray), (⟨#[]⟩ : ByteArray)⟩ : S31), (⟨(⟨#[120, 45, 98]⟩ : ByteArray), (⟨#[]⟩ : ByteArray)⟩ : S31), (⟨(⟨#[67, 111, 110, 116, 101, 110, 116, 45, 84, 121, 112, 101]⟩ : ByteArray), (⟨#[97, 112, 112, 108, 105, 99, 97, 116, 105, 111, 110, 47, 106, 115, 111, 110]⟩ : ByteArray)⟩ : S31)] : List (S31))) (inner := [.string (⟨#[88, 45, 66]⟩ : ByteArray), .string (⟨#[]⟩ : ByteArray), .string (⟨#[65, 99, 99, 101, 112, 116]⟩ : ByteArray), .string (⟨#[97]⟩ : ByteArray), .string (⟨#[120, 45, 97]⟩ : ByteArray), .string (⟨#[]⟩ : ByteArray), .string (⟨#[120, 45, 98]⟩ : ByteArray), .string (⟨#[]⟩ : ByteArray), .string (⟨#[67, 111, 110, 116, 101, 110, 116, 45, 84, 121, 112, 101]⟩ : ByteArray), .string (⟨#[97, 112, 112, 108, 105, 99, 97, 116, 105, 111, 110, 47, 106, 115, 111, 110]⟩ : ByteArray)]) (ok := fun _ => True) (okp := fun _ => True) ?hr ?hp (fun _ hk => hk) trivial (Below.refl _ _) (Nat.le_refl _) (by simp) ?_; (case hd => rfl); (case hg => rfl); (case hr => first | (go_simp; done) | (go_simp; rfl)); (case hp => exact (Reps.c2 (show Kd.M k31 _ _ _ (⟨(⟨#[88, 45, 66]⟩ : ByteArray), (⟨#[]⟩ : ByteArray)⟩ : S31) [.string (⟨#[88, 45, 66]⟩ : ByteArray), .string (⟨#[]⟩ : ByteArray)] from (k31_mkM _ _ _ (⟨(⟨#[88, 45, 66]⟩ : ByteArray), (⟨#[]⟩ : ByteArray)⟩ : S31) )) (Reps.c2 (show Kd.M k31 _ _ _ (⟨(⟨#[65, 99, 99, 101, 112, 116]⟩ : ByteArray), (⟨#[97]⟩ : ByteArray)⟩ : S31) [.string (⟨#[65, 99, 99, 101, 112, 116]⟩ : ByteArray), .string (⟨#[97]⟩ : ByteArray)] from (k31_mkM _ _ _ (⟨(⟨#[65, 99, 99, 101, 112, 116]⟩ : ByteArray), (⟨#[97]⟩ : ByteArray)⟩ : S31) )) (Reps.c2 (show Kd.M k31 _ _ _ (⟨(⟨#[120, 45, 97]⟩ : ByteArray), (⟨#[]⟩ : ByteArray)⟩ : S31) [.string (⟨#[120, 45, 97]⟩ : ByteArray), .string (⟨#[]⟩ : ByteArray)] from (k31_mkM _ _ _ (⟨(⟨#[120, 45, 97]⟩ : ByteArray), (⟨#[]⟩ : ByteArray)⟩ : S31) )) (Reps.c2 (show Kd.M k31 _ _ _ (⟨(⟨#[120, 45, 98]⟩ : ByteArray), (⟨#[]⟩ : ByteArray)⟩ : S31) [.string (⟨#[120, 45, 98]⟩ : ByteArray), .string (⟨#[]⟩ : ByteArray)] from (k31_mkM _ _ _ (⟨(⟨#[120, 45, 98]⟩ : ByteArray), (⟨#[]⟩ : ByteArray)⟩ : S31) )) (Reps.c2 (show Kd.M k31 _ _ _ (⟨(⟨#[67, 111, 110, 116, 101, 110, 116, 45, 84, 121, 112, 101]⟩ : ByteArray), (⟨#[97, 112, 112, 108, 105, 99, 97, 116, 105, 111, 110, 47, 106, 115, 111, 110]⟩ : ByteArray)⟩ : S31) [.string (⟨#[67, 111, 110, 116, 101, 110, 116, 45, 84, 121, 112, 101]⟩ : ByteArray), .string (⟨#[97, 112, 112, 108, 105, 99, 97, 116, 105, 111, 110, 47, 106, 115, 111, 110]⟩ : ByteArray)] from (k31_mkM _ _ _ (⟨(⟨#[67, 111, 110, 116, 101, 110, 116, 45, 84, 121, 112, 101]⟩ : ByteArray), (⟨#[97, 112, 112, 108, 105, 99, 97, 116, 105, 111, 110, 47, 106, 115, 111, 110]⟩ : ByteArray)⟩ : S31) )) (Reps.none _ _))))))); intro v102 w19 ho20 hb hg_ hnew_; clear hg_ hnew_; (first | rw [← Ny101.out] at ho20 | (simp only [Int.reduceToNat] at ho20; rw [← Ny101.out] at ho20)); have n0_ := Aside0.mk (Kd.R_lower ho20 (below_size z3_)); have n1_ := Aside0.mk (below_step z3_ hb); clear HB; have HO103 := n0_; have HB := n1_; clear n0_ n1_; clear hb ho20) | ((with_reducible refine gate_callee (f := 25) rfl ?_); refine goesL_ (some 8) rfl rfl Tryd.func25 (by kernel_rfl) rfl #[.string (⟨#[103, 101, 116]⟩ : ByteArray)] rfl z2_ ?_; (with_reducible refine (safe_Method.calls (⟨#[103, 101, 116]⟩ : ByteArray) t104 _ ?gw1_ A1.out).mono ?_); (case gw1_ => first | exact hG_ | (refine GW.below hG_ ?_; first | (with_reducible exact HB.out) | (repeat (first | (with_reducible first | exact HB.out | apply below_alloc | apply pw_below_drewN | apply below_drew1 | apply below_drew | exact Below.refl _ _) | exact HB.out))) | (apply GW.drewN; exact hG_) | (apply GW.drew; exact hG_)); rintro e w21 ⟨rfl, hb⟩; refine ⟨_, rfl, ?_⟩; have n0_ := Aside0.mk (Kd.R_below z8_ hb); have n1_ := Aside0.mk (below_step z3_ hb); clear HO103; clear HB; have HO103 := n0_; have HB := n1_; clear n0_ n1_; (try clear hb); (try clear hb2); (try clear hk); (try clear hi)) | (go_at_call 25; (fail_if_success (have z_ := U_1)); have U_1 := trivial; (with_reducible refine (safe_Method.calls (⟨#[112, 97, 116, 99, 104]⟩ : ByteArray) t105 _ ?gw2_ A3.out).mono ?_); (case gw2_ => first | exact hG_ | (refine GW.below hG_ ?_; first | (with_reducible exact HB.out) | (repeat (first | (with_reducible first | exact HB.out | apply below_alloc | apply pw_below_drewN | apply below_drew1 | apply below_drew | exact Below.refl _ _) | exact HB.out))) | (apply GW.drewN; exact hG_) | (apply GW.drew; exact hG_)); rintro e w22 ⟨rfl, hb⟩; have n0_ := Aside0.mk (Kd.R_below z8_ hb); have n1_ := Aside0.mk (below_step z3_ hb); clear HO103; clear HB; have HO103 := n0_; have HB := n1_; clear n0_ n1_; (try clear hb); (try clear hb2); (try clear hk); (try clear hi)) | (go_at_call 27; (fail_if_success (have z_ := U_2)); have U_2 := trivial; (with_reducible refine (safe_Bad.calls (⟨#[116, 114, 97, 99, 101]⟩ : ByteArray) true _ ?gw3_ A5.out).mono ?_); (case gw3_ => first | exact hG_ | (refine GW.below hG_ ?_; first | (with_reducible exact HB.out) | (repeat (first | (with_reducible first | exact HB.out | apply below_alloc | apply pw_below_drewN | apply below_drew1 | apply below_drew | exact Below.refl _ _) | exact HB.out))) | (apply GW.drewN; exact hG_) | (apply GW.drew; exact hG_)); rintro e w23 ⟨rfl, hb⟩; have n0_ := Aside0.mk (Kd.R_below z8_ hb); have n1_ := Aside0.mk (below_step z3_ hb); clear HO103; clear HB; have HO103 := n0_; have HB := n1_; clear n0_ n1_; (try clear hb); (try clear hb2); (try clear hk); (try clear hi)) | (go_at_call 29; (fail_if_success (have z_ := U_3)); have U_3 := trivial; (with_reducible refine (safe_Simple.calls (⟨#[72, 69, 65, 68]⟩ : ByteArray) true _ ?gw4_ A7.out).mono ?_); (case gw4_ => first | exact hG_ | (refine GW.below hG_ ?_; first | (with_reducible exact HB.out) | (repeat (first | (with_reducible first | exact HB.out | apply below_alloc | apply pw_below_drewN | apply below_drew1 | apply below_drew | exact Below.refl _ _) | exact HB.out))) | (apply GW.drewN; exact hG_) | (apply GW.drew; exact hG_)); rintro e w' ⟨rfl, ⟨nd, rfl⟩⟩) | (go_at_call 29; (fail_if_success (have z_ := U_4)); have U_4 := trivial; (with_reducible refine (safe_Simple.calls (⟨#[80, 85, 84]⟩ : ByteArray) false _ ?gw5_ A9.out).mono ?_); (case gw5_ => first | exact hG_ | (refine GW.below hG_ ?_; first | (with_reducible exact HB.out) | (repeat (first | (with_reducible first | exact HB.out | apply below_alloc | apply pw_below_drewN | apply below_drew1 | apply below_drew | exact Below.refl _ _) | exact HB.out))) | (apply GW.drewN; exact hG_) | (apply GW.drew; exact hG_)); rintro e w' ⟨rfl, ⟨nd, rfl⟩⟩) | (go_at_call 33; (fail_if_success (have z_ := U_5)); have U_5 := trivial; (with_reducible refine (safe_Forbidden.calls k (⟨#[83, 101, 99, 45, 88]⟩ : ByteArray) true _ ?gw6_ A11.out).mono ?_); (case gw6_ => first | exact hG_ | (refine GW.below hG_ ?_; first | (with_reducible exact HB.out) | (repeat (first | (with_reducible first | exact HB.out | apply below_alloc | apply pw_below_drewN | apply below_drew1 | apply below_drew | exact Below.refl _ _) | exact HB.out))) | (apply GW.drewN; exact hG_) | (apply GW.drew; exact hG_)); rintro e w24 ⟨rfl, hb⟩; have n0_ := Aside0.mk (Kd.R_below z8_ hb); have n1_ := Aside0.mk (below_step z3_ hb); clear HO103; clear HB; have HO103 := n0_; have HB := n1_; clear n0_ n1_; (try clear hb); (try clear hb2); (try clear hk); (try clear hi)) | (go_at_call 33; (fail_if_success (have z_ := U_6)); have U_6 := trivial; (with_reducible refine (safe_Forbidden.calls k (⟨#[88, 45, 83, 101, 99, 45]⟩ : ByteArray) false _ ?gw7_ A13.out).mono ?_); (case gw7_ => first | exact hG_ | (refine GW.below hG_ ?_; first | (with_reducible exact HB.out) | (repeat (first | (with_reducible first | exact HB.out | apply below_alloc | apply pw_below_drewN | apply below_drew1 | apply below_drew | exact Below.refl _ _) | exact HB.out))) | (apply GW.drewN; exact hG_) | (apply GW.drew; exact hG_)); rintro e w25 ⟨rfl, hb⟩; have n0_ := Aside0.mk (Kd.R_below z8_ hb); have n1_ := Aside0.mk (below_step z3_ hb); clear HO103; clear HB; have HO103 := n0_; have HB := n1_; clear n0_ n1_; (try clear hb); (try clear hb2); (try clear hk); (try clear hi)) | (go_at_call 31; (fail_if_success (have z_ := U_7)); have U_7 := trivial; (with_reducible refine (safe_Header.calls k (⟨#[99, 111, 110, 116, 101, 110, 116, 45, 116, 121, 112, 101]⟩ : ByteArray) (⟨#[116, 101, 120, 116, 47, 112, 108, 97, 105, 110, 59, 99, 104, 97, 114, 115, 101, 116, 61, 117, 116, 102, 45, 56]⟩ : ByteArray) true _ ?gw8_ A15.out).mono ?_); (case gw8_ => first | exact hG_ | (refine GW.below hG_ ?_; first | (with_reducible exact HB.out) | (repeat (first | (with_reducible first | exact HB.out | apply below_alloc | apply pw_below_drewN | apply below_drew1 | apply below_drew | exact Below.refl _ _) | exact HB.out))) | (apply GW.drewN; exact hG_) | (apply GW.drew; exact hG_)); rintro e w26 ⟨rfl, hb⟩; have n0_ := Aside0.mk (Kd.R_below z8_ hb); have n1_ := Aside0.mk (below_step z3_ hb); clear HO103; clear HB; have HO103 := n0_; have HB := n1_; clear n0_ n1_; (try clear hb); (try clear hb2); (try clear hk); (try clear hi); obtain ⟨Ao27, co27, eo27⟩ := Kd.R_slice HO103.out; subst eo27) | (go_at_call 35; (fail_if_success (have z_ := U_8)); have U_8 := trivial; (with_reducible refine (safe_Unsafe.calls k _ _ y101 t112 _ ?gw9_ ?side1 ?side2 A17.out).mono ?_); (case gw9_ => first | exact hG_ | (refine GW.below hG_ ?_; first | (with_reducible exact HB.out) | (repeat (first | (with_reducible first | exact HB.out | apply below_alloc | apply pw_below_drewN | apply below_drew1 | apply below_drew | exact Below.refl _ _) | exact HB.out))) | (apply GW.drewN; exact hG_) | (apply GW.drew; exact hG_)); (case side1 => repeat (first | exact (Kd.R_reads' HO103.out).2.2 | (with_reducible refine Kd.C_alloc ?_ _) | (with_reducible refine Kd.C_drewN ?_ _) | (with_reducible refine Kd.C_drew ?_))); (case side2 => exact (Kd.R_reads' HO103.out).2.1); rintro e w28 ⟨v113, rfl, ho0, hb⟩; have n0_ := Aside0.mk (Kd.R_below z8_ hb); have n1_ := Aside0.mk (Kd.V_lower (Kd.V_mono (ok' := fun k_ => some k_ ≠ (.slice Ao27 y101.length co27 : Value).ownBlock) ho0 (fun k_ hk_ => (Kd.fresh' (Kd.R_lt z8_) k_ hk_))) (below_size z3_)); have n2_ := Aside0.mk (below_step z3_ hb); clear HO103; clear HB; have HO103 := n0_; have HO114 := n1_; have HB := n2_; clear n0_ n1_ n2_; (try clear hb); (try clear hb2); (try clear hk); (try clear hi); (try clear ho0)) | ((with_reducible refine gate_dst (N := 38) rfl ?_); (try (refine gate_guard (by rfl) ?_; dsimp only)); refine Kd.R_lit Kd.string _ 9 ?hg (N := 38) ?hd (xs := ([(⟨#[99, 111, 110, 116, 101, 110, 116, 45, 116, 121, 112, 101]⟩ : ByteArray), (⟨#[120, 45, 97]⟩ : ByteArray), (⟨#[120, 45, 98]⟩ : ByteArray)] : List ByteArray)) (inner := [.string (⟨#[99, 111, 110, 116, 101, 110, 116, 45, 116, 121, 112, 101]⟩ : ByteArray), .string (⟨#[120, 45, 97]⟩ : ByteArray), .string (⟨#[120, 45, 98]⟩ : ByteArray)]) (ok := fun _ => True) (okp := fun _ => True) ?hr ?hp (fun _ hk => hk) trivial (Below.refl _ _) (Nat.le_refl _) (by simp) ?_; (case hd => rfl); (case hg => rfl); (case hr => first | (go_simp; done) | (go_simp; rfl)); (case hp => exact (Reps.one (show Kd.M Kd.string _ _ _ (⟨#[99, 111, 110, 116, 101, 110, 116, 45, 116, 121, 112, 101]⟩ : ByteArray) [.string (⟨#[99, 111, 110, 116, 101, 110, 116, 45, 116, 121, 112, 101]⟩ : ByteArray)] from rfl) (Reps.one (show Kd.M Kd.string _ _ _ (⟨#[120, 45, 97]⟩ : ByteArray) [.string (⟨#[120, 45, 97]⟩ : ByteArray)] from rfl) (Reps.one (show Kd.M Kd.string _ _ _ (⟨#[120, 45, 98]⟩ : ByteArray) [.string (⟨#[120, 45, 98]⟩ : ByteArray)] from rfl) (Reps.none _ _))))); intro v116 w29 ho30 hb hg_ hnew_; clear hg_ hnew_; (first | rw [← Ny115.out] at ho30 | (simp only [Int.reduceToNat] at ho30; rw [← Ny115.out] at ho30)); have n0_ := Aside0.mk (Kd.R_below z8_ hb); have n1_ := Aside0.mk (Kd.V_elder' (by (with_reducible repeat (first | apply Kd.V_alloc | apply Kd.V_drewN | apply Kd.V_drew)); exact HO114.out) (Kd.R_base ho30) hb); have n2_ := Aside0.mk (Kd.R_lower ho30 (below_size z3_)); have n3_ := Aside0.mk (below_step z3_ hb); clear HO103; clear HO114; clear HB; have HO103 := n0_; have HO114 := n1_; have HO117 := n2_; have HB := n3_; clear n0_ n1_ n2_ n3_; clear hb ho30; obtain ⟨Ao31, co31, eo31⟩ := Kd.V_slice HO114.out; subst eo31; obtain ⟨Ao32, co32, eo32⟩ := Kd.R_slice HO117.out; subst eo32) | (go_at_call 36; (fail_if_success (have z_ := U_9)); have U_9 := trivial; (with_reducible refine (pursuivantref04_Same.calls k _ _ t112 _ _ y115 t118 _ ?gw10_ ?side1 ?side2 ?side3 ?side4 A18.out).mono ?_); (case gw10_ => first | exact hG_ | (refine GW.below hG_ ?_; first | (with_reducible exact HB.out) | (repeat (first | (with_reducible first | exact HB.out | apply below_alloc | apply pw_below_drewN | apply below_drew1 | apply below_drew | exact Below.refl _ _) | exact HB.out))) | (apply GW.drewN; exact hG_) | (apply GW.drew; exact hG_)); (case side1 => repeat (first | exact (Kd.V_reads' HO114.out).2.2 | (with_reducible refine Kd.C_alloc ?_ _) | (with_reducible refine Kd.C_drewN ?_ _) | (with_reducible refine Kd.C_drew ?_))); (case side2 => exact (Kd.V_reads' HO114.out).2.1); (case side3 => repeat (first | exact (Kd.R_reads' HO117.out).2.2 | (with_reducible refine Kd.C_alloc ?_ _) | (with_reducible refine Kd.C_drewN ?_ _) | (with_reducible refine Kd.C_drew ?_))); (case side4 => exact (Kd.R_reads' HO117.out).2.1); rintro e w' ⟨rfl, ⟨nd, rfl⟩⟩))
         go_ret
         exact ⟨z4_, z3_⟩
        ·replace c16 := Bool.eq_false_iff.mpr c16
         subst c16
         have H1 : (some false) = some r := by rw [if_neg (show ¬ (false = true) by decide)] at H; exact H
         clear H
         have H := H1
         clear H1
         exact absurd ((Option.some.inj H).trans hr_) Bool.false_ne_true
      ·replace c12 := Bool.eq_false_iff.mpr c12
       subst c12
       have H1 : (some false) = some r := by rw [if_neg (show ¬ (false = true) by decide)] at H; exact H
       clear H
       have H := H1
       clear H1
       exact absurd ((Option.some.inj H).trans hr_) Bool.false_ne_true
    ·replace c8 := Bool.eq_false_iff.mpr c8
     subst c8
     have H1 : (some false) = some r := by rw [if_neg (show ¬ (false = true) by decide)] at H; exact H
     clear H
     have H := H1
     clear H1
     exact absurd ((Option.some.inj H).trans hr_) Bool.false_ne_true
   ·replace c6 := Bool.eq_false_iff.mpr c6
    subst c6
    have H1 : (some false) = some r := by rw [if_neg (show ¬ (false = true) by decide)] at H; exact H
    clear H
    have H := H1
    clear H1
    exact absurd ((Option.some.inj H).trans hr_) Bool.false_ne_true
  ·rw [if_neg c4] at H
   have c4b0 : (t105.toList == ([112, 97, 116, 99, 104] : List UInt8)) = false := beq_eq_false_iff_ne.mpr c4
   have c4b1 : (t105.toList != ([112, 97, 116, 99, 104] : List UInt8)) = true := bne_iff_ne.mpr c4
   exact absurd ((Option.some.inj H).trans hr_) Bool.false_ne_true
 ·rw [if_neg c2] at H
  have c2b0 : (t104.toList == ([71, 69, 84] : List UInt8)) = false := beq_eq_false_iff_ne.mpr c2
  have c2b1 : (t104.toList != ([71, 69, 84] : List UInt8)) = true := bne_iff_ne.mpr c2
  exact absurd ((Option.some.inj H).trans hr_) Bool.false_ne_true

/-! ### pursuivantlaw10_SafeMethods: function 6 -/
/-! ### pursuivantlaw10_SafeHeaders: function 7 -/
/-! ### pursuivantlaw10_SafeUnsafe: function 8 -/
mutual
def pursuivantlaw10_SafeUnsafe.j0 : Nat → List (S31) → Option (Bool)
 | 0, _ => none
 | k + 1, x3 => pursuivantlaw10_SafeUnsafe.l0 k x3 (([] : List (S31))) (([] : List (S31))) (wrap64 ((x3.length : Int) - 1))
def pursuivantlaw10_SafeUnsafe.l0 : Nat → List (S31) → List (S31) → List (S31) → Int → Option (Bool)
 | 0, _, _, _, _ => none
 | k + 1, x3, x4, x5, x6 => if x6 ≥ 0 then (if 0 ≤ x6 then (if x6 < (x3.length : Int) then (if x4.length < 4398046511104 then ((some (x4 ++ [(⟨(rd_T31 x3 x6).f0, (rd_T31 x3 x6).f1⟩ : S31)] : List (S31))).bind fun y144 => ((safe_Header.f k ((rd_T31 x3 x6).f0) ((rd_T31 x3 x6).f1)).bind fun t148 => (if t148 = true then (pursuivantlaw10_SafeUnsafe.l0 k x3 y144 x5 (wrap64 (x6 - 1))) else (if x5.length < 4398046511104 then (pursuivantlaw10_SafeUnsafe.l0 k x3 y144 (x5 ++ [(⟨(rd_T31 x3 x6).f0, (rd_T31 x3 x6).f1⟩ : S31)]) (wrap64 (x6 - 1))) else (none))))) else (none)) else (none)) else (none)) else ((safe_Unsafe.f k x3).bind fun t153 => ((pursuivantlaw10_awake.f k).bind fun t156 => (if t156 = true then ((pursuivantref10_Unsafe.f k x3).bind fun t157 => ((pursuivantref04_Same.f k t153 t157).bind fun t160 => (if t160 = true then ((safe_Unsafe.f k x4).bind fun t161 => ((pursuivantref04_Same.f k t153 t161).bind fun t164 => (if t164 = true then ((safe_Unsafe.f k x5).bind fun t165 => ((pursuivantref04_Same.f k t153 t165).bind fun t168 => (some t168))) else (some false)))) else (some false)))) else (some false))))
end
def pursuivantlaw10_SafeUnsafe.f (k : Nat) (l0 : List (S31)) : Option (Bool) := if (l0.length : Int) > 30 then (if 30 ≤ (l0.length : Int) then (pursuivantlaw10_SafeUnsafe.j0 k (l0.take 30)) else (none)) else (pursuivantlaw10_SafeUnsafe.j0 k l0)
set_option maxHeartbeats 8000000 in
set_option maxRecDepth 100000 in
theorem pursuivantlaw10_SafeUnsafe.calls (k : Nat) (P0_ : Nat → Prop) (A0 : Option Addr) (c0 : Nat) (l0 : List (S31)) (r : Bool) (w : World) (hG_ : GW w) (hs0 : Kd.V k31 31 w w.heap.size (fun k_ => P0_ k_) (.slice A0 l0.length c0) l0) (h : pursuivantlaw10_SafeUnsafe.f k l0 = some r) (hr_ : r = true) :
  Calls Tryd.prog 8 #[.slice A0 l0.length c0] w fun e w' => e = .returned (.bool r) ∧ Below w.heap.size w w' := by
 have hu31 := Tryd.underlying31
 have HO0 := Aside0.mk (show Kd.V k31 31 w w.heap.size (fun k_ => (P0_ k_ ∨ w.heap.size ≤ k_)) (.slice A0 l0.length c0) l0 from Kd.V_mono hs0 (fun k_ hk => .inl hk))
 have HB := Aside0.mk (Below.refl w.heap.size w)
 have H : (if (l0.length : Int) > 30 then (if 30 ≤ (l0.length : Int) then (pursuivantlaw10_SafeUnsafe.j0 k (l0.take 30)) else (none)) else (pursuivantlaw10_SafeUnsafe.j0 k l0)) = some r := h
 clear h
 have HC2 := Aside0.mk H
 clear H
 go_enter Tryd.func8, Tryd.ntmps8
 go_upto_if 11 with (fail)
 go_cut [3] (fun v3 wc => ∃ (kq : Nat) (x3_1 : List (S31)), Aside0 (pursuivantlaw10_SafeUnsafe.j0 kq x3_1 = some r) ∧ Aside0 (kq ≤ k) ∧ Aside0 (Kd.V k31 31 wc w.heap.size (fun k_ => (P0_ k_ ∨ w.heap.size ≤ k_)) v3 x3_1) ∧ Aside0 (Below w.heap.size w wc))
 case first =>
  have H := HC2.out
  clear HC2
  by_cases c3 : (l0.length : Int) > 30
  ·rw [if_pos c3] at H
   have c3b0 : decide (30 < (l0.length : Int)) = true := decide_eq_true c3
   have c3b1 : decide (30 < l0.length) = true := decide_eq_true (by omega)
   clear c3
   (first | rw [c3b0] | (simp only [i64_w, i32_w]; rw [c3b0]) | skip)
   by_cases c4 : 30 ≤ (l0.length : Int)
   ·rw [if_pos c4] at H
    have c4b0 := eq_true c4
    have c4b1 : decide (30 ≤ (l0.length : Int)) = true := decide_eq_true c4
    clear c4
    obtain ⟨y132, hy132⟩ : ∃ y_ : List (S31), y_ = (l0.take 30) := ⟨_, rfl⟩
    replace H : (pursuivantlaw10_SafeUnsafe.j0 k y132) = some r := by first | (rw [hy132]; with_reducible exact H) | (have H2_ := (Option.bind_some _ _).symm.trans H; rw [hy132]; with_reducible exact H2_) | (have H2_ := (Option.bind_some _ _).symm.trans H; with_reducible exact H2_) | with_reducible exact H | (rw [hy132]; exact H) | exact H
    have Ny132 := Aside0.mk hy132
    clear hy132
    have H' := Aside0.mk H
    clear H
    have q5 : (30 : Int) ≤ ((l0.length : Int) : Int) := of_decide_eq_true z19_
    obtain ⟨i05, hi05, _, hsz5, _⟩ := info_parts info31
    have hroom5 : l0.length ≤ c0 := (Kd.V_reads' HO0.out).2.1
    have hC5 : Kd.F k31 _ _ A0 l0.length l0 := (Kd.V_at (base := w.heap.size) HO0.out).2.2
    have hcut5 := cut_to (P := Tryd.prog) 33 31 .i64 Tryd.underlying33 hi05 A0 l0.length c0 30 (by omega) q5 hroom5
    have hr5 := Kd.F_take (m := 30) hC5 (by omega)
    have hy5 : y132.length = (30 : Int).toNat := (by rw [Ny132.out, List.length_take]; omega)
    rw [← Ny132.out] at hr5
    rw [← hy5] at hcut5
    have HO136 := Aside0.mk (show Kd.V k31 31 _ w.heap.size _ (.slice A0 y132.length c0) y132 from Kd.V_mk (by omega) hr5)
    have HC136 := Aside0.mk (show y132.length ≤ c0 from by omega)
    clear hr5 hC5 hroom5 hi05 hsz5
    have KY5 := Aside0.mk hy5
    clear hy5
    replace q5 := eq_true q5
    go_wp2
    go_meet
    case rel => exact ⟨_, (y132), H', ⟨z21_⟩, ⟨by (with_reducible repeat (first | apply Kd.V_alloc | apply Kd.V_drewN | apply Kd.V_drew)); exact HO136.out⟩, ⟨z3_⟩⟩
   ·rw [if_neg c4] at H
    exact absurd H (by simp)
  ·rw [if_neg c3] at H
   have c3b0 : decide (30 < (l0.length : Int)) = false := decide_eq_false c3
   have c3b1 : decide (30 < l0.length) = false := decide_eq_false (by omega)
   clear c3
   (first | rw [c3b0] | (simp only [i64_w, i32_w]; rw [c3b0]) | skip)
   have H' := Aside0.mk H
   clear H
   go_wp2
   go_meet
   case rel => exact ⟨_, (l0), H', ⟨z21_⟩, ⟨by (with_reducible repeat (first | apply Kd.V_alloc | apply Kd.V_drewN | apply Kd.V_drew)); exact HO0.out⟩, ⟨z3_⟩⟩
 case rest =>
  clear HC2
  try clear p2
  try clear c3
  try clear c3b0
  try clear c3b1
  try clear c4
  try clear c4b0
  try clear c4b1
  try clear q5
  try clear q5
  obtain ⟨kq, x3_1, HA, HJ1, HO_3, HB⟩ := hcut
  cases kq with
  | zero => exact absurd HA.out (by simp [pursuivantlaw10_SafeUnsafe.j0])
  | succ kj1 =>
   have H := HA.out
   clear HA
   simp only [pursuivantlaw10_SafeUnsafe.j0] at H
   obtain ⟨y137, hy137⟩ : ∃ y_ : List (S31), y_ = (([] : List (S31))) := ⟨_, rfl⟩
   replace H : (pursuivantlaw10_SafeUnsafe.l0 kj1 x3_1 y137 (([] : List (S31))) (wrap64 ((x3_1.length : Int) - 1))) = some r := by first | (rw [hy137]; with_reducible exact H) | (have H2_ := (Option.bind_some _ _).symm.trans H; rw [hy137]; with_reducible exact H2_) | (have H2_ := (Option.bind_some _ _).symm.trans H; with_reducible exact H2_) | with_reducible exact H | (rw [hy137]; exact H) | exact H
   have Ny137 := Aside0.mk hy137
   clear hy137
   obtain ⟨y140, hy140⟩ : ∃ y_ : List (S31), y_ = (([] : List (S31))) := ⟨_, rfl⟩
   replace H : (pursuivantlaw10_SafeUnsafe.l0 kj1 x3_1 y137 y140 (wrap64 ((x3_1.length : Int) - 1))) = some r := by first | (rw [hy140]; with_reducible exact H) | (have H2_ := (Option.bind_some _ _).symm.trans H; rw [hy140]; with_reducible exact H2_) | (have H2_ := (Option.bind_some _ _).symm.trans H; with_reducible exact H2_) | with_reducible exact H | (rw [hy140]; exact H) | exact H
   have Ny140 := Aside0.mk hy140
   clear hy140
   have H' := Aside0.mk H
   clear H
   go_wp2_with (first | ((with_reducible refine gate_dst (N := 14) rfl ?_); refine Kd.R_lit k31 _ 31 ?hg (N := 14) ?hd (xs := ([] : List (S31))) (inner := []) (ok := fun _ => True) (okp := fun _ => True) ?hr ?hp (fun _ hk => hk) trivial (Below.refl _ _) (Nat.le_refl _) (by simp) ?_; (case hd => rfl); (case hg => rfl); (case hr => first | (go_simp; done) | (go_simp; rfl)); (case hp => exact (Reps.none _ _)); intro v138 w6 ho7 hb hg_ hnew_; clear hg_ hnew_; (first | rw [← Ny137.out] at ho7 | (simp only [Int.reduceToNat] at ho7; rw [← Ny137.out] at ho7)); have n0_ := Aside0.mk (Kd.V_elder' z12_ (Kd.R_base ho7) hb); have n1_ := Aside0.mk (Kd.R_lower (Kd.R_newM (M := fun k_ => (w.heap.size ≤ k_)) ho7 (below_size z3_) (fun k_ h_ => h_)) (below_size z3_)); have n2_ := Aside0.mk (below_step z3_ hb); clear HO_3; clear HB; have HO_3 := n0_; have HO139 := n1_; have HB := n2_; clear n0_ n1_ n2_; clear hb ho7) | ((with_reducible refine gate_dst (N := 15) rfl ?_); refine Kd.R_lit k31 _ 31 ?hg (N := 15) ?hd (xs := ([] : List (S31))) (inner := []) (ok := fun _ => True) (okp := fun _ => True) ?hr ?hp (fun _ hk => hk) trivial (Below.refl _ _) (Nat.le_refl _) (by simp) ?_; (case hd => rfl); (case hg => rfl); (case hr => first | (go_simp; done) | (go_simp; rfl)); (case hp => exact (Reps.none _ _)); intro v141 w8 ho9 hb hg_ hnew_; clear hg_ hnew_; (first | rw [← Ny140.out] at ho9 | (simp only [Int.reduceToNat] at ho9; rw [← Ny140.out] at ho9)); have n0_ := Aside0.mk (Kd.V_elder' z12_ (Kd.R_base ho9) hb); have n1_ := Aside0.mk (Kd.R_elder' (by (with_reducible repeat (first | apply Kd.R_alloc | apply Kd.R_drewN | apply Kd.R_drew)); exact HO139.out) (Kd.R_base ho9) hb); have n2_ := Aside0.mk (Kd.R_lower (Kd.R_new' (Kd.R_newM (M := fun k_ => (w.heap.size ≤ k_)) ho9 (below_size z3_) (fun k_ h_ => h_)) (Kd.R_lt (by (with_reducible repeat (first | apply Kd.R_alloc | apply Kd.R_drewN | apply Kd.R_drew)); exact HO139.out))) (below_size z3_)); have n3_ := Aside0.mk (below_step z3_ hb); clear HO_3; clear HO139; clear HB; have HO_3 := n0_; have HO139 := n1_; have HO142 := n2_; have HB := n3_; clear n0_ n1_ n2_ n3_; clear hb ho9; obtain ⟨Ao10, co10, eo10⟩ := Kd.V_slice HO_3.out; subst eo10))
   go_loopg [4, 5, 6] kj1 (fun kq v4 v5 v6 w' => ∃ (x4_2 : List (S31)) (x5_2 : List (S31)) (x6_2 : Int), v6 = .int .i64 x6_2 ∧ Aside0 (pursuivantlaw10_SafeUnsafe.l0 kq x3_1 x4_2 x5_2 x6_2 = some r) ∧ Aside0 (kq ≤ kj1) ∧ Aside0 (Kd.V k31 31 w' w.heap.size (fun k_ => (P0_ k_ ∨ w.heap.size ≤ k_) ∧ some k_ ≠ (v4 : Value).ownBlock ∧ some k_ ≠ (v5 : Value).ownBlock) (.slice Ao10 x3_1.length co10) x3_1) ∧ Aside0 (Kd.R k31 31 w' w.heap.size (fun k_ => (w.heap.size ≤ k_) ∧ some k_ ≠ (v5 : Value).ownBlock) v4 x4_2) ∧ Aside0 (Kd.R k31 31 w' w.heap.size (fun k_ => (w.heap.size ≤ k_) ∧ some k_ ≠ (v4 : Value).ownBlock) v5 x5_2) ∧ Aside0 (Below w.heap.size w w'))
   case atStart => exact ⟨(y137), (y140), (wrap64 ((x3_1.length : Int) - 1)), z15_, H', ⟨Nat.le_refl _⟩, ⟨by (with_reducible repeat (first | apply Kd.V_alloc | apply Kd.V_drewN | apply Kd.V_drew)); exact Kd.V_mono HO_3.out (fun _ hk => ⟨hk.1.1, ⟨hk.1.2, hk.2⟩⟩)⟩, ⟨by (with_reducible repeat (first | apply Kd.R_alloc | apply Kd.R_drewN | apply Kd.R_drew)); exact Kd.R_mono HO139.out (fun _ hk => ⟨hk.1.1, hk.2⟩)⟩, ⟨by (with_reducible repeat (first | apply Kd.R_alloc | apply Kd.R_drewN | apply Kd.R_drew)); exact Kd.R_mono HO142.out (fun _ hk => ⟨hk.1.1, hk.2⟩)⟩, ⟨z3_⟩⟩
   case round =>
    clear H'
    try clear p2
    try clear c3
    try clear c3b0
    try clear c3b1
    try clear c4
    try clear c4b0
    try clear c4b1
    try clear q5
    try clear p6
    try clear c8
    try clear p2
    try clear q5
    obtain ⟨x4_2, x5_2, x6_2, rfl, HA, HK2, HO_3, HO_4, HO_5, HB⟩ := hrel
    cases gk with
    | zero => exact absurd HA.out (by simp [pursuivantlaw10_SafeUnsafe.l0])
    | succ k2 =>
     have H := HA.out
     clear HA
     simp only [pursuivantlaw10_SafeUnsafe.l0] at H
     by_cases c11 : x6_2 ≥ 0
     ·rw [if_pos c11] at H
      have c11b0 : decide (0 ≤ x6_2) = true := decide_eq_true c11
      clear c11
      by_cases c12 : 0 ≤ x6_2
      ·rw [if_pos c12] at H
       have c12b0 : decide (0 ≤ x6_2) = true := decide_eq_true c12
       clear c12
       by_cases c13 : x6_2 < (x3_1.length : Int)
       ·rw [if_pos c13] at H
        have c13b0 : decide (x6_2 < (x3_1.length : Int)) = true := decide_eq_true c13
        clear c13
        by_cases c14 : x4_2.length < 4398046511104
        ·rw [if_pos c14] at H
         have LMc14 := Aside0.mk c14
         clear c14
         obtain ⟨y144, hy144⟩ : ∃ y_ : List (S31), y_ = (x4_2 ++ [(⟨(rd_T31 x3_1 x6_2).f0, (rd_T31 x3_1 x6_2).f1⟩ : S31)]) := ⟨_, rfl⟩
         replace H : ((safe_Header.f k2 ((rd_T31 x3_1 x6_2).f0) ((rd_T31 x3_1 x6_2).f1)).bind fun t148 => (if t148 = true then (pursuivantlaw10_SafeUnsafe.l0 k2 x3_1 y144 x5_2 (wrap64 (x6_2 - 1))) else (if x5_2.length < 4398046511104 then (pursuivantlaw10_SafeUnsafe.l0 k2 x3_1 y144 (x5_2 ++ [(⟨(rd_T31 x3_1 x6_2).f0, (rd_T31 x3_1 x6_2).f1⟩ : S31)]) (wrap64 (x6_2 - 1))) else (none)))) = some r := by first | (rw [hy144]; with_reducible exact H) | (have H2_ := (Option.bind_some _ _).symm.trans H; rw [hy144]; with_reducible exact H2_) | (have H2_ := (Option.bind_some _ _).symm.trans H; with_reducible exact H2_) | with_reducible exact H | (rw [hy144]; exact H) | exact H
         have Ny144 := Aside0.mk hy144
         clear hy144
         replace H := Option.bind_eq_some_iff.mp H
         obtain ⟨t148, A150, H⟩ := H
         replace H : (if t148 = true then (pursuivantlaw10_SafeUnsafe.l0 k2 x3_1 y144 x5_2 (wrap64 (x6_2 - 1))) else (if x5_2.length < 4398046511104 then (pursuivantlaw10_SafeUnsafe.l0 k2 x3_1 y144 (x5_2 ++ [(⟨(rd_T31 x3_1 x6_2).f0, (rd_T31 x3_1 x6_2).f1⟩ : S31)]) (wrap64 (x6_2 - 1))) else (none))) = some r := H
         have A15 := Aside0.mk A150
         clear A150
         by_cases c16 : t148 = true
         ·subst c16
          have H1 : (pursuivantlaw10_SafeUnsafe.l0 k2 x3_1 y144 x5_2 (wrap64 (x6_2 - 1))) = some r := by rw [if_pos rfl] at H; exact H
          clear H
          have H := H1
          clear H1
          have H' := Aside0.mk H
          clear H
          have p143 : 0 ≤ (x6_2 : Int) := of_decide_eq_true z19_
          have q143 : x6_2 < (x3_1.length : Int) := of_decide_eq_true z19_
          obtain ⟨ad143, e143, hx143_0, hx143_1⟩ := at_T31 (Kd.V_reads' HO_3.out).2.2 x6_2 p143 q143
          cases e143
          replace p143 := eq_true p143
          replace q143 := eq_true q143
          go_wp2_with (first | ((with_reducible refine gate_builtin (b := .append) (xs := #[.tmp 23, .tmp 28]) rfl ?_); at_builtin; refine Kd.R_append k31 (w0 := w) w.heap.size rfl (.tmp 23) (.tmp 28) 33 31 (.agg #[(.string ⟨#[]⟩), (.string ⟨#[]⟩)]) 32 rfl Tryd.underlying33 info31 rfl (by decide) (by omega) u4 x4_2 (⟨(rd_T31 x3_1 x6_2).f0, (rd_T31 x3_1 x6_2).f1⟩ : S31) [.string ((rd_T31 x3_1 x6_2).f0), .string ((rd_T31 x3_1 x6_2).f1)] (fun k_ => (w.heap.size ≤ k_) ∧ some k_ ≠ (u5 : Value).ownBlock) (fun _ => False) rfl rfl ?aP (fun _ hk => hk.elim) ?aF ?aO ?aB ?aS ?aL ?_; (case aP => exact k31_mkM _ _ _ (⟨(rd_T31 x3_1 x6_2).f0, (rd_T31 x3_1 x6_2).f1⟩ : S31)); (case aB => exact z3_); (case aF => exact (fun k_ hk => ⟨(Nat.le_trans (below_size z3_) hk), Kd.fresh' (Kd.R_lt z13_) k_ hk⟩)); (case aO => exact z14_); (case aS => exact (below_size z3_)); (case aL => have := LMc14.out; omega); intro v145 w17 ho hb hg hat; rw [← Ny144.out] at ho; have n0_ := Aside0.mk (Kd.V_afterv (ok := (fun k_ => (P0_ k_ ∨ w.heap.size ≤ k_) ∧ some k_ ≠ (u5 : Value).ownBlock)) (by (with_reducible repeat (first | apply Kd.V_alloc | apply Kd.V_drewN | apply Kd.V_drew)); exact Kd.V_mono HO_3.out (fun _ hk => ⟨⟨hk.1, hk.2.2⟩, hk.2.1⟩)) hg hat); have n1_ := Aside0.mk (Kd.R_after (ok := (fun k_ => (w.heap.size ≤ k_))) z13_ hg hat); have n2_ := Aside0.mk (hb); have n3_ := Aside0.mk (ho); clear HO_3; clear HO_5; clear HB; clear HO_4; have HO_3 := n0_; have HO_5 := n1_; have HB := n2_; have HO146 := n3_; clear n0_ n1_ n2_ n3_; clear ho hb hg hat; have p147 : 0 ≤ (x6_2 : Int) := of_decide_eq_true z19_; have q147 : x6_2 < (x3_1.length : Int) := of_decide_eq_true z19_; obtain ⟨ad147, e147, hx147_0, hx147_1⟩ := at_T31 (Kd.V_reads' HO_3.out).2.2 x6_2 p147 q147; obtain rfl : ad143 = ad147 := (by injection e147); replace p147 := eq_true p147; replace q147 := eq_true q147) | ((with_reducible refine gate_callee (f := 31) rfl ?_); refine goesL_ (some 34) rfl rfl Tryd.func31 (by kernel_rfl) rfl #[.agg #[.string ((rd_T31 x3_1 x6_2).f0), .string ((rd_T31 x3_1 x6_2).f1)]] rfl z2_ ?_; (with_reducible refine (safe_Header.calls k2 ((rd_T31 x3_1 x6_2).f0) ((rd_T31 x3_1 x6_2).f1) true _ ?gw18_ A15.out).mono ?_); (case gw18_ => first | exact hG_ | (refine GW.below hG_ ?_; first | (with_reducible exact HB.out) | (repeat (first | (with_reducible first | exact HB.out | apply below_alloc | apply pw_below_drewN | apply below_drew1 | apply below_drew | exact Below.refl _ _) | exact HB.out))) | (apply GW.drewN; exact hG_) | (apply GW.drew; exact hG_)); rintro e w18 ⟨rfl, hb⟩; refine ⟨_, rfl, ?_⟩; have n0_ := Aside0.mk (Kd.V_below z12_ hb); have n1_ := Aside0.mk (Kd.R_below z13_ hb); have n2_ := Aside0.mk (Kd.R_below z9_ hb); have n3_ := Aside0.mk (below_step z3_ hb); clear HO_3; clear HO_5; clear HO146; clear HB; have HO_3 := n0_; have HO_5 := n1_; have HO146 := n2_; have HB := n3_; clear n0_ n1_ n2_ n3_; (try clear hb); (try clear hb2); (try clear hk); (try clear hi)))
          go_roundg k2
          case measure => have := HJ1.out; have := HK2.out; omega
          case rel => exact ⟨(y144), (x5_2), (wrap64 (x6_2 - 1)), z15_, H', ⟨z20_⟩, ⟨by (with_reducible repeat (first | apply Kd.V_alloc | apply Kd.V_drewN | apply Kd.V_drew)); exact Kd.V_mono HO_3.out (fun _ hk => ⟨hk.1.1, ⟨hk.2, hk.1.2⟩⟩)⟩, ⟨z9_⟩, ⟨z13_⟩, ⟨z3_⟩⟩
         ·replace c16 := Bool.eq_false_iff.mpr c16
          subst c16
          have H1 : (if x5_2.length < 4398046511104 then (pursuivantlaw10_SafeUnsafe.l0 k2 x3_1 y144 (x5_2 ++ [(⟨(rd_T31 x3_1 x6_2).f0, (rd_T31 x3_1 x6_2).f1⟩ : S31)]) (wrap64 (x6_2 - 1))) else (none)) = some r := by rw [if_neg (show ¬ (false = true) by decide)] at H; exact H
          clear H
          have H := H1
          clear H1
          by_cases c19 : x5_2.length < 4398046511104
          ·rw [if_pos c19] at H
           have LMc19 := Aside0.mk c19
           clear c19
           obtain ⟨y150, hy150⟩ : ∃ y_ : List (S31), y_ = (x5_2 ++ [(⟨(rd_T31 x3_1 x6_2).f0, (rd_T31 x3_1 x6_2).f1⟩ : S31)]) := ⟨_, rfl⟩
           replace H : (pursuivantlaw10_SafeUnsafe.l0 k2 x3_1 y144 y150 (wrap64 (x6_2 - 1))) = some r := by first | (rw [hy150]; with_reducible exact H) | (have H2_ := (Option.bind_some _ _).symm.trans H; rw [hy150]; with_reducible exact H2_) | (have H2_ := (Option.bind_some _ _).symm.trans H; with_reducible exact H2_) | with_reducible exact H | (rw [hy150]; exact H) | exact H
           have Ny150 := Aside0.mk hy150
           clear hy150
           have H' := Aside0.mk H
           clear H
           have p143 : 0 ≤ (x6_2 : Int) := of_decide_eq_true z19_
           have q143 : x6_2 < (x3_1.length : Int) := of_decide_eq_true z19_
           obtain ⟨ad143, e143, hx143_0, hx143_1⟩ := at_T31 (Kd.V_reads' HO_3.out).2.2 x6_2 p143 q143
           cases e143
           replace p143 := eq_true p143
           replace q143 := eq_true q143
           go_wp2_with (first | ((with_reducible refine gate_builtin (b := .append) (xs := #[.tmp 23, .tmp 28]) rfl ?_); at_builtin; refine Kd.R_append k31 (w0 := w) w.heap.size rfl (.tmp 23) (.tmp 28) 33 31 (.agg #[(.string ⟨#[]⟩), (.string ⟨#[]⟩)]) 32 rfl Tryd.underlying33 info31 rfl (by decide) (by omega) u4 x4_2 (⟨(rd_T31 x3_1 x6_2).f0, (rd_T31 x3_1 x6_2).f1⟩ : S31) [.string ((rd_T31 x3_1 x6_2).f0), .string ((rd_T31 x3_1 x6_2).f1)] (fun k_ => (w.heap.size ≤ k_) ∧ some k_ ≠ (u5 : Value).ownBlock) (fun _ => False) rfl rfl ?aP (fun _ hk => hk.elim) ?aF ?aO ?aB ?aS ?aL ?_; (case aP => exact k31_mkM _ _ _ (⟨(rd_T31 x3_1 x6_2).f0, (rd_T31 x3_1 x6_2).f1⟩ : S31)); (case aB => exact z3_); (case aF => exact (fun k_ hk => ⟨(Nat.le_trans (below_size z3_) hk), Kd.fresh' (Kd.R_lt z13_) k_ hk⟩)); (case aO => exact z14_); (case aS => exact (below_size z3_)); (case aL => have := LMc14.out; omega); intro v145 w20 ho hb hg hat; rw [← Ny144.out] at ho; have n0_ := Aside0.mk (Kd.V_afterv (ok := (fun k_ => (P0_ k_ ∨ w.heap.size ≤ k_) ∧ some k_ ≠ (u5 : Value).ownBlock)) (by (with_reducible repeat (first | apply Kd.V_alloc | apply Kd.V_drewN | apply Kd.V_drew)); exact Kd.V_mono HO_3.out (fun _ hk => ⟨⟨hk.1, hk.2.2⟩, hk.2.1⟩)) hg hat); have n1_ := Aside0.mk (Kd.R_after (ok := (fun k_ => (w.heap.size ≤ k_))) z13_ hg hat); have n2_ := Aside0.mk (hb); have n3_ := Aside0.mk (ho); clear HO_3; clear HO_5; clear HB; clear HO_4; have HO_3 := n0_; have HO_5 := n1_; have HB := n2_; have HO146 := n3_; clear n0_ n1_ n2_ n3_; clear ho hb hg hat; have p147 : 0 ≤ (x6_2 : Int) := of_decide_eq_true z19_; have q147 : x6_2 < (x3_1.length : Int) := of_decide_eq_true z19_; obtain ⟨ad147, e147, hx147_0, hx147_1⟩ := at_T31 (Kd.V_reads' HO_3.out).2.2 x6_2 p147 q147; obtain rfl : ad143 = ad147 := (by injection e147); replace p147 := eq_true p147; replace q147 := eq_true q147) | ((with_reducible refine gate_callee (f := 31) rfl ?_); refine goesL_ (some 34) rfl rfl Tryd.func31 (by kernel_rfl) rfl #[.agg #[.string ((rd_T31 x3_1 x6_2).f0), .string ((rd_T31 x3_1 x6_2).f1)]] rfl z2_ ?_; (with_reducible refine (safe_Header.calls k2 ((rd_T31 x3_1 x6_2).f0) ((rd_T31 x3_1 x6_2).f1) false _ ?gw19_ A15.out).mono ?_); (case gw19_ => first | exact hG_ | (refine GW.below hG_ ?_; first | (with_reducible exact HB.out) | (repeat (first | (with_reducible first | exact HB.out | apply below_alloc | apply pw_below_drewN | apply below_drew1 | apply below_drew | exact Below.refl _ _) | exact HB.out))) | (apply GW.drewN; exact hG_) | (apply GW.drew; exact hG_)); rintro e w21 ⟨rfl, hb⟩; refine ⟨_, rfl, ?_⟩; have n0_ := Aside0.mk (Kd.V_below z12_ hb); have n1_ := Aside0.mk (Kd.R_below z13_ hb); have n2_ := Aside0.mk (Kd.R_below z9_ hb); have n3_ := Aside0.mk (below_step z3_ hb); clear HO_3; clear HO_5; clear HO146; clear HB; have HO_3 := n0_; have HO_5 := n1_; have HO146 := n2_; have HB := n3_; clear n0_ n1_ n2_ n3_; (try clear hb); (try clear hb2); (try clear hk); (try clear hi); have p149 : 0 ≤ (x6_2 : Int) := of_decide_eq_true z19_; have q149 : x6_2 < (x3_1.length : Int) := of_decide_eq_true z19_; obtain ⟨ad149, e149, hx149_0, hx149_1⟩ := at_T31 (Kd.V_reads' HO_3.out).2.2 x6_2 p149 q149; obtain rfl : ad143 = ad149 := (by injection e149); replace p149 := eq_true p149; replace q149 := eq_true q149) | ((with_reducible refine gate_builtin (b := .append) (xs := #[.tmp 36, .tmp 41]) rfl ?_); at_builtin; refine Kd.R_append k31 (w0 := w) w.heap.size rfl (.tmp 36) (.tmp 41) 33 31 (.agg #[(.string ⟨#[]⟩), (.string ⟨#[]⟩)]) 32 rfl Tryd.underlying33 info31 rfl (by decide) (by omega) u5 x5_2 (⟨(rd_T31 x3_1 x6_2).f0, (rd_T31 x3_1 x6_2).f1⟩ : S31) [.string ((rd_T31 x3_1 x6_2).f0), .string ((rd_T31 x3_1 x6_2).f1)] (fun k_ => (w.heap.size ≤ k_) ∧ some k_ ≠ (v145 : Value).ownBlock) (fun _ => False) rfl rfl ?aP (fun _ hk => hk.elim) ?aF ?aO ?aB ?aS ?aL ?_; (case aP => exact k31_mkM _ _ _ (⟨(rd_T31 x3_1 x6_2).f0, (rd_T31 x3_1 x6_2).f1⟩ : S31)); (case aB => exact z3_); (case aF => exact (fun k_ hk => ⟨(Nat.le_trans (below_size z3_) hk), Kd.fresh' (Kd.R_lt z9_) k_ hk⟩)); (case aO => exact z13_); (case aS => exact (below_size z3_)); (case aL => have := LMc19.out; omega); intro v151 w22 ho hb hg hat; rw [← Ny150.out] at ho; have n0_ := Aside0.mk (Kd.V_afterv (ok := (fun k_ => (P0_ k_ ∨ w.heap.size ≤ k_) ∧ some k_ ≠ (v145 : Value).ownBlock)) (by (with_reducible repeat (first | apply Kd.V_alloc | apply Kd.V_drewN | apply Kd.V_drew)); exact Kd.V_mono HO_3.out (fun _ hk => ⟨⟨hk.1.1, hk.2⟩, hk.1.2⟩)) hg hat); have n1_ := Aside0.mk (Kd.R_after (ok := (fun k_ => (w.heap.size ≤ k_))) z9_ hg hat); have n2_ := Aside0.mk (hb); have n3_ := Aside0.mk (ho); clear HO_3; clear HO146; clear HB; clear HO_5; have HO_3 := n0_; have HO146 := n1_; have HB := n2_; have HO152 := n3_; clear n0_ n1_ n2_ n3_; clear ho hb hg hat))
           go_roundg k2
           case measure => have := HJ1.out; have := HK2.out; omega
           case rel => exact ⟨(y144), (y150), (wrap64 (x6_2 - 1)), z15_, H', ⟨z20_⟩, ⟨by (with_reducible repeat (first | apply Kd.V_alloc | apply Kd.V_drewN | apply Kd.V_drew)); exact Kd.V_mono HO_3.out (fun _ hk => ⟨hk.1.1, ⟨hk.1.2, hk.2⟩⟩)⟩, ⟨z9_⟩, ⟨by (with_reducible repeat (first | apply Kd.R_alloc | apply Kd.R_drewN | apply Kd.R_drew)); exact HO152.out⟩, ⟨z3_⟩⟩
          ·rw [if_neg c19] at H
           exact absurd H (by simp)
        ·rw [if_neg c14] at H
         exact absurd H (by simp)
       ·rw [if_neg c13] at H
        exact absurd H (by simp)
      ·rw [if_neg c12] at H
       exact absurd H (by simp)
     ·rw [if_neg c11] at H
      have c11b0 : decide (0 ≤ x6_2) = false := decide_eq_false c11
      clear c11
      replace H := Option.bind_eq_some_iff.mp H
      obtain ⟨t153, A230, H⟩ := H
      replace H : ((pursuivantlaw10_awake.f k2).bind fun t156 => (if t156 = true then ((pursuivantref10_Unsafe.f k2 x3_1).bind fun t157 => ((pursuivantref04_Same.f k2 t153 t157).bind fun t160 => (if t160 = true then ((safe_Unsafe.f k2 x4_2).bind fun t161 => ((pursuivantref04_Same.f k2 t153 t161).bind fun t164 => (if t164 = true then ((safe_Unsafe.f k2 x5_2).bind fun t165 => ((pursuivantref04_Same.f k2 t153 t165).bind fun t168 => (some t168))) else (some false)))) else (some false)))) else (some false))) = some r := H
      have A23 := Aside0.mk A230
      clear A230
      replace H := Option.bind_eq_some_iff.mp H
      obtain ⟨t156, A240, H⟩ := H
      replace H : (if t156 = true then ((pursuivantref10_Unsafe.f k2 x3_1).bind fun t157 => ((pursuivantref04_Same.f k2 t153 t157).bind fun t160 => (if t160 = true then ((safe_Unsafe.f k2 x4_2).bind fun t161 => ((pursuivantref04_Same.f k2 t153 t161).bind fun t164 => (if t164 = true then ((safe_Unsafe.f k2 x5_2).bind fun t165 => ((pursuivantref04_Same.f k2 t153 t165).bind fun t168 => (some t168))) else (some false)))) else (some false)))) else (some false)) = some r := H
      have A24 := Aside0.mk A240
      clear A240
      by_cases c25 : t156 = true
      ·subst c25
       have H1 : ((pursuivantref10_Unsafe.f k2 x3_1).bind fun t157 => ((pursuivantref04_Same.f k2 t153 t157).bind fun t160 => (if t160 = true then ((safe_Unsafe.f k2 x4_2).bind fun t161 => ((pursuivantref04_Same.f k2 t153 t161).bind fun t164 => (if t164 = true then ((safe_Unsafe.f k2 x5_2).bind fun t165 => ((pursuivantref04_Same.f k2 t153 t165).bind fun t168 => (some t168))) else (some false)))) else (some false)))) = some r := by rw [if_pos rfl] at H; exact H
       clear H
       have H := H1
       clear H1
       replace H := Option.bind_eq_some_iff.mp H
       obtain ⟨t157, A260, H⟩ := H
       replace H : ((pursuivantref04_Same.f k2 t153 t157).bind fun t160 => (if t160 = true then ((safe_Unsafe.f k2 x4_2).bind fun t161 => ((pursuivantref04_Same.f k2 t153 t161).bind fun t164 => (if t164 = true then ((safe_Unsafe.f k2 x5_2).bind fun t165 => ((pursuivantref04_Same.f k2 t153 t165).bind fun t168 => (some t168))) else (some false)))) else (some false))) = some r := H
       have A26 := Aside0.mk A260
       clear A260
       replace H := Option.bind_eq_some_iff.mp H
       obtain ⟨t160, A270, H⟩ := H
       replace H : (if t160 = true then ((safe_Unsafe.f k2 x4_2).bind fun t161 => ((pursuivantref04_Same.f k2 t153 t161).bind fun t164 => (if t164 = true then ((safe_Unsafe.f k2 x5_2).bind fun t165 => ((pursuivantref04_Same.f k2 t153 t165).bind fun t168 => (some t168))) else (some false)))) else (some false)) = some r := H
       have A27 := Aside0.mk A270
       clear A270
       by_cases c28 : t160 = true
       ·subst c28
        have H1 : ((safe_Unsafe.f k2 x4_2).bind fun t161 => ((pursuivantref04_Same.f k2 t153 t161).bind fun t164 => (if t164 = true then ((safe_Unsafe.f k2 x5_2).bind fun t165 => ((pursuivantref04_Same.f k2 t153 t165).bind fun t168 => (some t168))) else (some false)))) = some r := by rw [if_pos rfl] at H; exact H
        clear H
        have H := H1
        clear H1
        replace H := Option.bind_eq_some_iff.mp H
        obtain ⟨t161, A290, H⟩ := H
        replace H : ((pursuivantref04_Same.f k2 t153 t161).bind fun t164 => (if t164 = true then ((safe_Unsafe.f k2 x5_2).bind fun t165 => ((pursuivantref04_Same.f k2 t153 t165).bind fun t168 => (some t168))) else (some false))) = some r := H
        have A29 := Aside0.mk A290
        clear A290
        replace H := Option.bind_eq_some_iff.mp H
        obtain ⟨t164, A300, H⟩ := H
        replace H : (if t164 = true then ((safe_Unsafe.f k2 x5_2).bind fun t165 => ((pursuivantref04_Same.f k2 t153 t165).bind fun t168 => (some t168))) else (some false)) = some r := H
        have A30 := Aside0.mk A300
        clear A300
        by_cases c31 : t164 = true
        ·subst c31
         have H1 : ((safe_Unsafe.f k2 x5_2).bind fun t165 => ((pursuivantref04_Same.f k2 t153 t165).bind fun t168 => (some t168))) = some r := by rw [if_pos rfl] at H; exact H
         clear H
         have H := H1
         clear H1
         replace H := Option.bind_eq_some_iff.mp H
         obtain ⟨t165, A320, H⟩ := H
         replace H : ((pursuivantref04_Same.f k2 t153 t165).bind fun t168 => (some t168)) = some r := H
         have A32 := Aside0.mk A320
         clear A320
         replace H := Option.bind_eq_some_iff.mp H
         obtain ⟨t168, A330, H⟩ := H
         replace H : (some t168) = some r := H
         have A33 := Aside0.mk A330
         clear A330
         obtain rfl := Option.some.inj H
         go_wp2_with (first | ((with_reducible refine gate_callee (f := 35) rfl ?_); refine goesL_ (some 44) rfl rfl Tryd.func35 (by kernel_rfl) rfl #[.slice Ao10 x3_1.length co10] rfl z2_ ?_; (with_reducible refine (safe_Unsafe.calls k2 _ _ x3_1 t153 _ ?gw20_ ?side1 ?side2 A23.out).mono ?_); (case gw20_ => first | exact hG_ | (refine GW.below hG_ ?_; first | (with_reducible exact HB.out) | (repeat (first | (with_reducible first | exact HB.out | apply below_alloc | apply pw_below_drewN | apply below_drew1 | apply below_drew | exact Below.refl _ _) | exact HB.out))) | (apply GW.drewN; exact hG_) | (apply GW.drew; exact hG_)); (case side1 => repeat (first | exact (Kd.V_reads' HO_3.out).2.2 | (with_reducible refine Kd.C_alloc ?_ _) | (with_reducible refine Kd.C_drewN ?_ _) | (with_reducible refine Kd.C_drew ?_))); (case side2 => exact (Kd.V_reads' HO_3.out).2.1); rintro e w34 ⟨v154, rfl, ho0, hb⟩; refine ⟨_, rfl, ?_⟩; have n0_ := Aside0.mk (Kd.V_below z12_ hb); have n1_ := Aside0.mk (Kd.R_below z14_ hb); have n2_ := Aside0.mk (Kd.R_below z13_ hb); have n3_ := Aside0.mk (Kd.V_lower (Kd.V_mono (ok' := fun k_ => (P0_ k_ ∨ w.heap.size ≤ k_) ∧ some k_ ≠ (u4 : Value).ownBlock ∧ some k_ ≠ (u5 : Value).ownBlock) ho0 (fun k_ hk_ => ⟨(.inr (Nat.le_trans (below_size z3_) hk_)), (Kd.fresh' (Kd.R_lt z14_) k_ hk_), (Kd.fresh' (Kd.R_lt z13_) k_ hk_)⟩)) (below_size z3_)); have n4_ := Aside0.mk (below_step z3_ hb); clear HO_3; clear HO_4; clear HO_5; clear HB; have HO_3 := n0_; have HO_4 := n1_; have HO_5 := n2_; have HO155 := n3_; have HB := n4_; clear n0_ n1_ n2_ n3_ n4_; (try clear hb); (try clear hb2); (try clear hk); (try clear hi); (try clear ho0)) | ((with_reducible refine gate_callee (f := 24) rfl ?_); refine goesL_ (some 45) rfl rfl Tryd.func24 (by kernel_rfl) rfl #[] rfl z2_ ?_; (with_reducible refine (pursuivantlaw10_awake.calls k2  true _ ?gw21_ A24.out (by first | rfl | assumption)).mono ?_); (case gw21_ => first | exact hG_ | (refine GW.below hG_ ?_; first | (with_reducible exact HB.out) | (repeat (first | (with_reducible first | exact HB.out | apply below_alloc | apply pw_below_drewN | apply below_drew1 | apply below_drew | exact Below.refl _ _) | exact HB.out))) | (apply GW.drewN; exact hG_) | (apply GW.drew; exact hG_)); rintro e w35 ⟨rfl, hb⟩; refine ⟨_, rfl, ?_⟩; have n0_ := Aside0.mk (Kd.V_below z12_ hb); have n1_ := Aside0.mk (Kd.R_below z14_ hb); have n2_ := Aside0.mk (Kd.R_below z13_ hb); have n3_ := Aside0.mk (Kd.V_below z10_ hb); have n4_ := Aside0.mk (below_step z3_ hb); clear HO_3; clear HO_4; clear HO_5; clear HO155; clear HB; have HO_3 := n0_; have HO_4 := n1_; have HO_5 := n2_; have HO155 := n3_; have HB := n4_; clear n0_ n1_ n2_ n3_ n4_; (try clear hb); (try clear hb2); (try clear hk); (try clear hi)) | (go_at_call 37; (fail_if_success (have z_ := U_16)); have U_16 := trivial; (with_reducible refine (pursuivantref10_Unsafe.calls k2 _ _ x3_1 t157 _ ?gw22_ ?side1 ?side2 A26.out).mono ?_); (case gw22_ => first | exact hG_ | (refine GW.below hG_ ?_; first | (with_reducible exact HB.out) | (repeat (first | (with_reducible first | exact HB.out | apply below_alloc | apply pw_below_drewN | apply below_drew1 | apply below_drew | exact Below.refl _ _) | exact HB.out))) | (apply GW.drewN; exact hG_) | (apply GW.drew; exact hG_)); (case side1 => repeat (first | exact (Kd.V_reads' HO_3.out).2.2 | (with_reducible refine Kd.C_alloc ?_ _) | (with_reducible refine Kd.C_drewN ?_ _) | (with_reducible refine Kd.C_drew ?_))); (case side2 => exact (Kd.V_reads' HO_3.out).2.1); rintro e w36 ⟨v158, rfl, ho0, hb⟩; have n0_ := Aside0.mk (Kd.V_below z12_ hb); have n1_ := Aside0.mk (Kd.R_below z14_ hb); have n2_ := Aside0.mk (Kd.R_below z13_ hb); have n3_ := Aside0.mk (Kd.V_below z10_ hb); have n4_ := Aside0.mk (Kd.V_lower (Kd.V_mono (ok' := fun k_ => (P0_ k_ ∨ w.heap.size ≤ k_) ∧ some k_ ≠ (u4 : Value).ownBlock ∧ some k_ ≠ (u5 : Value).ownBlock) ho0 (fun k_ hk_ => ⟨(.inr (Nat.le_trans (below_size z3_) hk_)), (Kd.fresh' (Kd.R_lt z14_) k_ hk_), (Kd.fresh' (Kd.R_lt z13_) k_ hk_)⟩)) (below_size z3_)); have n5_ := Aside0.mk (below_step z3_ hb); clear HO_3; clear HO_4; clear HO_5; clear HO155; clear HB; have HO_3 := n0_; have HO_4 := n1_; have HO_5 := n2_; have HO155 := n3_; have HO159 := n4_; have HB := n5_; clear n0_ n1_ n2_ n3_ n4_ n5_; (try clear hb); (try clear hb2); (try clear hk); (try clear hi); (try clear ho0); obtain ⟨Ao37, co37, eo37⟩ := Kd.V_slice HO155.out; subst eo37; obtain ⟨Ao38, co38, eo38⟩ := Kd.V_slice HO159.out; subst eo38) | (go_at_call 36; (fail_if_success (have z_ := U_17)); have U_17 := trivial; (with_reducible refine (pursuivantref04_Same.calls k2 _ _ t153 _ _ t157 true _ ?gw23_ ?side1 ?side2 ?side3 ?side4 A27.out).mono ?_); (case gw23_ => first | exact hG_ | (refine GW.below hG_ ?_; first | (with_reducible exact HB.out) | (repeat (first | (with_reducible first | exact HB.out | apply below_alloc | apply pw_below_drewN | apply below_drew1 | apply below_drew | exact Below.refl _ _) | exact HB.out))) | (apply GW.drewN; exact hG_) | (apply GW.drew; exact hG_)); (case side1 => repeat (first | exact (Kd.V_reads' HO155.out).2.2 | (with_reducible refine Kd.C_alloc ?_ _) | (with_reducible refine Kd.C_drewN ?_ _) | (with_reducible refine Kd.C_drew ?_))); (case side2 => exact (Kd.V_reads' HO155.out).2.1); (case side3 => repeat (first | exact (Kd.V_reads' HO159.out).2.2 | (with_reducible refine Kd.C_alloc ?_ _) | (with_reducible refine Kd.C_drewN ?_ _) | (with_reducible refine Kd.C_drew ?_))); (case side4 => exact (Kd.V_reads' HO159.out).2.1); rintro e w' ⟨rfl, ⟨nd, rfl⟩⟩; obtain ⟨Ao39, co39, eo39⟩ := Kd.R_slice HO_4.out; subst eo39) | (go_at_call 35; (fail_if_success (have z_ := U_18)); have U_18 := trivial; (with_reducible refine (safe_Unsafe.calls k2 _ _ x4_2 t161 _ ?gw24_ ?side1 ?side2 A29.out).mono ?_); (case gw24_ => first | exact hG_ | (refine GW.below hG_ ?_; first | (with_reducible exact HB.out) | (repeat (first | (with_reducible first | exact HB.out | apply below_alloc | apply pw_below_drewN | apply below_drew1 | apply below_drew | exact Below.refl _ _) | exact HB.out))) | (apply GW.drewN; exact hG_) | (apply GW.drew; exact hG_)); (case side1 => repeat (first | exact (Kd.R_reads' HO_4.out).2.2 | (with_reducible refine Kd.C_alloc ?_ _) | (with_reducible refine Kd.C_drewN ?_ _) | (with_reducible refine Kd.C_drew ?_))); (case side2 => exact (Kd.R_reads' HO_4.out).2.1); rintro e w40 ⟨v162, rfl, ho0, hb⟩; have n0_ := Aside0.mk (Kd.V_below z12_ hb); have n1_ := Aside0.mk (Kd.R_below z14_ hb); have n2_ := Aside0.mk (Kd.R_below z13_ hb); have n3_ := Aside0.mk (Kd.V_below z10_ hb); have n4_ := Aside0.mk (Kd.V_below (by (with_reducible repeat (first | apply Kd.V_alloc | apply Kd.V_drewN | apply Kd.V_drew)); exact HO159.out) hb); have n5_ := Aside0.mk (Kd.V_lower (Kd.V_mono (ok' := fun k_ => (P0_ k_ ∨ w.heap.size ≤ k_) ∧ some k_ ≠ (.slice Ao39 x4_2.length co39 : Value).ownBlock ∧ some k_ ≠ (u5 : Value).ownBlock) ho0 (fun k_ hk_ => ⟨(.inr (Nat.le_trans (below_size z3_) hk_)), (Kd.fresh' (Kd.R_lt z14_) k_ hk_), (Kd.fresh' (Kd.R_lt z13_) k_ hk_)⟩)) (below_size z3_)); have n6_ := Aside0.mk (below_step z3_ hb); clear HO_3; clear HO_4; clear HO_5; clear HO155; clear HO159; clear HB; have HO_3 := n0_; have HO_4 := n1_; have HO_5 := n2_; have HO155 := n3_; have HO159 := n4_; have HO163 := n5_; have HB := n6_; clear n0_ n1_ n2_ n3_ n4_ n5_ n6_; (try clear hb); (try clear hb2); (try clear hk); (try clear hi); (try clear ho0); obtain ⟨Ao41, co41, eo41⟩ := Kd.V_slice HO163.out; subst eo41) | (go_at_call 36; (fail_if_success (have z_ := U_19)); have U_19 := trivial; (with_reducible refine (pursuivantref04_Same.calls k2 _ _ t153 _ _ t161 true _ ?gw25_ ?side1 ?side2 ?side3 ?side4 A30.out).mono ?_); (case gw25_ => first | exact hG_ | (refine GW.below hG_ ?_; first | (with_reducible exact HB.out) | (repeat (first | (with_reducible first | exact HB.out | apply below_alloc | apply pw_below_drewN | apply below_drew1 | apply below_drew | exact Below.refl _ _) | exact HB.out))) | (apply GW.drewN; exact hG_) | (apply GW.drew; exact hG_)); (case side1 => repeat (first | exact (Kd.V_reads' HO155.out).2.2 | (with_reducible refine Kd.C_alloc ?_ _) | (with_reducible refine Kd.C_drewN ?_ _) | (with_reducible refine Kd.C_drew ?_))); (case side2 => exact (Kd.V_reads' HO155.out).2.1); (case side3 => repeat (first | exact (Kd.V_reads' HO163.out).2.2 | (with_reducible refine Kd.C_alloc ?_ _) | (with_reducible refine Kd.C_drewN ?_ _) | (with_reducible refine Kd.C_drew ?_))); (case side4 => exact (Kd.V_reads' HO163.out).2.1); rintro e w' ⟨rfl, ⟨nd, rfl⟩⟩; obtain ⟨Ao42, co42, eo42⟩ := Kd.R_slice HO_5.out; subst eo42) | (go_at_call 35; (fail_if_success (have z_ := U_20)); have U_20 := trivial; (with_reducible refine (safe_Unsafe.calls k2 _ _ x5_2 t165 _ ?gw26_ ?side1 ?side2 A32.out).mono ?_); (case gw26_ => first | exact hG_ | (refine GW.below hG_ ?_; first | (with_reducible exact HB.out) | (repeat (first | (with_reducible first | exact HB.out | apply below_alloc | apply pw_below_drewN | apply below_drew1 | apply below_drew | exact Below.refl _ _) | exact HB.out))) | (apply GW.drewN; exact hG_) | (apply GW.drew; exact hG_)); (case side1 => repeat (first | exact (Kd.R_reads' HO_5.out).2.2 | (with_reducible refine Kd.C_alloc ?_ _) | (with_reducible refine Kd.C_drewN ?_ _) | (with_reducible refine Kd.C_drew ?_))); (case side2 => exact (Kd.R_reads' HO_5.out).2.1); rintro e w43 ⟨v166, rfl, ho0, hb⟩; have n0_ := Aside0.mk (Kd.V_below z12_ hb); have n1_ := Aside0.mk (Kd.R_below z14_ hb); have n2_ := Aside0.mk (Kd.R_below z13_ hb); have n3_ := Aside0.mk (Kd.V_below z10_ hb); have n4_ := Aside0.mk (Kd.V_below (by (with_reducible repeat (first | apply Kd.V_alloc | apply Kd.V_drewN | apply Kd.V_drew)); exact HO159.out) hb); have n5_ := Aside0.mk (Kd.V_below (by (with_reducible repeat (first | apply Kd.V_alloc | apply Kd.V_drewN | apply Kd.V_drew)); exact HO163.out) hb); have n6_ := Aside0.mk (Kd.V_lower (Kd.V_mono (ok' := fun k_ => (P0_ k_ ∨ w.heap.size ≤ k_) ∧ some k_ ≠ (.slice Ao39 x4_2.length co39 : Value).ownBlock ∧ some k_ ≠ (.slice Ao42 x5_2.length co42 : Value).ownBlock) ho0 (fun k_ hk_ => ⟨(.inr (Nat.le_trans (below_size z3_) hk_)), (Kd.fresh' (Kd.R_lt z14_) k_ hk_), (Kd.fresh' (Kd.R_lt z13_) k_ hk_)⟩)) (below_size z3_)); have n7_ := Aside0.mk (below_step z3_ hb); clear HO_3; clear HO_4; clear HO_5; clear HO155; clear HO159; clear HO163; clear HB; have HO_3 := n0_; have HO_4 := n1_; have HO_5 := n2_; have HO155 := n3_; have HO159 := n4_; have HO163 := n5_; have HO167 := n6_; have HB := n7_; clear n0_ n1_ n2_ n3_ n4_ n5_ n6_ n7_; (try clear hb); (try clear hb2); (try clear hk); (try clear hi); (try clear ho0); obtain ⟨Ao44, co44, eo44⟩ := Kd.V_slice HO167.out; subst eo44) | (go_at_call 36; (fail_if_success (have z_ := U_21)); have U_21 := trivial; (with_reducible refine (pursuivantref04_Same.calls k2 _ _ t153 _ _ t165 t168 _ ?gw27_ ?side1 ?side2 ?side3 ?side4 A33.out).mono ?_); (case gw27_ => first | exact hG_ | (refine GW.below hG_ ?_; first | (with_reducible exact HB.out) | (repeat (first | (with_reducible first | exact HB.out | apply below_alloc | apply pw_below_drewN | apply below_drew1 | apply below_drew | exact Below.refl _ _) | exact HB.out))) | (apply GW.drewN; exact hG_) | (apply GW.drew; exact hG_)); (case side1 => repeat (first | exact (Kd.V_reads' HO155.out).2.2 | (with_reducible refine Kd.C_alloc ?_ _) | (with_reducible refine Kd.C_drewN ?_ _) | (with_reducible refine Kd.C_drew ?_))); (case side2 => exact (Kd.V_reads' HO155.out).2.1); (case side3 => repeat (first | exact (Kd.V_reads' HO167.out).2.2 | (with_reducible refine Kd.C_alloc ?_ _) | (with_reducible refine Kd.C_drewN ?_ _) | (with_reducible refine Kd.C_drew ?_))); (case side4 => exact (Kd.V_reads' HO167.out).2.1); rintro e w' ⟨rfl, ⟨nd, rfl⟩⟩))
         go_ret
         exact ⟨z4_, z3_⟩
        ·replace c31 := Bool.eq_false_iff.mpr c31
         subst c31
         have H1 : (some false) = some r := by rw [if_neg (show ¬ (false = true) by decide)] at H; exact H
         clear H
         have H := H1
         clear H1
         exact absurd ((Option.some.inj H).trans hr_) Bool.false_ne_true
       ·replace c28 := Bool.eq_false_iff.mpr c28
        subst c28
        have H1 : (some false) = some r := by rw [if_neg (show ¬ (false = true) by decide)] at H; exact H
        clear H
        have H := H1
        clear H1
        exact absurd ((Option.some.inj H).trans hr_) Bool.false_ne_true
      ·replace c25 := Bool.eq_false_iff.mpr c25
       subst c25
       have H1 : (some false) = some r := by rw [if_neg (show ¬ (false = true) by decide)] at H; exact H
       clear H
       have H := H1
       clear H1
       exact absurd ((Option.some.inj H).trans hr_) Bool.false_ne_true

end Go.Proofs.YtindkgcbglonhaaDoor.Hand
