/- url.Parse: what its walk gives. Condition: as in the functions that it calls. -/
import Derived.Test.YtindkgcbglonhaaDoorFU1
import Derived.Test.YtindkgcbglonhaaDoorAuth
namespace Go.Proofs.YtindkgcbglonhaaDoor.Hand
open Go.RowKit Go.Proofs.YtindkgcbglonhaaDoorW.PrintWords Go.Proofs.YtindkgcbglonhaaDoorW.PrintLast Go.Proofs.YtindkgcbglonhaaDoorW.PrintMore
set_option linter.unusedVariables false
set_option linter.unusedSimpArgs false

abbrev U9 := ByteArray × ByteArray × ByteArray × Int × ByteArray × Bool × ByteArray × Bool × ByteArray × Int
def noUrl (e : Int) : U9 := (⟨#[]⟩, ⟨#[]⟩, ⟨#[]⟩, 0, ⟨#[]⟩, false, ⟨#[]⟩, false, ⟨#[]⟩, e)
def url_Parse.tail (k : Nat) (sc au pa : ByteArray) (hq : Bool) (qu : ByteArray) (hf : Bool) (fr : ByteArray) : Option U9 :=
 (url_authority.f sc ⟨#[]⟩ ⟨#[]⟩ 0 au).bind fun r => if r.1 = true then
  (url_Good.f k sc r.2.1 r.2.2.1 r.2.2.2 pa hq qu hf fr).bind fun g => if g = true then some (sc, r.2.1, r.2.2.1, r.2.2.2, pa, hq, qu, hf, fr, 0) else some (noUrl 3) else some (noUrl 3)
def url_Parse.f (k : Nat) (a0 : ByteArray) : Option U9 :=
 if (a0.size : Int) > 1161 then some (noUrl 2) else
 (strings_Cut.f a0 ⟨#[58, 47, 47]⟩).bind fun c1 => (ascii_Lower.f c1.1).bind fun sc => if c1.2.2 = true then
  (host_Default.f sc).bind fun d => if d = 0 then some (noUrl 3) else
   (strings_Cut.f c1.2.1 ⟨#[35]⟩).bind fun c2 => (strings_Cut.f c2.1 ⟨#[63]⟩).bind fun c3 => (strings_IndexByte.f c3.1 47).bind fun n =>
    if n < 0 then url_Parse.tail k sc c3.1 ⟨#[47]⟩ c3.2.2 c3.2.1 c2.2.2 c2.2.1
    else if n ≤ (c3.1.size : Int) then url_Parse.tail k sc (c3.1.extract 0 n.toNat) (c3.1.extract n.toNat c3.1.size) c3.2.2 c3.2.1 c2.2.2 c2.2.1 else none
 else some (noUrl 3)
def zeroV : List Value := urlV ⟨#[]⟩ ⟨#[]⟩ ⟨#[]⟩ 0 ⟨#[]⟩ false ⟨#[]⟩ false ⟨#[]⟩
def zeroObj : Obj := .cells #[.string ⟨#[]⟩, .string ⟨#[]⟩, .string ⟨#[]⟩, .int .i64 0, .string ⟨#[]⟩, .bool false, .string ⟨#[]⟩, .bool false, .string ⟨#[]⟩] 39
theorem UW_start (w : World) : UW w ((w.alloc zeroObj).alloc zeroObj) w.heap.size (w.heap.size + 1) zeroV zeroV where
 res := (Below.heap_alloc _ _ _ (by simp)).trans (heap_alloc_new w zeroObj)
 own := by have := heap_alloc_new (w.alloc zeroObj) zeroObj; rwa [World.size_alloc] at this
 ne := by omega
 ge := Nat.le_refl _
 ge2 := Nat.le_succ _
 bel := below_alloc (below_alloc (Below.refl _ _) _) _
theorem urlCells' {W : World} {gb : Nat} {a0 a1 a2 : ByteArray} {a3 : Int} {a4 : ByteArray} {a5 : Bool} {a6 : ByteArray} {a7 : Bool} {a8 : ByteArray} (h : W.heap[gb]? = some (.cells (urlV a0 a1 a2 a3 a4 a5 a6 a7 a8).toArray 39 (0, 0))) :
  W.cell? ⟨gb, 0, none⟩ = some (.string a0) ∧ W.cell? ⟨gb, 1, none⟩ = some (.string a1) ∧ W.cell? ⟨gb, 2, none⟩ = some (.string a2) ∧ W.cell? ⟨gb, 3, none⟩ = some (.int .i64 a3) ∧ W.cell? ⟨gb, 4, none⟩ = some (.string a4) ∧ W.cell? ⟨gb, 5, none⟩ = some (.bool a5) ∧ W.cell? ⟨gb, 6, none⟩ = some (.string a6) ∧ W.cell? ⟨gb, 7, none⟩ = some (.bool a7) ∧ W.cell? ⟨gb, 8, none⟩ = some (.string a8) :=
 ⟨(blk_cell h 0).trans rfl, (blk_cell h 1).trans rfl, (blk_cell h 2).trans rfl, (blk_cell h 3).trans rfl, (blk_cell h 4).trans rfl, (blk_cell h 5).trans rfl, (blk_cell h 6).trans rfl, (blk_cell h 7).trans rfl, (blk_cell h 8).trans rfl⟩
def urlPut (W : World) (b : Nat) (a0 a1 a2 : ByteArray) (a3 : Int) (a4 : ByteArray) (a5 : Bool) (a6 : ByteArray) (a7 : Bool) (a8 : ByteArray) : World :=
 ((((((((W.setCell ⟨b, 0, none⟩ (.string a0)).setCell ⟨b, 1, none⟩ (.string a1)).setCell ⟨b, 2, none⟩ (.string a2)).setCell ⟨b, 3, none⟩ (.int .i64 a3)).setCell ⟨b, 4, none⟩ (.string a4)).setCell ⟨b, 5, none⟩ (.bool a5)).setCell ⟨b, 6, none⟩ (.string a6)).setCell ⟨b, 7, none⟩ (.bool a7)).setCell ⟨b, 8, none⟩ (.string a8)
theorem urlPut_heap {W : World} {b : Nat} (a0 a1 a2 : ByteArray) (a3 : Int) (a4 : ByteArray) (a5 : Bool) (a6 : ByteArray) (a7 : Bool) (a8 : ByteArray) (h : W.heap[b]? = some (.cells zeroV.toArray 39 (0, 0))) :
  (urlPut W b a0 a1 a2 a3 a4 a5 a6 a7 a8).heap[b]? = some (.cells (urlV a0 a1 a2 a3 a4 a5 a6 a7 a8).toArray 39 (0, 0)) := by
 have h1 := blk_set h 0 (.string a0)
 simp only [zeroV, urlV, List.setIfInBounds_toArray, List.set_cons_zero, List.set_cons_succ] at h1
 have h2 := blk_set h1 1 (.string a1)
 simp only [zeroV, urlV, List.setIfInBounds_toArray, List.set_cons_zero, List.set_cons_succ] at h2
 have h3 := blk_set h2 2 (.string a2)
 simp only [zeroV, urlV, List.setIfInBounds_toArray, List.set_cons_zero, List.set_cons_succ] at h3
 have h4 := blk_set h3 3 (.int .i64 a3)
 simp only [zeroV, urlV, List.setIfInBounds_toArray, List.set_cons_zero, List.set_cons_succ] at h4
 have h5 := blk_set h4 4 (.string a4)
 simp only [zeroV, urlV, List.setIfInBounds_toArray, List.set_cons_zero, List.set_cons_succ] at h5
 have h6 := blk_set h5 5 (.bool a5)
 simp only [zeroV, urlV, List.setIfInBounds_toArray, List.set_cons_zero, List.set_cons_succ] at h6
 have h7 := blk_set h6 6 (.string a6)
 simp only [zeroV, urlV, List.setIfInBounds_toArray, List.set_cons_zero, List.set_cons_succ] at h7
 have h8 := blk_set h7 7 (.bool a7)
 simp only [zeroV, urlV, List.setIfInBounds_toArray, List.set_cons_zero, List.set_cons_succ] at h8
 have h9 := blk_set h8 8 (.string a8)
 simp only [zeroV, urlV, List.setIfInBounds_toArray, List.set_cons_zero, List.set_cons_succ] at h9
 exact h9
theorem urlPut_below {w0 W : World} {b : Nat} (a0 a1 a2 : ByteArray) (a3 : Int) (a4 : ByteArray) (a5 : Bool) (a6 : ByteArray) (a7 : Bool) (a8 : ByteArray) (h : Below w0.heap.size w0 W) (hb : w0.heap.size ≤ b) : Below w0.heap.size w0 (urlPut W b a0 a1 a2 a3 a4 a5 a6 a7 a8) := by
 exact (((((((((h.setCell (p := ⟨b, 0, none⟩) hb _).setCell (p := ⟨b, 1, none⟩) hb _).setCell (p := ⟨b, 2, none⟩) hb _).setCell (p := ⟨b, 3, none⟩) hb _).setCell (p := ⟨b, 4, none⟩) hb _).setCell (p := ⟨b, 5, none⟩) hb _).setCell (p := ⟨b, 6, none⟩) hb _).setCell (p := ⟨b, 7, none⟩) hb _).setCell (p := ⟨b, 8, none⟩) hb _)
set_option maxRecDepth 100000 in
set_option maxHeartbeats 8000000 in
theorem url_Parse.calls (k : Nat) (a0 : ByteArray) (r1 : ByteArray) (r2 : ByteArray) (r3 : ByteArray) (r4 : Int) (r5 : ByteArray) (r6 : Bool) (r7 : ByteArray) (r8 : Bool) (r9 : ByteArray) (r10 : Int) (w : World) (hG_ : GW w) (h : url_Parse.f k a0 = some (r1, r2, r3, r4, r5, r6, r7, r8, r9, r10)) :
  Calls Tryd.prog 38 #[.string a0] w fun e w' => e = .returned (.tuple #[.agg #[.string r1, .string r2, .string r3, .int .i64 r4, .string r5, .bool r6, .string r7, .bool r8, .string r9], .int .i64 r10]) ∧ Below w.heap.size w w' := by
 have hu := Tryd.underlying39
 unfold url_Parse.f at h
 by_cases hs : (a0.size : Int) > 1161
 ·rw [if_pos hs] at h
  have hsb : decide ((a0.size : Int) > 1161) = true := decide_eq_true hs
  simp only [noUrl, Option.some.injEq, Prod.mk.injEq] at h
  obtain ⟨rfl, rfl, rfl, rfl, rfl, rfl, rfl, rfl, rfl, rfl⟩ := h
  go_enter Tryd.func38, Tryd.ntmps38
  go_wp2
  exact bodyPost_ret (v := .tuple #[.agg zeroV.toArray, .int .i64 2]) (by simp [results, Tryd.f38, go_sem, zeroV, urlV]) rfl ⟨rfl, below_alloc (Below.refl _ _) _⟩
 ·rw [if_neg hs] at h
  have hsb : decide ((a0.size : Int) > 1161) = false := decide_eq_false hs
  cases h1 : strings_Cut.f a0 ⟨#[58, 47, 47]⟩ with
  | none => rw [h1] at h; cases h
  | some c1 =>
   rw [h1] at h
   simp only [Option.bind_some] at h
   obtain ⟨c11, c12, c13⟩ := c1
   cases h2 : ascii_Lower.f c11 with
   | none => simp only [h2] at h; cases h
   | some sc =>
    simp only [h2, Option.bind_some] at h
    have HC1 := fun W hW => Lib.hid (strings_Cut.calls a0 ⟨#[58, 47, 47]⟩ c11 c12 c13 W hW h1)
    have HL := fun W hW => Lib.hid (ascii_Lower.calls c11 sc W hW h2)
    have H := Lib.hid h
    clear h h1 h2
    go_enter Tryd.func38, Tryd.ntmps38
    go_wp2_with fail
    have HU := Lib.hid (UW_start w)
    unfold zeroObj at HU
    generalize (w.alloc (.cells #[.string ⟨#[]⟩, .string ⟨#[]⟩, .string ⟨#[]⟩, .int .i64 0, .string ⟨#[]⟩, .bool false, .string ⟨#[]⟩, .bool false, .string ⟨#[]⟩] 39)).alloc (.cells #[.string ⟨#[]⟩, .string ⟨#[]⟩, .string ⟨#[]⟩, .int .i64 0, .string ⟨#[]⟩, .bool false, .string ⟨#[]⟩, .bool false, .string ⟨#[]⟩] 39) = w1 at *
    obtain ⟨b, hb⟩ : ∃ x, w.heap.size = x := ⟨_, rfl⟩
    obtain ⟨g, hg⟩ : ∃ x, b + 1 = x := ⟨_, rfl⟩
    rw [hb, hg] at HU
    rw [hb, hg]
    clear hb hg
    refine (HC1 _ (hG_.below HU.out.bel)).out.mono ?_
    rintro e w2 ⟨rfl, hd2⟩
    replace HU := Lib.hid (HU.out.below hd2.below)
    clear hd2 HC1
    go_wp2_with fail
    refine (HL _ (hG_.below HU.out.bel)).out.mono ?_
    rintro e w3 ⟨rfl, hb3⟩
    replace HU := Lib.hid (HU.out.below hb3)
    clear hb3 HL
    have f0 := HU.out.free 0
    have k0 : w3.cell? ⟨g, 0, none⟩ = some (.string ⟨#[]⟩) := HU.out.cell 0
    have HU1 := Lib.hid (HU.out.set 0 (.string sc))
    cases c13 with
    | false =>
     have h := H.out
     rw [if_neg (by simp)] at h
     simp only [noUrl, Option.some.injEq, Prod.mk.injEq] at h
     obtain ⟨rfl, rfl, rfl, rfl, rfl, rfl, rfl, rfl, rfl, rfl⟩ := h
     go_upto_region 7 with (fail)
     clear f0 k0 HU H
     generalize w3.setCell ⟨g, 0, none⟩ (.string sc) = w4 at *
     obtain ⟨p0, p1, p2, p3, p4, p5, p6, p7, p8⟩ := urlCells' HU1.out.res
     have q_ := fun i => HU1.out.free' i
     have q0 := q_ 0
     have q1 := q_ 1
     have q2 := q_ 2
     have q3 := q_ 3
     have q4 := q_ 4
     have q5 := q_ 5
     have q6 := q_ 6
     have q7 := q_ 7
     have q8 := q_ 8
     clear q_
     go_wp2
     have hp := urlPut_heap ⟨#[]⟩ ⟨#[]⟩ ⟨#[]⟩ 0 ⟨#[]⟩ false ⟨#[]⟩ false ⟨#[]⟩ HU1.out.res
     have hq := urlPut_below ⟨#[]⟩ ⟨#[]⟩ ⟨#[]⟩ 0 ⟨#[]⟩ false ⟨#[]⟩ false ⟨#[]⟩ HU1.out.bel HU1.out.ge
     change bodyPost _ _ _ _ _ (urlPut w4 b ⟨#[]⟩ ⟨#[]⟩ ⟨#[]⟩ 0 ⟨#[]⟩ false ⟨#[]⟩ false ⟨#[]⟩)
     clear p0 p1 p2 p3 p4 p5 p6 p7 p8 q0 q1 q2 q3 q4 q5 q6 q7 q8
     generalize urlPut w4 b ⟨#[]⟩ ⟨#[]⟩ ⟨#[]⟩ 0 ⟨#[]⟩ false ⟨#[]⟩ false ⟨#[]⟩ = w99 at *
     obtain ⟨p0, p1, p2, p3, p4, p5, p6, p7, p8⟩ := urlCells' hp
     exact bodyPost_ret (v := .tuple #[.agg (urlV ⟨#[]⟩ ⟨#[]⟩ ⟨#[]⟩ 0 ⟨#[]⟩ false ⟨#[]⟩ false ⟨#[]⟩).toArray, .int .i64 3]) (by simp [results, Tryd.f38, go_sem, urlV, p0, p1, p2, p3, p4, p5, p6, p7, p8]) rfl ⟨rfl, hq⟩
    | true =>
     have h := H.out
     clear H
     rw [if_pos rfl] at h
     cases hd : host_Default.f sc with
     | none => rw [hd] at h; cases h
     | some d =>
      rw [hd, Option.bind_some] at h
      have HD := fun W hW => Lib.hid (host_Default.calls sc d W hW hd)
      have H := Lib.hid h
      clear h hd
      clear HU
      have HU := Lib.hid HU1.out
      go_upto_region 6 with (fail)
      clear HU1 f0 k0
      generalize w3.setCell ⟨g, 0, none⟩ (.string sc) = w4 at *
      have k0 : w4.cell? ⟨g, 0, none⟩ = some (.string sc) := HU.out.cell 0
      by_cases c : d = 0
      ·have h := H.out
       rw [if_pos c] at h
       simp only [noUrl, Option.some.injEq, Prod.mk.injEq] at h
       obtain ⟨rfl, rfl, rfl, rfl, rfl, rfl, rfl, rfl, rfl, rfl⟩ := h
       have cb : (d == 0) = true := beq_iff_eq.mpr c
       clear c H
       go_wp2_with fail
       refine (HD _ (hG_.below HU.out.bel)).out.mono ?_
       rintro e w5 ⟨rfl, hd5⟩
       replace HU := Lib.hid (HU.out.below hd5.below)
       clear hd5 HD k0
       obtain ⟨p0, p1, p2, p3, p4, p5, p6, p7, p8⟩ := urlCells' HU.out.res
       have q_ := fun i => HU.out.free' i
       have q0 := q_ 0
       have q1 := q_ 1
       have q2 := q_ 2
       have q3 := q_ 3
       have q4 := q_ 4
       have q5 := q_ 5
       have q6 := q_ 6
       have q7 := q_ 7
       have q8 := q_ 8
       clear q_
       go_wp2
       have hp := urlPut_heap ⟨#[]⟩ ⟨#[]⟩ ⟨#[]⟩ 0 ⟨#[]⟩ false ⟨#[]⟩ false ⟨#[]⟩ HU.out.res
       have hq := urlPut_below ⟨#[]⟩ ⟨#[]⟩ ⟨#[]⟩ 0 ⟨#[]⟩ false ⟨#[]⟩ false ⟨#[]⟩ HU.out.bel HU.out.ge
       change bodyPost _ _ _ _ _ (urlPut w5 b ⟨#[]⟩ ⟨#[]⟩ ⟨#[]⟩ 0 ⟨#[]⟩ false ⟨#[]⟩ false ⟨#[]⟩)
       clear p0 p1 p2 p3 p4 p5 p6 p7 p8 q0 q1 q2 q3 q4 q5 q6 q7 q8
       generalize urlPut w5 b ⟨#[]⟩ ⟨#[]⟩ ⟨#[]⟩ 0 ⟨#[]⟩ false ⟨#[]⟩ false ⟨#[]⟩ = w99 at *
       obtain ⟨p0, p1, p2, p3, p4, p5, p6, p7, p8⟩ := urlCells' hp
       exact bodyPost_ret (v := .tuple #[.agg (urlV ⟨#[]⟩ ⟨#[]⟩ ⟨#[]⟩ 0 ⟨#[]⟩ false ⟨#[]⟩ false ⟨#[]⟩).toArray, .int .i64 3]) (by simp [results, Tryd.f38, go_sem, urlV, p0, p1, p2, p3, p4, p5, p6, p7, p8]) rfl ⟨rfl, hq⟩
      ·have h := H.out
       rw [if_neg c] at h
       have cb : (d == 0) = false := beq_eq_false_iff_ne.mpr c
       clear c H
       cases h1 : strings_Cut.f c12 ⟨#[35]⟩ with
       | none => rw [h1] at h; cases h
       | some c2 =>
        rw [h1, Option.bind_some] at h
        obtain ⟨c21, c22, c23⟩ := c2
        simp only at h
        cases h2 : strings_Cut.f c21 ⟨#[63]⟩ with
        | none => rw [h2] at h; cases h
        | some c3 =>
         rw [h2, Option.bind_some] at h
         obtain ⟨c31, c32, c33⟩ := c3
         simp only at h
         cases h3 : strings_IndexByte.f c31 47 with
         | none => rw [h3] at h; cases h
         | some n =>
          rw [h3, Option.bind_some] at h
          have HC2 := fun W hW => Lib.hid (strings_Cut.calls c12 ⟨#[35]⟩ c21 c22 c23 W hW h1)
          have HC3 := fun W hW => Lib.hid (strings_Cut.calls c21 ⟨#[63]⟩ c31 c32 c33 W hW h2)
          have HI := fun W hW => Lib.hid (strings_IndexByte.calls c31 47 n W hW h3)
          have H := Lib.hid h
          clear h h1 h2 h3
          go_wp2_with fail
          refine (HD _ (hG_.below HU.out.bel)).out.mono ?_
          rintro e w5 ⟨rfl, hd5⟩
          replace HU := Lib.hid (HU.out.below hd5.below)
          clear hd5 HD k0
          go_wp2_with fail
          refine (HC2 _ (hG_.below HU.out.bel)).out.mono ?_
          rintro e w6 ⟨rfl, hd6⟩
          replace HU := Lib.hid (HU.out.below hd6.below)
          clear hd6 HC2
          have k8 : w6.cell? ⟨g, 8, none⟩ = some (.string ⟨#[]⟩) := HU.out.cell 8
          have f8 := HU.out.free 8
          have k7 : w6.cell? ⟨g, 7, none⟩ = some (.bool false) := HU.out.cell 7
          have f7 := HU.out.free 7
          replace HU := Lib.hid ((HU.out.set 8 (.string c22)).set 7 (.bool c23))
          go_wp2_with fail
          clear k8 f8 k7 f7
          generalize ((w6.setCell ⟨g, 8, none⟩ (.string c22)).setCell ⟨g, 7, none⟩ (.bool c23)) = w7 at *
          refine (HC3 _ (hG_.below HU.out.bel)).out.mono ?_
          rintro e w8 ⟨rfl, hd8⟩
          replace HU := Lib.hid (HU.out.below hd8.below)
          clear hd8 HC3
          have k6 : w8.cell? ⟨g, 6, none⟩ = some (.string ⟨#[]⟩) := HU.out.cell 6
          have f6 := HU.out.free 6
          have k5 : w8.cell? ⟨g, 5, none⟩ = some (.bool false) := HU.out.cell 5
          have f5 := HU.out.free 5
          replace HU := Lib.hid ((HU.out.set 6 (.string c32)).set 5 (.bool c33))
          go_wp2_with fail
          clear k6 f6 k5 f5
          generalize ((w8.setCell ⟨g, 6, none⟩ (.string c32)).setCell ⟨g, 5, none⟩ (.bool c33)) = w9 at *
          refine (HI _ (hG_.below HU.out.bel)).out.mono ?_
          rintro e w10 ⟨rfl, hd10⟩
          replace HU := Lib.hid (HU.out.below hd10.below)
          clear hd10 HI
          have k4 : w10.cell? ⟨g, 4, none⟩ = some (.string ⟨#[]⟩) := HU.out.cell 4
          have f4 := HU.out.free 4
          by_cases cn : n < 0
          ·have h := H.out
           rw [if_pos cn] at h
           have cnb : decide (n < 0) = true := decide_eq_true cn
           clear cn H
           have H := Lib.hid h
           clear h
           replace HU := Lib.hid (HU.out.set 4 (.string ⟨#[47]⟩))
           go_wp2_with fail
           clear k4 f4 cnb
           obtain ⟨pa, hpa⟩ : ∃ x : ByteArray, (⟨#[47]⟩ : ByteArray) = x := ⟨_, rfl⟩
           rw [hpa] at H HU ⊢
           clear hpa
           generalize w10.setCell ⟨g, 4, none⟩ (.string pa) = w11 at *
           replace HU : Hid (UW w w11 b g zeroV (urlV sc ⟨#[]⟩ ⟨#[]⟩ 0 pa c33 c32 c23 c22)) := HU
           generalize c31 = au at *
           have h := H.out
           clear H
           unfold url_Parse.tail at h
           cases ha : url_authority.f sc ⟨#[]⟩ ⟨#[]⟩ 0 au with
           | none => rw [ha] at h; cases h
           | some ar =>
            rw [ha, Option.bind_some] at h
            obtain ⟨ok, us, ho, po⟩ := ar
            simp only at h
            refine (authority_calls w b g zeroV sc ⟨#[]⟩ ⟨#[]⟩ 0 pa c33 c32 c23 c22 au ok us ho po _ hG_ HU.out ha).mono ?_
            rintro e w12 ⟨rfl, hu12⟩
            clear HU ha
            have HU := Lib.hid hu12
            clear hu12
            cases ok with
            | false =>
             rw [if_neg (by simp)] at h
             simp only [noUrl, Option.some.injEq, Prod.mk.injEq] at h
             obtain ⟨rfl, rfl, rfl, rfl, rfl, rfl, rfl, rfl, rfl, rfl⟩ := h
             obtain ⟨p0, p1, p2, p3, p4, p5, p6, p7, p8⟩ := urlCells' HU.out.res
             have q_ := fun i => HU.out.free' i
             have q0 := q_ 0
             have q1 := q_ 1
             have q2 := q_ 2
             have q3 := q_ 3
             have q4 := q_ 4
             have q5 := q_ 5
             have q6 := q_ 6
             have q7 := q_ 7
             have q8 := q_ 8
             clear q_
             go_wp2
             have hp := urlPut_heap ⟨#[]⟩ ⟨#[]⟩ ⟨#[]⟩ 0 ⟨#[]⟩ false ⟨#[]⟩ false ⟨#[]⟩ HU.out.res
             have hq := urlPut_below ⟨#[]⟩ ⟨#[]⟩ ⟨#[]⟩ 0 ⟨#[]⟩ false ⟨#[]⟩ false ⟨#[]⟩ HU.out.bel HU.out.ge
             change bodyPost _ _ _ _ _ (urlPut w12 b ⟨#[]⟩ ⟨#[]⟩ ⟨#[]⟩ 0 ⟨#[]⟩ false ⟨#[]⟩ false ⟨#[]⟩)
             clear p0 p1 p2 p3 p4 p5 p6 p7 p8 q0 q1 q2 q3 q4 q5 q6 q7 q8
             generalize urlPut w12 b ⟨#[]⟩ ⟨#[]⟩ ⟨#[]⟩ 0 ⟨#[]⟩ false ⟨#[]⟩ false ⟨#[]⟩ = w99 at *
             obtain ⟨p0, p1, p2, p3, p4, p5, p6, p7, p8⟩ := urlCells' hp
             exact bodyPost_ret (v := .tuple #[.agg (urlV ⟨#[]⟩ ⟨#[]⟩ ⟨#[]⟩ 0 ⟨#[]⟩ false ⟨#[]⟩ false ⟨#[]⟩).toArray, .int .i64 3]) (by simp [results, Tryd.f38, go_sem, urlV, p0, p1, p2, p3, p4, p5, p6, p7, p8]) rfl ⟨rfl, hq⟩
            | true =>
             rw [if_pos rfl] at h
             cases hgd : url_Good.f k sc us ho po pa c33 c32 c23 c22 with
             | none => rw [hgd] at h; cases h
             | some gd =>
              rw [hgd, Option.bind_some] at h
              obtain ⟨z0, z1, z2, z3, z4, z5, z6, z7, z8⟩ := urlCells' HU.out.own
              have HGD := Lib.hid (url_Good.calls k sc us ho po pa c33 c32 c23 c22 gd w12 (hG_.below HU.out.bel) hgd)
              clear hgd
              go_wp2_with fail
              refine HGD.out.mono ?_
              rintro e w13 ⟨rfl, hb13⟩
              replace HU := Lib.hid (HU.out.below hb13)
              clear hb13 HGD z0 z1 z2 z3 z4 z5 z6 z7 z8
              cases gd with
              | false =>
               rw [if_neg (by simp)] at h
               simp only [noUrl, Option.some.injEq, Prod.mk.injEq] at h
               obtain ⟨rfl, rfl, rfl, rfl, rfl, rfl, rfl, rfl, rfl, rfl⟩ := h
               obtain ⟨p0, p1, p2, p3, p4, p5, p6, p7, p8⟩ := urlCells' HU.out.res
               have q_ := fun i => HU.out.free' i
               have q0 := q_ 0
               have q1 := q_ 1
               have q2 := q_ 2
               have q3 := q_ 3
               have q4 := q_ 4
               have q5 := q_ 5
               have q6 := q_ 6
               have q7 := q_ 7
               have q8 := q_ 8
               clear q_
               go_wp2
               have hp := urlPut_heap ⟨#[]⟩ ⟨#[]⟩ ⟨#[]⟩ 0 ⟨#[]⟩ false ⟨#[]⟩ false ⟨#[]⟩ HU.out.res
               have hq := urlPut_below ⟨#[]⟩ ⟨#[]⟩ ⟨#[]⟩ 0 ⟨#[]⟩ false ⟨#[]⟩ false ⟨#[]⟩ HU.out.bel HU.out.ge
               change bodyPost _ _ _ _ _ (urlPut w13 b ⟨#[]⟩ ⟨#[]⟩ ⟨#[]⟩ 0 ⟨#[]⟩ false ⟨#[]⟩ false ⟨#[]⟩)
               clear p0 p1 p2 p3 p4 p5 p6 p7 p8 q0 q1 q2 q3 q4 q5 q6 q7 q8
               generalize urlPut w13 b ⟨#[]⟩ ⟨#[]⟩ ⟨#[]⟩ 0 ⟨#[]⟩ false ⟨#[]⟩ false ⟨#[]⟩ = w99 at *
               obtain ⟨p0, p1, p2, p3, p4, p5, p6, p7, p8⟩ := urlCells' hp
               exact bodyPost_ret (v := .tuple #[.agg (urlV ⟨#[]⟩ ⟨#[]⟩ ⟨#[]⟩ 0 ⟨#[]⟩ false ⟨#[]⟩ false ⟨#[]⟩).toArray, .int .i64 3]) (by simp [results, Tryd.f38, go_sem, urlV, p0, p1, p2, p3, p4, p5, p6, p7, p8]) rfl ⟨rfl, hq⟩
              | true =>
               rw [if_pos rfl] at h
               simp only [Option.some.injEq, Prod.mk.injEq] at h
               obtain ⟨rfl, rfl, rfl, rfl, rfl, rfl, rfl, rfl, rfl, rfl⟩ := h
               obtain ⟨z0, z1, z2, z3, z4, z5, z6, z7, z8⟩ := urlCells' HU.out.own
               obtain ⟨p0, p1, p2, p3, p4, p5, p6, p7, p8⟩ := urlCells' HU.out.res
               have q_ := fun i => HU.out.free' i
               have q0 := q_ 0
               have q1 := q_ 1
               have q2 := q_ 2
               have q3 := q_ 3
               have q4 := q_ 4
               have q5 := q_ 5
               have q6 := q_ 6
               have q7 := q_ 7
               have q8 := q_ 8
               clear q_
               go_wp2
               have hp := urlPut_heap sc us ho po pa c33 c32 c23 c22 HU.out.res
               have hq := urlPut_below sc us ho po pa c33 c32 c23 c22 HU.out.bel HU.out.ge
               change bodyPost _ _ _ _ _ (urlPut w13 b sc us ho po pa c33 c32 c23 c22)
               clear p0 p1 p2 p3 p4 p5 p6 p7 p8 q0 q1 q2 q3 q4 q5 q6 q7 q8
               generalize urlPut w13 b sc us ho po pa c33 c32 c23 c22 = w99 at *
               obtain ⟨p0, p1, p2, p3, p4, p5, p6, p7, p8⟩ := urlCells' hp
               exact bodyPost_ret (v := .tuple #[.agg (urlV sc us ho po pa c33 c32 c23 c22).toArray, .int .i64 0]) (by simp [results, Tryd.f38, go_sem, urlV, p0, p1, p2, p3, p4, p5, p6, p7, p8]) rfl ⟨rfl, hq⟩
          ·have h := H.out
           rw [if_neg cn] at h
           have cnb : decide (n < 0) = false := decide_eq_false cn
           by_cases cm : n ≤ (c31.size : Int)
           ·rw [if_pos cm] at h
            obtain ⟨m, rfl⟩ : ∃ m : Nat, n = m := ⟨n.toNat, by omega⟩
            rw [Int.toNat_natCast] at h
            clear cn H
            have H := Lib.hid h
            clear h
            replace HU := Lib.hid (HU.out.set 4 (.string (c31.extract m c31.size)))
            go_wp2_with fail
            clear k4 f4 cnb
            generalize c31.extract m c31.size = pa at *
            generalize c31.extract 0 m = au at *
            generalize w10.setCell ⟨g, 4, none⟩ (.string pa) = w11 at *
            replace HU : Hid (UW w w11 b g zeroV (urlV sc ⟨#[]⟩ ⟨#[]⟩ 0 pa c33 c32 c23 c22)) := HU
            have h := H.out
            clear H
            unfold url_Parse.tail at h
            cases ha : url_authority.f sc ⟨#[]⟩ ⟨#[]⟩ 0 au with
            | none => rw [ha] at h; cases h
            | some ar =>
             rw [ha, Option.bind_some] at h
             obtain ⟨ok, us, ho, po⟩ := ar
             simp only at h
             refine (authority_calls w b g zeroV sc ⟨#[]⟩ ⟨#[]⟩ 0 pa c33 c32 c23 c22 au ok us ho po _ hG_ HU.out ha).mono ?_
             rintro e w12 ⟨rfl, hu12⟩
             clear HU ha
             have HU := Lib.hid hu12
             clear hu12
             cases ok with
             | false =>
              rw [if_neg (by simp)] at h
              simp only [noUrl, Option.some.injEq, Prod.mk.injEq] at h
              obtain ⟨rfl, rfl, rfl, rfl, rfl, rfl, rfl, rfl, rfl, rfl⟩ := h
              obtain ⟨p0, p1, p2, p3, p4, p5, p6, p7, p8⟩ := urlCells' HU.out.res
              have q_ := fun i => HU.out.free' i
              have q0 := q_ 0
              have q1 := q_ 1
              have q2 := q_ 2
              have q3 := q_ 3
              have q4 := q_ 4
              have q5 := q_ 5
              have q6 := q_ 6
              have q7 := q_ 7
              have q8 := q_ 8
              clear q_
              go_wp2
              have hp := urlPut_heap ⟨#[]⟩ ⟨#[]⟩ ⟨#[]⟩ 0 ⟨#[]⟩ false ⟨#[]⟩ false ⟨#[]⟩ HU.out.res
              have hq := urlPut_below ⟨#[]⟩ ⟨#[]⟩ ⟨#[]⟩ 0 ⟨#[]⟩ false ⟨#[]⟩ false ⟨#[]⟩ HU.out.bel HU.out.ge
              change bodyPost _ _ _ _ _ (urlPut w12 b ⟨#[]⟩ ⟨#[]⟩ ⟨#[]⟩ 0 ⟨#[]⟩ false ⟨#[]⟩ false ⟨#[]⟩)
              clear p0 p1 p2 p3 p4 p5 p6 p7 p8 q0 q1 q2 q3 q4 q5 q6 q7 q8
              generalize urlPut w12 b ⟨#[]⟩ ⟨#[]⟩ ⟨#[]⟩ 0 ⟨#[]⟩ false ⟨#[]⟩ false ⟨#[]⟩ = w99 at *
              obtain ⟨p0, p1, p2, p3, p4, p5, p6, p7, p8⟩ := urlCells' hp
              exact bodyPost_ret (v := .tuple #[.agg (urlV ⟨#[]⟩ ⟨#[]⟩ ⟨#[]⟩ 0 ⟨#[]⟩ false ⟨#[]⟩ false ⟨#[]⟩).toArray, .int .i64 3]) (by simp [results, Tryd.f38, go_sem, urlV, p0, p1, p2, p3, p4, p5, p6, p7, p8]) rfl ⟨rfl, hq⟩
             | true =>
              rw [if_pos rfl] at h
              cases hgd : url_Good.f k sc us ho po pa c33 c32 c23 c22 with
              | none => rw [hgd] at h; cases h
              | some gd =>
               rw [hgd, Option.bind_some] at h
               obtain ⟨z0, z1, z2, z3, z4, z5, z6, z7, z8⟩ := urlCells' HU.out.own
               have HGD := Lib.hid (url_Good.calls k sc us ho po pa c33 c32 c23 c22 gd w12 (hG_.below HU.out.bel) hgd)
               clear hgd
               go_wp2_with fail
               refine HGD.out.mono ?_
               rintro e w13 ⟨rfl, hb13⟩
               replace HU := Lib.hid (HU.out.below hb13)
               clear hb13 HGD z0 z1 z2 z3 z4 z5 z6 z7 z8
               cases gd with
               | false =>
                rw [if_neg (by simp)] at h
                simp only [noUrl, Option.some.injEq, Prod.mk.injEq] at h
                obtain ⟨rfl, rfl, rfl, rfl, rfl, rfl, rfl, rfl, rfl, rfl⟩ := h
                obtain ⟨p0, p1, p2, p3, p4, p5, p6, p7, p8⟩ := urlCells' HU.out.res
                have q_ := fun i => HU.out.free' i
                have q0 := q_ 0
                have q1 := q_ 1
                have q2 := q_ 2
                have q3 := q_ 3
                have q4 := q_ 4
                have q5 := q_ 5
                have q6 := q_ 6
                have q7 := q_ 7
                have q8 := q_ 8
                clear q_
                go_wp2
                have hp := urlPut_heap ⟨#[]⟩ ⟨#[]⟩ ⟨#[]⟩ 0 ⟨#[]⟩ false ⟨#[]⟩ false ⟨#[]⟩ HU.out.res
                have hq := urlPut_below ⟨#[]⟩ ⟨#[]⟩ ⟨#[]⟩ 0 ⟨#[]⟩ false ⟨#[]⟩ false ⟨#[]⟩ HU.out.bel HU.out.ge
                change bodyPost _ _ _ _ _ (urlPut w13 b ⟨#[]⟩ ⟨#[]⟩ ⟨#[]⟩ 0 ⟨#[]⟩ false ⟨#[]⟩ false ⟨#[]⟩)
                clear p0 p1 p2 p3 p4 p5 p6 p7 p8 q0 q1 q2 q3 q4 q5 q6 q7 q8
                generalize urlPut w13 b ⟨#[]⟩ ⟨#[]⟩ ⟨#[]⟩ 0 ⟨#[]⟩ false ⟨#[]⟩ false ⟨#[]⟩ = w99 at *
                obtain ⟨p0, p1, p2, p3, p4, p5, p6, p7, p8⟩ := urlCells' hp
                exact bodyPost_ret (v := .tuple #[.agg (urlV ⟨#[]⟩ ⟨#[]⟩ ⟨#[]⟩ 0 ⟨#[]⟩ false ⟨#[]⟩ false ⟨#[]⟩).toArray, .int .i64 3]) (by simp [results, Tryd.f38, go_sem, urlV, p0, p1, p2, p3, p4, p5, p6, p7, p8]) rfl ⟨rfl, hq⟩
               | true =>
                rw [if_pos rfl] at h
                simp only [Option.some.injEq, Prod.mk.injEq] at h
                obtain ⟨rfl, rfl, rfl, rfl, rfl, rfl, rfl, rfl, rfl, rfl⟩ := h
                obtain ⟨z0, z1, z2, z3, z4, z5, z6, z7, z8⟩ := urlCells' HU.out.own
                obtain ⟨p0, p1, p2, p3, p4, p5, p6, p7, p8⟩ := urlCells' HU.out.res
                have q_ := fun i => HU.out.free' i
                have q0 := q_ 0
                have q1 := q_ 1
                have q2 := q_ 2
                have q3 := q_ 3
                have q4 := q_ 4
                have q5 := q_ 5
                have q6 := q_ 6
                have q7 := q_ 7
                have q8 := q_ 8
                clear q_
                go_wp2
                have hp := urlPut_heap sc us ho po pa c33 c32 c23 c22 HU.out.res
                have hq := urlPut_below sc us ho po pa c33 c32 c23 c22 HU.out.bel HU.out.ge
                change bodyPost _ _ _ _ _ (urlPut w13 b sc us ho po pa c33 c32 c23 c22)
                clear p0 p1 p2 p3 p4 p5 p6 p7 p8 q0 q1 q2 q3 q4 q5 q6 q7 q8
                generalize urlPut w13 b sc us ho po pa c33 c32 c23 c22 = w99 at *
                obtain ⟨p0, p1, p2, p3, p4, p5, p6, p7, p8⟩ := urlCells' hp
                exact bodyPost_ret (v := .tuple #[.agg (urlV sc us ho po pa c33 c32 c23 c22).toArray, .int .i64 0]) (by simp [results, Tryd.f38, go_sem, urlV, p0, p1, p2, p3, p4, p5, p6, p7, p8]) rfl ⟨rfl, hq⟩
           ·rw [if_neg cm] at h; cases h
end Go.Proofs.YtindkgcbglonhaaDoor.Hand
