/- url.authority: what its walk gives: the user, the host and the port are laid into the URL at hand. Condition: as in the functions that it calls. -/
import Derived.Test.YtindkgcbglonhaaDoorFA1
import Derived.Test.YtindkgcbglonhaaDoorHostP
import Derived.RegionTactic
import Derived.ChangeAlike
namespace Go.Proofs.YtindkgcbglonhaaDoor.Hand
open Go.RowKit Go.Proofs.YtindkgcbglonhaaDoorW.PrintWords Go.Proofs.YtindkgcbglonhaaDoorW.PrintLast Go.Proofs.YtindkgcbglonhaaDoorW.PrintMore
set_option linter.unusedVariables false
set_option linter.unusedSimpArgs false

structure UW (w0 W : World) (b g : Nat) (zs fs : List Value) : Prop where
 res : W.heap[b]? = some (.cells zs.toArray 39 (0, 0))
 own : W.heap[g]? = some (.cells fs.toArray 39 (0, 0))
 ne : b ≠ g
 ge : w0.heap.size ≤ b
 ge2 : w0.heap.size ≤ g
 bel : Below w0.heap.size w0 W
theorem UW.below {w0 W W' : World} {b g : Nat} {zs fs : List Value} (h : UW w0 W b g zs fs) (hb : Below W.heap.size W W') : UW w0 W' b g zs fs where
 res := (hb.block b (Array.getElem?_eq_some_iff.1 h.res).1).trans h.res
 own := (hb.block g (Array.getElem?_eq_some_iff.1 h.own).1).trans h.own
 ne := h.ne
 ge := h.ge
 ge2 := h.ge2
 bel := h.bel.trans (hb.mono h.bel.size)
theorem UW.set {w0 W : World} {b g : Nat} {zs fs : List Value} (h : UW w0 W b g zs fs) (i : Nat) (v : Value) : UW w0 (W.setCell ⟨g, i, none⟩ v) b g zs (fs.set i v) where
 res := (Below.heap_setCell W ⟨g, i, none⟩ v b h.ne).trans h.res
 own := by
  have := blk_set h.own i v
  simpa using this
 ne := h.ne
 ge := h.ge
 ge2 := h.ge2
 bel := h.bel.setCell (p := ⟨g, i, none⟩) h.ge2 v
theorem UW.cell {w0 W : World} {b g : Nat} {zs fs : List Value} (h : UW w0 W b g zs fs) (i : Nat) : W.cell? ⟨g, i, none⟩ = fs[i]? := by rw [blk_cell h.own]; simp
theorem UW.free {w0 W : World} {b g : Nat} {zs fs : List Value} (h : UW w0 W b g zs fs) (i : Nat) : W.frozen? ⟨g, i, none⟩ = false := blk_frozen h.own i
theorem UW.free' {w0 W : World} {b g : Nat} {zs fs : List Value} (h : UW w0 W b g zs fs) (i : Nat) : W.frozen? ⟨b, i, none⟩ = false := blk_frozen h.res i
theorem UW.blw {w0 W : World} {b g : Nat} {zs fs : List Value} (h : UW w0 W b g zs fs) : Below w0.heap.size w0 W := h.bel
def urlV (r1 r2 r3 : ByteArray) (r4 : Int) (r5 : ByteArray) (r6 : Bool) (r7 : ByteArray) (r8 : Bool) (r9 : ByteArray) : List Value := [.string r1, .string r2, .string r3, .int .i64 r4, .string r5, .bool r6, .string r7, .bool r8, .string r9]
def auth2 (sc us : ByteArray) (po : Int) (a : ByteArray) : Option (Bool × ByteArray × ByteArray × Int) :=
 (strings_Cut.f a ⟨#[58]⟩).bind fun c => (ascii_Lower.f c.1).bind fun h => if c.2.2 = true then
  (host_Port.f c.2.1).bind fun p => (host_Default.f sc).bind fun d => some (p.2, us, h, if p.1 = d then po else p.1) else some (true, us, h, po)
def url_authority.f (sc us ho : ByteArray) (po : Int) (a : ByteArray) : Option (Bool × ByteArray × ByteArray × Int) :=
 (strings_LastIndexByte.f a 64).bind fun n => if 0 ≤ n then (if n < (a.size : Int) then (if (a.extract 0 n.toNat).toList = [] then some (false, a.extract 0 n.toNat, ho, po)
  else auth2 sc (a.extract 0 n.toNat) po (a.extract (n.toNat + 1) a.size)) else none) else auth2 sc us po a
theorem lastIdx_size {a : ByteArray} {b n : Int} (h : strings_LastIndexByte.f a b = some n) : a.size < 4611686018427387904 := by
 unfold strings_LastIndexByte.f at h
 by_cases c : a.size < 4611686018427387904
 ·exact c
 ·rw [if_neg c] at h; cases h
set_option maxRecDepth 100000 in
set_option maxHeartbeats 8000000 in
theorem authority_calls (w0 : World) (b g : Nat) (zs : List Value) (sc us ho : ByteArray) (po : Int) (pa : ByteArray) (hq : Bool) (qu : ByteArray) (hf : Bool) (fr : ByteArray) (a : ByteArray) (r1 : Bool) (r2 r3 : ByteArray) (r4 : Int) (w : World) (hG : GW w0)
  (hU : UW w0 w b g zs (urlV sc us ho po pa hq qu hf fr)) (h : url_authority.f sc us ho po a = some (r1, r2, r3, r4)) :
  Calls Tryd.prog 81 #[.pointer (some ⟨g, 0, none⟩), .string a] w fun e w' => e = .returned (.bool r1) ∧ UW w0 w' b g zs (urlV sc r2 r3 r4 pa hq qu hf fr) := by
 have hu := Tryd.underlying39
 unfold url_authority.f at h
 cases hn : strings_LastIndexByte.f a 64 with
 | none => rw [hn] at h; cases h
 | some n =>
  rw [hn] at h
  simp only [Option.bind_some] at h
  have HU := Lib.hid hU
  have HN := Lib.hid (strings_LastIndexByte.calls a 64 n w (hG.below hU.bel) hn)
  have hsz := lastIdx_size hn
  clear hU hn
  go_enter Tryd.func81, Tryd.ntmps81
  go_wp2_with fail
  refine HN.out.mono ?_
  rintro e w1 ⟨rfl, hd1⟩
  replace HU := Lib.hid (HU.out.below hd1.below)
  clear hd1 HN
  by_cases h0 : 0 ≤ n
  ·rw [if_pos h0] at h
   by_cases h1 : n < (a.size : Int)
   ·rw [if_pos h1] at h
    obtain ⟨m, rfl⟩ : ∃ m : Nat, n = m := ⟨n.toNat, by omega⟩
    rw [Int.toNat_natCast] at h
    have k1 : w1.cell? ⟨g, 1, none⟩ = some (.string us) := HU.out.cell 1
    have f1 := HU.out.free 1
    have h2 : (m : Int) ≤ a.size := by omega
    have h3 : (m : Int) + 1 ≤ a.size := by omega
    have h4 : 0 ≤ (m : Int) + 1 := by omega
    have h5 : (a.size : Int) ≤ 9223372036854775807 := by omega
    have ow : IntKind.i64.wrap ((m : Int) + 1) = (m : Int) + 1 := by rw [i64_w]; unfold wrap64; omega
    have ot : ((m : Int) + 1).toNat = m + 1 := by omega
    go_wp2
    go_region
    have HU2 := Lib.hid ((HU.out.set 1 (.string (a.extract 0 m))).below (below_drew (Below.refl _ _)))
    clear HU k1 f1
    generalize (w1.setCell ⟨g, 1, none⟩ (.string (a.extract 0 m))).drew = w9 at *
    have k1 : w9.cell? ⟨g, 1, none⟩ = some (.string (a.extract 0 m)) := HU2.out.cell 1
    generalize a.extract 0 m = us2 at *
    generalize a.extract (m + 1) a.size = a2 at *
    have HU := HU2
    clear HU2
    by_cases he : us2.toList = []
    ·rw [if_pos he] at h
     have heb : (us2.toList == ([] : List UInt8)) = true := beq_iff_eq.mpr he
     have hei : us2.toList.isEmpty = true := by rw [he]; rfl
     simp only [Option.some.injEq, Prod.mk.injEq] at h
     obtain ⟨rfl, rfl, rfl, rfl⟩ := h
     go_wp2
     go_ret
     exact ⟨rfl, HU.out⟩
    ·rw [if_neg he] at h
     have heb : (us2.toList == ([] : List UInt8)) = false := beq_eq_false_iff_ne.mpr he
     have hei : us2.toList.isEmpty = false := by rw [← nil_beq]; exact heb
     clear he
     unfold auth2 at h
     cases hc : strings_Cut.f a2 ⟨#[58]⟩ with
     | none => rw [hc] at h; cases h
     | some c =>
      rw [hc] at h
      simp only [Option.bind_some] at h
      cases hl : ascii_Lower.f c.1 with
      | none => rw [hl] at h; cases h
      | some lo =>
       rw [hl] at h
       simp only [Option.bind_some] at h
       obtain ⟨c1, c2, c3⟩ := c
       simp only at h hl
       have HC := Lib.hid (strings_Cut.calls a2 ⟨#[58]⟩ c1 c2 c3 _ (hG.below HU.out.blw) hc)
       have HL := fun W hW => Lib.hid (ascii_Lower.calls c1 lo W hW hl)
       clear hc hl
       go_wp2_with fail
       refine HC.out.mono ?_
       rintro e w2 ⟨rfl, hd2⟩
       replace HU := Lib.hid (HU.out.below hd2.below)
       clear hd2 HC
       go_wp2_with fail
       refine (HL _ (hG.below HU.out.blw)).out.mono ?_
       rintro e w3 ⟨rfl, hb3⟩
       replace HU := Lib.hid (HU.out.below hb3)
       clear hb3 HL
       have f2 := HU.out.free 2
       have k2 : w3.cell? ⟨g, 2, none⟩ = some (.string ho) := HU.out.cell 2
       have HU3 := Lib.hid (HU.out.set 2 (.string lo))
       clear HU
       cases c3 with
       | false =>
        rw [if_neg (by simp)] at h
        simp only [Option.some.injEq, Prod.mk.injEq] at h
        obtain ⟨rfl, rfl, rfl, rfl⟩ := h
        go_wp2
        go_ret
        exact ⟨rfl, HU3.out⟩
       | true =>
        rw [if_pos rfl] at h
        cases hp : host_Port.f c2 with
        | none => rw [hp] at h; cases h
        | some pp =>
         rw [hp] at h
         simp only [Option.bind_some] at h
         cases hd : host_Default.f sc with
         | none => rw [hd] at h; cases h
         | some d =>
          rw [hd] at h
          simp only [Option.bind_some, Option.some.injEq, Prod.mk.injEq] at h
          obtain ⟨p1, p2⟩ := pp
          simp only at h
          obtain ⟨rfl, rfl, rfl, h4⟩ := h
          go_wp2_with fail
          refine (host_Port.calls c2 p1 _ _ (hG.below HU3.out.blw) hp).mono ?_
          rintro e w4 ⟨rfl, hb4⟩
          replace HU3 := Lib.hid (HU3.out.below hb4)
          clear hb4 f2 k2
          have k0 : w4.cell? ⟨g, 0, none⟩ = some (.string sc) := HU3.out.cell 0
          go_wp2_with fail
          refine (host_Default.calls sc d _ (hG.below HU3.out.blw) hd).mono ?_
          rintro e w5 ⟨rfl, hd5⟩
          replace HU3 := Lib.hid (HU3.out.below hd5.below)
          clear hd5 k0
          have k3 : w5.cell? ⟨g, 3, none⟩ = some (.int .i64 po) := HU3.out.cell 3
          have f3 := HU3.out.free 3
          by_cases cd : p1 = d
          ·have cdb : (p1 == d) = true := beq_iff_eq.mpr cd
           rw [if_pos cd] at h4
           subst h4
           clear cd
           go_wp2
           go_ret
           exact ⟨rfl, HU3.out⟩
          ·have cdb : (p1 == d) = false := beq_eq_false_iff_ne.mpr cd
           rw [if_neg cd] at h4
           subst h4
           clear cd
           have HU5 := Lib.hid (HU3.out.set 3 (.int .i64 p1))
           clear HU3
           go_wp2
           go_ret
           exact ⟨rfl, HU5.out⟩
   ·rw [if_neg h1] at h; cases h
  ·rw [if_neg h0] at h
   have h0b : decide (0 ≤ n) = false := decide_eq_false h0
   unfold auth2 at h
   cases hc : strings_Cut.f a ⟨#[58]⟩ with
   | none => rw [hc] at h; cases h
   | some c =>
    rw [hc] at h
    simp only [Option.bind_some] at h
    cases hl : ascii_Lower.f c.1 with
    | none => rw [hl] at h; cases h
    | some lo =>
     rw [hl] at h
     simp only [Option.bind_some] at h
     obtain ⟨c1, c2, c3⟩ := c
     simp only at h hl
     have HC := Lib.hid (strings_Cut.calls a ⟨#[58]⟩ c1 c2 c3 _ (hG.below HU.out.blw) hc)
     have HL := fun W hW => Lib.hid (ascii_Lower.calls c1 lo W hW hl)
     clear hc hl
     go_wp2_with fail
     refine HC.out.mono ?_
     rintro e w2 ⟨rfl, hd2⟩
     replace HU := Lib.hid (HU.out.below hd2.below)
     clear hd2 HC
     go_wp2_with fail
     refine (HL _ (hG.below HU.out.blw)).out.mono ?_
     rintro e w3 ⟨rfl, hb3⟩
     replace HU := Lib.hid (HU.out.below hb3)
     clear hb3 HL
     have f2 := HU.out.free 2
     have k2 : w3.cell? ⟨g, 2, none⟩ = some (.string ho) := HU.out.cell 2
     have HU3 := Lib.hid (HU.out.set 2 (.string lo))
     clear HU
     cases c3 with
     | false =>
      rw [if_neg (by simp)] at h
      simp only [Option.some.injEq, Prod.mk.injEq] at h
      obtain ⟨rfl, rfl, rfl, rfl⟩ := h
      go_wp2
      go_ret
      exact ⟨rfl, HU3.out⟩
     | true =>
      rw [if_pos rfl] at h
      cases hp : host_Port.f c2 with
      | none => rw [hp] at h; cases h
      | some pp =>
       rw [hp] at h
       simp only [Option.bind_some] at h
       cases hd : host_Default.f sc with
       | none => rw [hd] at h; cases h
       | some d =>
        rw [hd] at h
        simp only [Option.bind_some, Option.some.injEq, Prod.mk.injEq] at h
        obtain ⟨p1, p2⟩ := pp
        simp only at h
        obtain ⟨rfl, rfl, rfl, h4⟩ := h
        go_wp2_with fail
        refine (host_Port.calls c2 p1 _ _ (hG.below HU3.out.blw) hp).mono ?_
        rintro e w4 ⟨rfl, hb4⟩
        replace HU3 := Lib.hid (HU3.out.below hb4)
        clear hb4 f2 k2
        have k0 : w4.cell? ⟨g, 0, none⟩ = some (.string sc) := HU3.out.cell 0
        go_wp2_with fail
        refine (host_Default.calls sc d _ (hG.below HU3.out.blw) hd).mono ?_
        rintro e w5 ⟨rfl, hd5⟩
        replace HU3 := Lib.hid (HU3.out.below hd5.below)
        clear hd5 k0
        have k3 : w5.cell? ⟨g, 3, none⟩ = some (.int .i64 po) := HU3.out.cell 3
        have f3 := HU3.out.free 3
        by_cases cd : p1 = d
        ·have cdb : (p1 == d) = true := beq_iff_eq.mpr cd
         rw [if_pos cd] at h4
         subst h4
         clear cd
         go_wp2
         go_ret
         exact ⟨rfl, HU3.out⟩
        ·have cdb : (p1 == d) = false := beq_eq_false_iff_ne.mpr cd
         rw [if_neg cd] at h4
         subst h4
         clear cd
         have HU5 := Lib.hid (HU3.out.set 3 (.int .i64 p1))
         clear HU3
         go_wp2
         go_ret
         exact ⟨rfl, HU5.out⟩
end Go.Proofs.YtindkgcbglonhaaDoor.Hand
