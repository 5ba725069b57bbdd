/- source.own: what its walk gives. Condition: as in the functions that it calls. -/
import Derived.Test.YtfibkgmbgdaeoaaDoorOriginG
namespace Go.Proofs.YtfibkgmbgdaeoaaDoor.Hand
open Go.RowKit Go.Proofs.YtfibkgmbgdaeoaaDoorW.PrintWords Go.Proofs.YtfibkgmbgdaeoaaDoorW.PrintLast Go.Proofs.YtfibkgmbgdaeoaaDoorW.PrintMore
set_option linter.unusedVariables false
set_option linter.unusedSimpArgs false

def source_own.f (k : Nat) (u0 u1 u2 : ByteArray) (u3 : Int) (u4 : ByteArray) (u5 : Bool) (u6 : ByteArray) (u7 : Bool) (u8 s0 s1 : ByteArray) (s2 : Int) : Option Bool :=
 (origin_Of.f k u0 u1 u2 u3 u4 u5 u6 u7 u8).bind fun o => (origin_Same.f k o.1 o.2.1 o.2.2 s0 s1 s2).bind fun b =>
  some (b || decide (o.2.1 = s1 ∧ s0 = ⟨#[104, 116, 116, 112]⟩ ∧ u0 = ⟨#[104, 116, 116, 112, 115]⟩ ∧ s2 = 80 ∧ o.2.2 = 443))
theorem str_ne (x y : ByteArray) (h : x ≠ y) : (x.toList == y.toList) = false := beq_eq_false_iff_ne.mpr (fun e => h (toList_inj'.1 e))
theorem str_nec (x : ByteArray) (l : List UInt8) {y : ByteArray} (e : ba l = y) (h : x ≠ y) : (x.toList == l) = false := beq_eq_false_iff_ne.mpr (fun g => h (by rw [← e, ← g]; exact (toList_inj'.1 (ba_list _)).symm))
theorem default_http : host_Default.f ⟨#[104, 116, 116, 112]⟩ = some 80 := by decide +kernel
theorem default_https : host_Default.f ⟨#[104, 116, 116, 112, 115]⟩ = some 443 := by decide +kernel

set_option maxRecDepth 100000 in
set_option maxHeartbeats 4000000 in
theorem source_own.calls (k : Nat) (u0 u1 u2 : ByteArray) (u3 : Int) (u4 : ByteArray) (u5 : Bool) (u6 : ByteArray) (u7 : Bool) (u8 s0 s1 : ByteArray) (s2 : Int) (r : Bool) (w : World) (hG_ : GW w) (h : source_own.f k u0 u1 u2 u3 u4 u5 u6 u7 u8 s0 s1 s2 = some r) :
  Calls Tryd.prog 29 #[.agg #[.string u0, .string u1, .string u2, .int .i64 u3, .string u4, .bool u5, .string u6, .bool u7, .string u8], .agg #[.string s0, .string s1, .int .i64 s2]] w fun e w' => e = .returned (.bool r) ∧ Below w.heap.size w w' := by
 have hu := Tryd.underlying34
 have hv := Tryd.underlying31
 have bel0 := Lib.hid (below_alloc (below_alloc (Below.refl w.heap.size w) (.cells #[.string u0, .string u1, .string u2, .int .i64 u3, .string u4, .bool u5, .string u6, .bool u7, .string u8] 31)) (.cells #[.string s0, .string s1, .int .i64 s2] 34))
 unfold source_own.f at h
 cases hof : origin_Of.f k u0 u1 u2 u3 u4 u5 u6 u7 u8 with
 | none => rw [hof] at h; cases h
 | some o =>
  obtain ⟨o0, o1, o2⟩ := o
  rw [hof, Option.bind_some] at h
  simp only at h
  cases hsm : origin_Same.f k o0 o1 o2 s0 s1 s2 with
  | none => rw [hsm] at h; cases h
  | some b =>
   rw [hsm, Option.bind_some] at h
   have HO := fun W hW => Lib.hid (origin_Of.calls k u0 u1 u2 u3 u4 u5 u6 u7 u8 o0 o1 o2 W hW hof)
   have HS := fun W hW => Lib.hid (origin_Same.calls k o0 o1 o2 s0 s1 s2 b W hW hsm)
   have HR := Lib.hid (Option.some.inj h)
   clear h hof hsm
   go_enter Tryd.func29, Tryd.ntmps29
   go_wp2_with fail
   refine (HO _ (hG_.below bel0.out)).out.mono ?_
   rintro e w1 ⟨rfl, hb1⟩
   have hb2 := Lib.hid (below_then bel0.out (below_size bel0.out) hb1)
   have hk := Lib.hid ((hb1.block w.heap.size (by simp only [World.size_alloc]; omega)).trans ((Below.heap_alloc _ _ _ (by simp)).trans (heap_alloc_new w (.cells #[.string u0, .string u1, .string u2, .int .i64 u3, .string u4, .bool u5, .string u6, .bool u7, .string u8] 31))))
   have hk2 := Lib.hid ((hb1.block (w.alloc (.cells #[.string u0, .string u1, .string u2, .int .i64 u3, .string u4, .bool u5, .string u6, .bool u7, .string u8] 31)).heap.size (by simp)).trans (heap_alloc_new (w.alloc (.cells #[.string u0, .string u1, .string u2, .int .i64 u3, .string u4, .bool u5, .string u6, .bool u7, .string u8] 31)) (.cells #[.string s0, .string s1, .int .i64 s2] 34)))
   simp only [World.size_alloc] at hk2
   have hkA := Lib.hid (blk_alloc hk.out (.cells #[.string o0, .string o1, .int .i64 o2] 34))
   have hkB := Lib.hid (blk_alloc hk2.out (.cells #[.string o0, .string o1, .int .i64 o2] 34))
   have hkC := Lib.hid (blk_new w1 (.cells #[.string o0, .string o1, .int .i64 o2] 34))
   have hb3 := Lib.hid (below_alloc hb2.out (.cells #[.string o0, .string o1, .int .i64 o2] 34))
   have y0 := (blk_cell hkB.out 0).trans rfl
   have y1 := (blk_cell hkB.out 1).trans rfl
   have y2 := (blk_cell hkB.out 2).trans rfl
   simp only [List.getElem?_toArray, List.getElem?_cons_zero, List.getElem?_cons_succ] at y0 y1 y2
   clear hb1 HO bel0 hk hk2 hb2
   go_wp2_with fail
   refine (HS _ (hG_.below hb3.out)).out.mono ?_
   rintro e w2 ⟨rfl, hb4⟩
   replace hkA := Lib.hid (blk_below hkA.out hb4)
   replace hkB := Lib.hid (blk_below hkB.out hb4)
   replace hkC := Lib.hid (blk_below hkC.out hb4)
   have hb5 := Lib.hid (below_then hb3.out (below_size hb3.out) hb4)
   clear hb4 hb3 HS y0 y1 y2
   cases b with
   | true =>
    obtain rfl := HR.out
    go_wp2
    go_ret
    exact ⟨rfl, hb5.out⟩
   | false =>
    have x0 := (blk_cell hkA.out 0).trans rfl
    have y0 := (blk_cell hkB.out 0).trans rfl
    have y1 := (blk_cell hkB.out 1).trans rfl
    have y2 := (blk_cell hkB.out 2).trans rfl
    have z1 := (blk_cell hkC.out 1).trans rfl
    have z2 := (blk_cell hkC.out 2).trans rfl
    simp only [List.getElem?_toArray, List.getElem?_cons_zero, List.getElem?_cons_succ] at x0 y0 y1 y2 z1 z2
    clear hkA hkB hkC
    by_cases c1 : o1 = s1
    ·by_cases c2 : s0 = ⟨#[104, 116, 116, 112]⟩
     ·by_cases c3 : u0 = ⟨#[104, 116, 116, 112, 115]⟩
      ·subst c1 c2 c3
       have HD1 := fun W hW => Lib.hid (host_Default.calls ⟨#[104, 116, 116, 112]⟩ 80 W hW default_http)
       have HD2 := fun W hW => Lib.hid (host_Default.calls ⟨#[104, 116, 116, 112, 115]⟩ 443 W hW default_https)
       have HF := Lib.hid (HR.out.symm.trans (show (false || decide _) = ((s2 == 80) && (o2 == 443)) by simp; rfl))
       clear HR
       cases e4 : (s2 == 80)
       all_goals
        go_wp2
        go_quiet (first | (go_at_call 13; exact Calls.quiet_of ((HD1 _ (hG_.below (by repeat (with_reducible first | exact hb5.out | apply pw_below_drewN | apply below_drew)))).out.mono (fun _ _ h => ⟨h.1, h.2.out⟩))) | (go_at_call 13; exact Calls.quiet_of ((HD2 _ (hG_.below (by repeat (with_reducible first | exact hb5.out | apply pw_below_drewN | apply below_drew)))).out.mono (fun _ _ h => ⟨h.1, h.2.out⟩))))
        go_wp2
        go_ret
        exact ⟨by rw [HF.out, e4]; rfl, (by repeat (with_reducible first | exact hb5.out | apply pw_below_drewN | apply below_drew))⟩
      ·have e3 : (u0.toList == ([104, 116, 116, 112, 115] : List UInt8)) = false := str_nec _ _ rfl c3
       subst c1 c2
       have HF := Lib.hid (HR.out.symm.trans (show (false || decide _) = false by rw [decide_eq_false (fun h => c3 h.2.2.1)]; rfl))
       clear c3 HR
       go_wp2
       go_quiet (fail)
       go_wp2
       go_ret
       exact ⟨by rw [HF.out]; rfl, (by repeat (with_reducible first | exact hb5.out | apply pw_below_drewN | apply below_drew))⟩
     ·have e2 : (s0.toList == ([104, 116, 116, 112] : List UInt8)) = false := str_nec _ _ rfl c2
      subst c1
      have HF := Lib.hid (HR.out.symm.trans (show (false || decide _) = false by rw [decide_eq_false (fun h => c2 h.2.1)]; rfl))
      clear c2 HR
      go_wp2
      go_quiet (fail)
      go_wp2
      go_ret
      exact ⟨by rw [HF.out]; rfl, (by repeat (with_reducible first | exact hb5.out | apply pw_below_drewN | apply below_drew))⟩
    ·have e1 := str_ne _ _ c1
     have HF := Lib.hid (HR.out.symm.trans (show (false || decide _) = false by rw [decide_eq_false (fun h => c1 h.1)]; rfl))
     clear c1 HR
     go_wp2
     go_quiet (fail)
     go_wp2
     go_ret
     exact ⟨by rw [HF.out]; rfl, (by repeat (with_reducible first | exact hb5.out | apply pw_below_drewN | apply below_drew))⟩
end Go.Proofs.YtfibkgmbgdaeoaaDoor.Hand
