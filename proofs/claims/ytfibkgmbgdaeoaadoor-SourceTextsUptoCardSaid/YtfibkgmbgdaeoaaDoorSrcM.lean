/- source.Match: what its walk gives. Condition: as in the functions that it calls. -/
import Derived.Test.YtfibkgmbgdaeoaaDoorSrcO
import Derived.Test.YtfibkgmbgdaeoaaDoorFS2
namespace Go.Proofs.YtfibkgmbgdaeoaaDoor.Hand
open Go.RowKit Go.Proofs.YtfibkgmbgdaeoaaDoorW.PrintWords Go.Proofs.YtfibkgmbgdaeoaaDoorW.PrintLast Go.Proofs.YtfibkgmbgdaeoaaDoorW.PrintMore
set_option linter.unusedVariables false
set_option linter.unusedSimpArgs false

structure M3 (w0 W : World) (xs us ss : Array Value) : Prop where
 x : W.heap[w0.heap.size]? = some (.cells xs 23 (0, 0))
 u : W.heap[w0.heap.size + 1]? = some (.cells us 31 (0, 0))
 s : W.heap[w0.heap.size + 1 + 1]? = some (.cells ss 34 (0, 0))
 bel : Below w0.heap.size w0 W
theorem M3.start (w : World) (xs us ss : Array Value) : M3 w (((w.alloc (.cells xs 23)).alloc (.cells us 31)).alloc (.cells ss 34)) xs us ss where
 x := blk_alloc (blk_alloc (blk_new w _) _) _
 u := by have := blk_alloc (blk_new (w.alloc (.cells xs 23)) (.cells us 31)) (.cells ss 34); simpa only [World.size_alloc] using this
 s := by have := blk_new ((w.alloc (.cells xs 23)).alloc (.cells us 31)) (.cells ss 34); simpa only [World.size_alloc] using this
 bel := below_alloc (below_alloc (below_alloc (Below.refl _ _) _) _) _
theorem M3.below {w0 W W' : World} {xs us ss : Array Value} (h : M3 w0 W xs us ss) (hb : Below W.heap.size W W') : M3 w0 W' xs us ss where
 x := blk_below h.x hb
 u := blk_below h.u hb
 s := blk_below h.s hb
 bel := below_then h.bel (below_size h.bel) hb
theorem src_cells {w : World} {g : Nat} {t : TypeId} {v0 v1 v2 v3 v4 v5 v6 : Value} (h : w.heap[g]? = some (.cells #[v0, v1, v2, v3, v4, v5, v6] t (0, 0))) :
  w.cell? ⟨g, 0, none⟩ = some v0 ∧ w.cell? ⟨g, 1, none⟩ = some v1 ∧ w.cell? ⟨g, 2, none⟩ = some v2 ∧ w.cell? ⟨g, 3, none⟩ = some v3 ∧ w.cell? ⟨g, 4, none⟩ = some v4 ∧ w.cell? ⟨g, 5, none⟩ = some v5 ∧ w.cell? ⟨g, 6, none⟩ = some v6 :=
 ⟨(blk_cell h 0).trans rfl, (blk_cell h 1).trans rfl, (blk_cell h 2).trans rfl, (blk_cell h 3).trans rfl, (blk_cell h 4).trans rfl, (blk_cell h 5).trans rfl, (blk_cell h 6).trans rfl⟩
theorem url_cells {w : World} {g : Nat} {t : TypeId} {v0 v1 v2 v3 v4 v5 v6 v7 v8 : Value} (h : w.heap[g]? = some (.cells #[v0, v1, v2, v3, v4, v5, v6, v7, v8] t (0, 0))) :
  w.cell? ⟨g, 0, none⟩ = some v0 ∧ w.cell? ⟨g, 1, none⟩ = some v1 ∧ w.cell? ⟨g, 2, none⟩ = some v2 ∧ w.cell? ⟨g, 3, none⟩ = some v3 ∧ w.cell? ⟨g, 4, none⟩ = some v4 ∧ w.cell? ⟨g, 5, none⟩ = some v5 ∧ w.cell? ⟨g, 6, none⟩ = some v6 ∧ w.cell? ⟨g, 7, none⟩ = some v7 ∧ w.cell? ⟨g, 8, none⟩ = some v8 :=
 ⟨(blk_cell h 0).trans rfl, (blk_cell h 1).trans rfl, (blk_cell h 2).trans rfl, (blk_cell h 3).trans rfl, (blk_cell h 4).trans rfl, (blk_cell h 5).trans rfl, (blk_cell h 6).trans rfl, (blk_cell h 7).trans rfl, (blk_cell h 8).trans rfl⟩
theorem ori_cells {w : World} {g : Nat} {t : TypeId} {v0 v1 v2 : Value} (h : w.heap[g]? = some (.cells #[v0, v1, v2] t (0, 0))) :
  w.cell? ⟨g, 0, none⟩ = some v0 ∧ w.cell? ⟨g, 1, none⟩ = some v1 ∧ w.cell? ⟨g, 2, none⟩ = some v2 :=
 ⟨(blk_cell h 0).trans rfl, (blk_cell h 1).trans rfl, (blk_cell h 2).trans rfl⟩
def srcThere (k : Nat) (x2 : Bool) (x3 u2 : ByteArray) : Option Bool := if x2 = true then host_Under.f k u2 x3 else some (u2.toList == x3.toList)
def source_Match.f (k : Nat) (x0 : Int) (x1 : ByteArray) (x2 : Bool) (x3 : ByteArray) (x4 : Int) (x5 x6 u0 u1 u2 : ByteArray) (u3 : Int) (u4 : ByteArray) (u5 : Bool) (u6 : ByteArray) (u7 : Bool) (u8 s0 s1 : ByteArray) (s2 : Int) (mv : Bool) : Option Bool :=
 if x0 = 2 then some true else if x0 = 5 then some false else if x0 = 3 then source_goes.f x1 u0 else if x0 = 1 then source_own.f k u0 u1 u2 u3 u4 u5 u6 u7 u8 s0 s1 s2 else
 (srcThere k x2 x3 u2).bind fun there => (source_goes.f (if x1.toList = [] then s0 else x1) u0).bind fun g => if g = true then (if there = true then
  (source_port.f k x0 x1 x2 x3 x4 x5 x6 u0 u1 u2 u3 u4 u5 u6 u7 u8).bind fun p => if p = true then (if mv = true then some true else if x5.toList = [] then some true else source_path.f x0 x1 x2 x3 x4 x5 x6 u0 u1 u2 u3 u4 u5 u6 u7 u8) else some false else some false) else some false
set_option maxRecDepth 100000 in
set_option maxHeartbeats 8000000 in
theorem source_Match.calls (k : Nat) (x0 : Int) (x1 : ByteArray) (x2 : Bool) (x3 : ByteArray) (x4 : Int) (x5 x6 u0 u1 u2 : ByteArray) (u3 : Int) (u4 : ByteArray) (u5 : Bool) (u6 : ByteArray) (u7 : Bool) (u8 s0 s1 : ByteArray) (s2 : Int) (mv : Bool) (r : Bool) (w : World) (hG_ : GW w) (h : source_Match.f k x0 x1 x2 x3 x4 x5 x6 u0 u1 u2 u3 u4 u5 u6 u7 u8 s0 s1 s2 mv = some r) :
  Calls Tryd.prog 11 #[.agg #[.int .i64 x0, .string x1, .bool x2, .string x3, .int .i64 x4, .string x5, .string x6], .agg #[.string u0, .string u1, .string u2, .int .i64 u3, .string u4, .bool u5, .string u6, .bool u7, .string u8], .agg #[.string s0, .string s1, .int .i64 s2], .bool mv] w fun e w' => e = .returned (.bool r) ∧ Below w.heap.size w w' := by
 have huX := Tryd.underlying23
 have huU := Tryd.underlying31
 have huS := Tryd.underlying34
 have HM := Lib.hid (M3.start w #[.int .i64 x0, .string x1, .bool x2, .string x3, .int .i64 x4, .string x5, .string x6] #[.string u0, .string u1, .string u2, .int .i64 u3, .string u4, .bool u5, .string u6, .bool u7, .string u8] #[.string s0, .string s1, .int .i64 s2])
 unfold source_Match.f at h
 by_cases k2 : x0 = 2
 ·rw [if_pos k2] at h
  subst k2
  obtain rfl := Option.some.inj h
  clear h
  go_enter Tryd.func11, Tryd.ntmps11
  go_wp2
  go_ret
  exact ⟨rfl, HM.out.bel⟩
 rw [if_neg k2] at h
 have b2 : (x0 == 2) = false := beq_eq_false_iff_ne.mpr k2
 clear k2
 by_cases k5 : x0 = 5
 ·rw [if_pos k5] at h
  subst k5
  obtain rfl := Option.some.inj h
  clear h
  go_enter Tryd.func11, Tryd.ntmps11
  go_wp2
  go_ret
  exact ⟨rfl, HM.out.bel⟩
 rw [if_neg k5] at h
 have b5 : (x0 == 5) = false := beq_eq_false_iff_ne.mpr k5
 clear k5
 by_cases k3 : x0 = 3
 ·rw [if_pos k3] at h
  subst k3
  have HC := fun W hW => Lib.hid (source_goes.calls x1 u0 r W hW h)
  clear h
  go_enter Tryd.func11, Tryd.ntmps11
  go_wp2_with fail
  refine (HC _ (hG_.below HM.out.bel)).out.mono ?_
  rintro e w1 ⟨rfl, hd⟩
  replace HM := Lib.hid (HM.out.below hd.below)
  clear hd HC
  go_wp2
  go_ret
  exact ⟨rfl, HM.out.bel⟩
 rw [if_neg k3] at h
 have b3 : (x0 == 3) = false := beq_eq_false_iff_ne.mpr k3
 clear k3
 by_cases k1 : x0 = 1
 ·rw [if_pos k1] at h
  subst k1
  have HC := fun W hW => Lib.hid (source_own.calls k u0 u1 u2 u3 u4 u5 u6 u7 u8 s0 s1 s2 r W hW h)
  clear h
  go_enter Tryd.func11, Tryd.ntmps11
  go_wp2_with fail
  refine (HC _ (hG_.below HM.out.bel)).out.mono ?_
  rintro e w1 ⟨rfl, hd⟩
  replace HM := Lib.hid (HM.out.below hd)
  clear hd HC
  go_wp2
  go_ret
  exact ⟨rfl, HM.out.bel⟩
 rw [if_neg k1] at h
 have b1 : (x0 == 1) = false := beq_eq_false_iff_ne.mpr k1
 clear k1
 cases hT : srcThere k x2 x3 u2 with
 | none => rw [hT] at h; cases h
 | some there =>
  rw [hT, Option.bind_some] at h
  obtain ⟨sc, hsc⟩ : ∃ sc, (if x1.toList = [] then s0 else x1) = sc := ⟨_, rfl⟩
  rw [hsc] at h
  cases hg : source_goes.f sc u0 with
  | none => rw [hg] at h; cases h
  | some g =>
   rw [hg, Option.bind_some] at h
   have HG := fun W hW => Lib.hid (source_goes.calls sc u0 g W hW hg)
   have HSC := Lib.hid hsc
   have HTH := Lib.hid hT
   have HH := Lib.hid h
   clear h hg hsc hT
   go_enter Tryd.func11, Tryd.ntmps11
   go_upto_if 32 with (fail)
   (try simp only [Act.put, List.setIfInBounds_toArray, List.set_cons_zero, List.set_cons_succ])
   go_cut [9] (fun v9 wc => v9 = .string sc ∧ Hid (M3 w wc #[.int .i64 x0, .string x1, .bool x2, .string x3, .int .i64 x4, .string x5, .string x6] #[.string u0, .string u1, .string u2, .int .i64 u3, .string u4, .bool u5, .string u6, .bool u7, .string u8] #[.string s0, .string s1, .int .i64 s2]))
   case first =>
    obtain ⟨z0, z1, z2⟩ := ori_cells HM.out.s
    clear HH HTH HG
    by_cases c : x1.toList = []
    ·have c0 : (x1.toList == ([] : List UInt8)) = true := beq_iff_eq.mpr c
     have c1 : x1.toList.isEmpty = true := by rw [← nil_beq]; exact c0
     have HS2 := Lib.hid (HSC.out.symm.trans (if_pos c))
     clear c HSC
     (first | rw [c0] | rw [c1] | skip)
     go_wp2
     go_meet
     case rel => exact ⟨by rw [HS2.out], HM⟩
    ·have c0 : (x1.toList == ([] : List UInt8)) = false := beq_eq_false_iff_ne.mpr c
     have c1 : x1.toList.isEmpty = false := by rw [← nil_beq]; exact c0
     have HS2 := Lib.hid (HSC.out.symm.trans (if_neg c))
     clear c HSC
     (first | rw [c0] | rw [c1] | skip)
     go_wp2
     go_meet
     case rel => exact ⟨by rw [HS2.out], HM⟩
   case rest =>
    clear HM HSC
    obtain ⟨rfl, HM⟩ := hcut
    obtain ⟨⟨a0, a1, a2, a3, a4, a5, a6⟩, d0, d1, d2, d3, d4, d5, d6, d7, d8⟩ := And.intro (src_cells HM.out.x) (url_cells HM.out.u)
    go_upto_if 41 with (fail)
    (try simp only [Act.put, List.setIfInBounds_toArray, List.set_cons_zero, List.set_cons_succ])
    go_cut [10] (fun v10 wc => v10 = .bool there ∧ Hid (M3 w wc #[.int .i64 x0, .string x1, .bool x2, .string x3, .int .i64 x4, .string x5, .string x6] #[.string u0, .string u1, .string u2, .int .i64 u3, .string u4, .bool u5, .string u6, .bool u7, .string u8] #[.string s0, .string s1, .int .i64 s2]))
    case first =>
     clear HH HG
     cases x2 with
     | true =>
      have HU := fun W hW => Lib.hid (host_Under.calls k u2 x3 there W hW HTH.out)
      clear HTH
      go_wp2_with fail
      refine (HU _ (hG_.below HM.out.bel)).out.mono ?_
      rintro e w1 ⟨rfl, hd⟩
      replace HM := Lib.hid (HM.out.below hd)
      clear hd HU a0 a1 a2 a3 a4 a5 a6 d0 d1 d2 d3 d4 d5 d6 d7 d8
      go_wp2
      go_meet
      case rel => exact ⟨rfl, HM⟩
     | false =>
      have HT2 := Lib.hid (Option.some.inj HTH.out)
      clear HTH
      go_wp2
      go_meet
      case rel => exact ⟨by rw [← HT2.out], HM⟩
    case rest =>
     clear HTH HM a0 a1 a2 a3 a4 a5 a6 d0 d1 d2 d3 d4 d5 d6 d7 d8
     obtain ⟨rfl, HM⟩ := hcut
     obtain ⟨⟨a0, a1, a2, a3, a4, a5, a6⟩, d0, d1, d2, d3, d4, d5, d6, d7, d8⟩ := And.intro (src_cells HM.out.x) (url_cells HM.out.u)
     go_wp2_with fail
     refine (HG _ (hG_.below HM.out.bel)).out.mono ?_
     rintro e w1 ⟨rfl, hd⟩
     replace HM := Lib.hid (HM.out.below hd.below)
     clear hd HG a0 a1 a2 a3 a4 a5 a6 d0 d1 d2 d3 d4 d5 d6 d7 d8
     have h := HH.out
     clear HH
     cases g with
     | false =>
      obtain rfl := Option.some.inj h
      clear h
      go_wp2
      go_ret
      exact ⟨rfl, HM.out.bel⟩
     | true =>
      rw [if_pos rfl] at h
      cases there with
      | false =>
       obtain rfl := Option.some.inj h
       clear h
       go_wp2
       go_ret
       exact ⟨rfl, HM.out.bel⟩
      | true =>
       rw [if_pos rfl] at h
       cases hp : source_port.f k x0 x1 x2 x3 x4 x5 x6 u0 u1 u2 u3 u4 u5 u6 u7 u8 with
       | none => rw [hp] at h; cases h
       | some p =>
        rw [hp, Option.bind_some] at h
        have HP := fun W hW => Lib.hid (source_port.calls k x0 x1 x2 x3 x4 x5 x6 u0 u1 u2 u3 u4 u5 u6 u7 u8 p W hW hp)
        have HH := Lib.hid h
        clear h hp
        obtain ⟨⟨a0, a1, a2, a3, a4, a5, a6⟩, d0, d1, d2, d3, d4, d5, d6, d7, d8⟩ := And.intro (src_cells HM.out.x) (url_cells HM.out.u)
        go_wp2_with fail
        refine (HP _ (hG_.below HM.out.bel)).out.mono ?_
        rintro e w2 ⟨rfl, hd⟩
        replace HM := Lib.hid (HM.out.below hd)
        clear hd HP a0 a1 a2 a3 a4 a5 a6 d0 d1 d2 d3 d4 d5 d6 d7 d8
        have h := HH.out
        clear HH
        cases p with
        | false =>
         obtain rfl := Option.some.inj h
         clear h
         go_wp2
         go_ret
         exact ⟨rfl, HM.out.bel⟩
        | true =>
         rw [if_pos rfl] at h
         cases mv with
         | true =>
          obtain rfl := Option.some.inj h
          clear h
          go_wp2
          go_ret
          exact ⟨rfl, HM.out.bel⟩
         | false =>
          rw [if_neg (by simp)] at h
          obtain ⟨⟨a0, a1, a2, a3, a4, a5, a6⟩, d0, d1, d2, d3, d4, d5, d6, d7, d8⟩ := And.intro (src_cells HM.out.x) (url_cells HM.out.u)
          by_cases c : x5.toList = []
          ·rw [if_pos c] at h
           obtain rfl := Option.some.inj h
           have c0 : (x5.toList == ([] : List UInt8)) = true := beq_iff_eq.mpr c
           have c1 : x5.toList.isEmpty = true := by rw [← nil_beq]; exact c0
           clear h c
           go_wp2
           go_ret
           exact ⟨rfl, HM.out.bel⟩
          ·rw [if_neg c] at h
           have c0 : (x5.toList == ([] : List UInt8)) = false := beq_eq_false_iff_ne.mpr c
           have c1 : x5.toList.isEmpty = false := by rw [← nil_beq]; exact c0
           have HQ := fun W hW => Lib.hid (source_path.calls x0 x1 x2 x3 x4 x5 x6 u0 u1 u2 u3 u4 u5 u6 u7 u8 r W hW h)
           clear h c
           go_wp2_with fail
           refine (HQ _ (hG_.below HM.out.bel)).out.mono ?_
           rintro e w3 ⟨rfl, hd⟩
           replace HM := Lib.hid (HM.out.below hd)
           clear hd HQ a0 a1 a2 a3 a4 a5 a6 d0 d1 d2 d3 d4 d5 d6 d7 d8
           go_wp2
           go_ret
           exact ⟨rfl, HM.out.bel⟩
end Go.Proofs.YtfibkgmbgdaeoaaDoor.Hand
