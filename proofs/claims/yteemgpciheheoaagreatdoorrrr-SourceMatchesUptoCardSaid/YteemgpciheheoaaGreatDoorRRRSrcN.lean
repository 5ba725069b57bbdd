/- pursuivantref11.Match: what its walk gives, a part. Condition: as in the functions that it calls. -/
import Derived.Test.YteemgpciheheoaaGreatDoorRRRSrcN0
import Derived.Test.YteemgpciheheoaaGreatDoorRRRSrcNA
namespace Go.Proofs.YteemgpciheheoaaGreatDoorRRR.Hand
open Go.RowKit Go.Proofs.YteemgpciheheoaaGreatDoorRRRW.PrintWords Go.Proofs.YteemgpciheheoaaGreatDoorRRRW.PrintLast Go.Proofs.YteemgpciheheoaaGreatDoorRRRW.PrintMore
set_option linter.unusedVariables false
set_option linter.unusedSimpArgs false
set_option maxRecDepth 100000 in
set_option maxHeartbeats 8000000 in
theorem refMatch_B (k : Nat) (x0 : Int) (x1 : ByteArray) (x2 : Bool) (x3 : ByteArray) (x4 : Int) (x5 x6 u0 u1 u2 : ByteArray) (u3 : Int) (u4 : ByteArray) (u5 : Bool) (u6 : ByteArray) (u7 : Bool) (u8 s0 s1 : ByteArray) (s2 : Int) (mv : Bool) (r : Bool) (w : World) (hG_ : GW w) (k1 : ¬x0 = 1) (k2 : ¬x0 = 2) (k3 : ¬x0 = 3) (k5 : ¬x0 = 5) (hp : ¬(x4 = -1 ∨ x4 = 0)) (h : pursuivantref11_Match.f k x0 x1 x2 x3 x4 x5 x6 u0 u1 u2 u3 u4 u5 u6 u7 u8 s0 s1 s2 mv = some r) :
  Calls Tryz.prog 18 #[.agg #[.int .i64 x0, .string x1, .bool x2, .string x3, .int .i64 x4, .string x5, .string x6], .agg #[.string u0, .string u1, .string u2, .int .i64 u3, .string u4, .bool u5, .string u6, .bool u7, .string u8], .agg #[.string s0, .string s1, .int .i64 s2], .bool mv] w fun e w' => e = .returned (.bool r) ∧ Below w.heap.size w w' := by
 have huX := Tryz.underlying23
 have huU := Tryz.underlying30
 have huS := Tryz.underlying32
 have H3 := Lib.hid (M3.start w #[.int .i64 x0, .string x1, .bool x2, .string x3, .int .i64 x4, .string x5, .string x6] #[.string u0, .string u1, .string u2, .int .i64 u3, .string u4, .bool u5, .string u6, .bool u7, .string u8] #[.string s0, .string s1, .int .i64 s2])
 unfold pursuivantref11_Match.f at h
 cases hof : pursuivantref08_Of.f k u0 u1 u2 u3 u4 u5 u6 u7 u8 with
 | none => rw [hof] at h; cases h
 | some oo =>
  obtain ⟨o0, o1, o2⟩ := oo
  rw [hof, Option.bind_some] at h
  simp only at h
  have HO := fun W hW => Lib.hid (pursuivantref08_Of.calls k u0 u1 u2 u3 u4 u5 u6 u7 u8 o0 o1 o2 W hW hof)
  have HH := Lib.hid h
  clear h hof
  go_enter Tryz.func18, Tryz.ntmps18
  go_wp2_with fail
  refine (HO _ (hG_.below H3.out.bel)).out.mono ?_
  rintro e w1 ⟨rfl, hb1⟩
  replace H3 := Lib.hid (H3.out.below hb1)
  have HM : Hid (M4 w (w1.alloc (.cells #[.string o0, .string o1, .int .i64 o2] 32)) w1.heap.size #[.int .i64 x0, .string x1, .bool x2, .string x3, .int .i64 x4, .string x5, .string x6] #[.string u0, .string u1, .string u2, .int .i64 u3, .string u4, .bool u5, .string u6, .bool u7, .string u8] #[.string s0, .string s1, .int .i64 s2] #[.string o0, .string o1, .int .i64 o2]) := Lib.hid ⟨H3.out.below (below_alloc (Below.refl _ _) _), blk_new _ _⟩
  obtain ⟨a0, a1, a2, a3, a4, a5, a6⟩ := src_cells HM.out.m.x
  have h := HH.out
  clear HH HO hb1 H3
  rw [if_neg k1, if_neg k2, if_neg k3, if_neg k5] at h
  have b1 : (x0 == 1) = false := beq_eq_false_iff_ne.mpr k1
  have b2 : (x0 == 2) = false := beq_eq_false_iff_ne.mpr k2
  have b3 : (x0 == 3) = false := beq_eq_false_iff_ne.mpr k3
  have b5 : (x0 == 5) = false := beq_eq_false_iff_ne.mpr k5
  clear k1 k2 k3 k5
  have HPP := Lib.hid hp
  clear hp
  obtain ⟨d0, d1, d2, d3, d4, d5, d6, d7, d8⟩ := url_cells HM.out.m.u
  obtain ⟨sc, hsc⟩ : ∃ sc, (if x1.toList = [] then s0 else x1) = sc := ⟨_, rfl⟩
  rw [hsc] at h
  cases hg : pursuivantref11_Goes.f sc u0 with
  | none => rw [hg] at h; cases h
  | some g =>
   rw [hg, Option.bind_some] at h
   have HG := fun W hW => Lib.hid (pursuivantref11_Goes.calls sc u0 g W hW hg)
   have HSC := Lib.hid hsc
   have HH := Lib.hid h
   clear h hg hsc
   go_upto_region 11 with (fail)
   (try simp only [Act.put, List.setIfInBounds_toArray, List.set_cons_zero, List.set_cons_succ])
   go_cut [82] (fun v82 wc => v82 = .bool (!g) ∧ Hid (M4 w wc w1.heap.size #[.int .i64 x0, .string x1, .bool x2, .string x3, .int .i64 x4, .string x5, .string x6] #[.string u0, .string u1, .string u2, .int .i64 u3, .string u4, .bool u5, .string u6, .bool u7, .string u8] #[.string s0, .string s1, .int .i64 s2] #[.string o0, .string o1, .int .i64 o2]))
   case first =>
    clear HH
    obtain ⟨y0, y1, y2⟩ := ori_cells HM.out.m.s
    by_cases c : x1.toList = []
    ·have c0 : (x1.toList == ([] : List UInt8)) = true := beq_iff_eq.mpr c
     have c1 : x1.toList.isEmpty = true := by rw [← nil_beq]; exact c0
     have c2 : (x1.toList != ([] : List UInt8)) = false := by rw [bne, c0]; rfl
     obtain rfl := HSC.out.symm.trans (if_pos c)
     clear c HSC
     go_wp2_with fail
     refine (HG _ (hG_.below HM.out.m.bel)).out.mono ?_
     rintro e w2 ⟨rfl, hd⟩
     replace HM := Lib.hid (HM.out.below hd.below)
     clear hd HG
     clear a0 a1 a2 a3 a4 a5 a6 d0 d1 d2 d3 d4 d5 d6 d7 d8
     clear y0 y1 y2
     obtain ⟨a0, a1, a2, a3, a4, a5, a6⟩ := src_cells HM.out.m.x
     cases g
     all_goals
      go_wp2
      go_meet
      case rel => exact ⟨rfl, HM⟩
    ·have c0 : (x1.toList == ([] : List UInt8)) = false := beq_eq_false_iff_ne.mpr c
     have c1 : x1.toList.isEmpty = false := by rw [← nil_beq]; exact c0
     have c2 : (x1.toList != ([] : List UInt8)) = true := by rw [bne, c0]; rfl
     obtain rfl := HSC.out.symm.trans (if_neg c)
     clear c HSC
     go_wp2_with fail
     refine (HG _ (hG_.below HM.out.m.bel)).out.mono ?_
     rintro e w2 ⟨rfl, hd⟩
     replace HM := Lib.hid (HM.out.below hd.below)
     clear hd HG
     clear a0 a1 a2 a3 a4 a5 a6 d0 d1 d2 d3 d4 d5 d6 d7 d8
     clear y0 y1 y2
     obtain ⟨a0, a1, a2, a3, a4, a5, a6⟩ := src_cells HM.out.m.x
     cases g
     all_goals
      go_wp2
      go_meet
      case rel => exact ⟨rfl, HM⟩
   case rest =>
    clear HM HSC HG a0 a1 a2 a3 a4 a5 a6 d0 d1 d2 d3 d4 d5 d6 d7 d8
    obtain ⟨rfl, HM⟩ := hcut
    have h := HH.out
    clear HH
    cases g with
    | false =>
     obtain rfl := Option.some.inj h
     clear h
     go_wp2
     go_ret
     exact ⟨rfl, HM.out.m.bel⟩
    | true =>
     rw [if_pos rfl] at h
     cases hT : refThere k x2 x3 u2 with
     | none => rw [hT] at h; cases h
     | some there =>
      rw [hT, Option.bind_some] at h
      have HTH := Lib.hid hT
      have HH := Lib.hid h
      clear h hT
      obtain ⟨⟨a0, a1, a2, a3, a4, a5, a6⟩, d0, d1, d2, d3, d4, d5, d6, d7, d8⟩ := And.intro (src_cells HM.out.m.x) (url_cells HM.out.m.u)
      go_upto_region 13 with (fail)
      (try simp only [Act.put, List.setIfInBounds_toArray, List.set_cons_zero, List.set_cons_succ])
      go_cut [104] (fun v104 wc => v104 = .bool (!there) ∧ Hid (M4 w wc w1.heap.size #[.int .i64 x0, .string x1, .bool x2, .string x3, .int .i64 x4, .string x5, .string x6] #[.string u0, .string u1, .string u2, .int .i64 u3, .string u4, .bool u5, .string u6, .bool u7, .string u8] #[.string s0, .string s1, .int .i64 s2] #[.string o0, .string o1, .int .i64 o2]))
      case first =>
       clear HH
       cases x2 with
       | true =>
        have HU := fun W hW => Lib.hid (pursuivantref05_Under.calls k u2 x3 there W hW HTH.out)
        clear HTH
        go_wp2_with fail
        refine (HU _ (hG_.below HM.out.m.bel)).out.mono ?_
        rintro e w2 ⟨rfl, hd⟩
        replace HM := Lib.hid (HM.out.below hd.below)
        clear hd HU
        clear a0 a1 a2 a3 a4 a5 a6 d0 d1 d2 d3 d4 d5 d6 d7 d8
        obtain ⟨a0, a1, a2, a3, a4, a5, a6⟩ := src_cells HM.out.m.x
        cases there
        all_goals
         go_wp2
         go_meet
         case rel => exact ⟨rfl, HM⟩
       | false =>
        have HT2 := Lib.hid (Option.some.inj HTH.out)
        clear HTH
        go_wp2
        go_meet
        case rel => exact ⟨by rw [← HT2.out]; first | done | rfl, HM⟩
      case rest =>
       clear HM HTH a0 a1 a2 a3 a4 a5 a6 d0 d1 d2 d3 d4 d5 d6 d7 d8
       obtain ⟨rfl, HM⟩ := hcut
       have h := HH.out
       clear HH
       cases there with
       | false =>
        obtain rfl := Option.some.inj h
        clear h
        go_wp2
        go_ret
        exact ⟨rfl, HM.out.m.bel⟩
       | true =>
        rw [if_pos rfl] at h
        cases hd : pursuivantref05_Default.f u0 with
        | none => rw [hd] at h; cases h
        | some d =>
         rw [hd, Option.bind_some] at h
         have HD := fun W hW => Lib.hid (pursuivantref05_Default.calls u0 d W hW hd)
         have HH := Lib.hid h
         clear h hd
         obtain ⟨⟨a0, a1, a2, a3, a4, a5, a6⟩, d0, d1, d2, d3, d4, d5, d6, d7, d8⟩ := And.intro (src_cells HM.out.m.x) (url_cells HM.out.m.u)
         obtain ⟨⟨y0, y1, y2⟩, z0, z1, z2⟩ := And.intro (ori_cells HM.out.m.s) (ori_cells HM.out.o)
         go_upto_region 15 with (fail)
         (try simp only [Act.put, List.setIfInBounds_toArray, List.set_cons_zero, List.set_cons_succ])
         go_cut [10] (fun v10 wc => v10 = .bool (refPo11 x4 o2 d u0) ∧ Hid (M4 w wc w1.heap.size #[.int .i64 x0, .string x1, .bool x2, .string x3, .int .i64 x4, .string x5, .string x6] #[.string u0, .string u1, .string u2, .int .i64 u3, .string u4, .bool u5, .string u6, .bool u7, .string u8] #[.string s0, .string s1, .int .i64 s2] #[.string o0, .string o1, .int .i64 o2]))
         case first =>
          clear HH a0 a1 a2 a3 a5 a6 d1 d2 d3 d4 d5 d6 d7 d8 y0 y1 y2 z0 z1
          have e1c : ¬x4 = -1 := fun e => HPP.out (.inl e)
          have e2c : ¬x4 = 0 := fun e => HPP.out (.inr e)
          clear HPP
          ·have e1 : (x4 == -1) = false := beq_eq_false_iff_ne.mpr e1c
           have e2 : (x4 == 0) = false := beq_eq_false_iff_ne.mpr e2c
           by_cases e3c : x4 = o2
           ·have HV := Lib.hid (show refPo11 x4 o2 d u0 = true from decide_eq_true (.inr (.inr (.inl e3c))))
            subst e3c
            clear e1c e2c
            go_wp2
            go_quiet ((go_at_call 43; exact Calls.quiet_of ((HD _ (hG_.below (by repeat (with_reducible first | exact HM.out.m.bel | apply pw_below_drewN | apply below_drew)))).out.mono (fun _ _ h => ⟨h.1, h.2.out⟩))))
            try go_wp2
            go_meet
            case rel => exact ⟨by rw [HV.out], Lib.hid (HM.out.drewN _)⟩
           ·have e3 : (x4 == o2) = false := beq_eq_false_iff_ne.mpr e3c
            by_cases e4c : x4 = 80
            ·by_cases e5c : o2 = 443
             ·by_cases e6c : u0 = ⟨#[104, 116, 116, 112, 115]⟩
              ·have HV := Lib.hid (show refPo11 x4 o2 d u0 = true from decide_eq_true (.inr (.inr (.inr ⟨e4c, e5c, e6c⟩))))
               subst e4c
               subst e5c
               subst e6c
               clear e1c e2c e3c e1 e2 e3
               go_wp2
               go_quiet ((go_at_call 43; exact Calls.quiet_of ((HD _ (hG_.below (by repeat (with_reducible first | exact HM.out.m.bel | apply pw_below_drewN | apply below_drew)))).out.mono (fun _ _ h => ⟨h.1, h.2.out⟩))))
               try go_wp2
               go_meet
               case rel => exact ⟨by rw [HV.out], Lib.hid (HM.out.drewN _)⟩
              ·have e6 : (u0.toList == ([104, 116, 116, 112, 115] : List UInt8)) = false := str_nec _ _ rfl e6c
               have HV := Lib.hid (show refPo11 x4 o2 d u0 = false from decide_eq_false (by rintro (h | ⟨h, g⟩ | h | ⟨h, g, f⟩); exact e1c h; exact e2c h; exact e3c h; exact e6c f))
               subst e4c
               subst e5c
               clear e1c e2c e3c e6c e1 e2 e3
               go_wp2
               go_quiet ((go_at_call 43; exact Calls.quiet_of ((HD _ (hG_.below (by repeat (with_reducible first | exact HM.out.m.bel | apply pw_below_drewN | apply below_drew)))).out.mono (fun _ _ h => ⟨h.1, h.2.out⟩))))
               try go_wp2
               go_meet
               case rel => exact ⟨by rw [HV.out], Lib.hid (HM.out.drewN _)⟩
             ·have e5 : (o2 == 443) = false := beq_eq_false_iff_ne.mpr e5c
              have HV := Lib.hid (show refPo11 x4 o2 d u0 = false from decide_eq_false (by rintro (h | ⟨h, g⟩ | h | ⟨h, g, f⟩); exact e1c h; exact e2c h; exact e3c h; exact e5c g))
              subst e4c
              clear e1c e2c e3c e5c e1 e2
              go_wp2
              go_quiet ((go_at_call 43; exact Calls.quiet_of ((HD _ (hG_.below (by repeat (with_reducible first | exact HM.out.m.bel | apply pw_below_drewN | apply below_drew)))).out.mono (fun _ _ h => ⟨h.1, h.2.out⟩))))
              try go_wp2
              go_meet
              case rel => exact ⟨by rw [HV.out], Lib.hid (HM.out.drewN _)⟩
            ·have e4 : (x4 == 80) = false := beq_eq_false_iff_ne.mpr e4c
             have HV := Lib.hid (show refPo11 x4 o2 d u0 = false from decide_eq_false (by rintro (h | ⟨h, g⟩ | h | ⟨h, g, f⟩); exact e1c h; exact e2c h; exact e3c h; exact e4c h))
             clear e1c e2c e3c e4c
             go_wp2
             go_quiet ((go_at_call 43; exact Calls.quiet_of ((HD _ (hG_.below (by repeat (with_reducible first | exact HM.out.m.bel | apply pw_below_drewN | apply below_drew)))).out.mono (fun _ _ h => ⟨h.1, h.2.out⟩))))
             try go_wp2
             go_meet
             case rel => exact ⟨by rw [HV.out], Lib.hid (HM.out.drewN _)⟩
         case rest =>
          clear HM HD a0 a1 a2 a3 a4 a5 a6 d0 d1 d2 d3 d4 d5 d6 d7 d8 y0 y1 y2 z0 z1 z2
          obtain ⟨rfl, HM⟩ := hcut
          have h := HH.out
          clear HH
          cases hP : refPo11 x4 o2 d u0 with
          | false =>
           rw [hP, if_neg (by simp)] at h
           obtain rfl := Option.some.inj h
           clear h hP
           go_wp2
           go_ret
           exact ⟨rfl, HM.out.m.bel⟩
          | true =>
           rw [hP, if_pos rfl] at h
           clear hP
           by_cases c1 : x5.size ≤ 9223372036854775806
           ·rw [if_pos c1] at h
            by_cases c2 : u4.size ≤ 9223372036854775806
            ·rw [if_pos c2] at h
             have HR := Lib.hid (Option.some.inj h)
             clear h
             obtain ⟨⟨a0, a1, a2, a3, a4, a5, a6⟩, d0, d1, d2, d3, d4, d5, d6, d7, d8⟩ := And.intro (src_cells HM.out.m.x) (url_cells HM.out.m.u)
             cases mv with
             | true =>
              obtain rfl := HR.out
              go_wp2
              go_ret
              exact ⟨rfl, HM.out.m.bel⟩
             | false =>
              by_cases c3 : x5.size = 0
              ·have HR2 := Lib.hid (show true = r from by rw [← HR.out]; simp [refTail, c3])
               obtain rfl := HR2.out
               have e3 : ((x5.size : Int) == 0) = true := beq_iff_eq.mpr (by omega)
               clear c3 HR HR2
               go_wp2
               go_ret
               exact ⟨rfl, HM.out.m.bel⟩
              ·have e3 : ((x5.size : Int) == 0) = false := beq_eq_false_iff_ne.mpr (by omega)
               by_cases c4 : x5 = u4
               ·have HR2 := Lib.hid (show true = r from by rw [← HR.out]; simp [refTail, c4])
                obtain rfl := HR2.out
                subst c4
                clear c3 HR HR2
                go_wp2
                go_ret
                exact ⟨rfl, HM.out.m.bel⟩
               ·have e4 := str_ne _ _ c4
                have hpos : 0 < x5.size := by omega
                obtain ⟨ji, hji⟩ : ∃ j : Int, (x5.size : Int) - 1 = j := ⟨_, rfl⟩
                have ow : IntKind.i64.wrap ((x5.size : Int) - 1) = ji := by rw [i64_w, ← hji]; unfold wrap64; omega
                have p0 : 0 ≤ ji := by omega
                have q0 : ji < (x5.size : Int) := by omega
                have p1 : decide (0 ≤ ji) = true := decide_eq_true p0
                have q1 : decide (ji < (x5.size : Int)) = true := decide_eq_true q0
                have hx := bt_at x5 ji
                have HT := Lib.hid (show refTail x5 u4 false = (bt x5 ji == 47 && (decide (x5.size < u4.size) && ((u4.extract 0 x5.size).toList == x5.toList))) from by unfold refTail; rw [hji, decide_eq_false c3, decide_eq_false c4]; simp)
                clear c4 a0 a1 a2 a3 a4 a6 d0 d1 d2 d3 d5 d6 d7 d8 c3 hji hpos
                go_wp2
                by_cases c5 : bt x5 ji = 47
                ·have e5 : (bt x5 ji == 47) = true := beq_iff_eq.mpr c5
                 clear c5
                 by_cases c6 : x5.size < u4.size
                 ·have e6 : decide ((x5.size : Int) < (u4.size : Int)) = true := decide_eq_true (by omega)
                  have e7 : decide (x5.size < u4.size) = true := decide_eq_true c6
                  have e8 : (x5.size : Int) ≤ (u4.size : Int) := by omega
                  have e9 : x5.size ≤ u4.size := by omega
                  clear c6
                  go_quiet (fail)
                  go_wp2
                  go_ret
                  exact ⟨by rw [← HR.out, HT.out, e5, e7]; rfl, by repeat (with_reducible first | exact HM.out.m.bel | apply pw_below_drewN | apply below_drew)⟩
                 ·have e6 : decide ((x5.size : Int) < (u4.size : Int)) = false := decide_eq_false (by omega)
                  have e7 : decide (x5.size < u4.size) = false := decide_eq_false c6
                  clear c6
                  go_quiet (fail)
                  go_wp2
                  go_ret
                  exact ⟨by rw [← HR.out, HT.out, e5, e7]; rfl, by repeat (with_reducible first | exact HM.out.m.bel | apply pw_below_drewN | apply below_drew)⟩
                ·have e5 : (bt x5 ji == 47) = false := beq_eq_false_iff_ne.mpr c5
                 clear c5
                 go_quiet (fail)
                 go_wp2
                 go_ret
                 exact ⟨by rw [← HR.out, HT.out, e5]; rfl, by repeat (with_reducible first | exact HM.out.m.bel | apply pw_below_drewN | apply below_drew)⟩
            ·rw [if_neg c2] at h; cases h
           ·rw [if_neg c1] at h; cases h
end Go.Proofs.YteemgpciheheoaaGreatDoorRRR.Hand

/- pursuivantref11.Match: what its walk gives, a part. Condition: as in the functions that it calls. -/
namespace Go.Proofs.YteemgpciheheoaaGreatDoorRRR.Hand
open Go.RowKit Go.Proofs.YteemgpciheheoaaGreatDoorRRRW.PrintWords Go.Proofs.YteemgpciheheoaaGreatDoorRRRW.PrintLast Go.Proofs.YteemgpciheheoaaGreatDoorRRRW.PrintMore
set_option linter.unusedVariables false
set_option linter.unusedSimpArgs false
theorem pursuivantref11_Match.calls (k : Nat) (x0 : Int) (x1 : ByteArray) (x2 : Bool) (x3 : ByteArray) (x4 : Int) (x5 x6 u0 u1 u2 : ByteArray) (u3 : Int) (u4 : ByteArray) (u5 : Bool) (u6 : ByteArray) (u7 : Bool) (u8 s0 s1 : ByteArray) (s2 : Int) (mv : Bool) (r : Bool) (w : World) (hG_ : GW w) (h : pursuivantref11_Match.f k x0 x1 x2 x3 x4 x5 x6 u0 u1 u2 u3 u4 u5 u6 u7 u8 s0 s1 s2 mv = some r) :
  Calls Tryz.prog 18 #[.agg #[.int .i64 x0, .string x1, .bool x2, .string x3, .int .i64 x4, .string x5, .string x6], .agg #[.string u0, .string u1, .string u2, .int .i64 u3, .string u4, .bool u5, .string u6, .bool u7, .string u8], .agg #[.string s0, .string s1, .int .i64 s2], .bool mv] w fun e w' => e = .returned (.bool r) ∧ Below w.heap.size w w' := by
 by_cases k : x0 = 1 ∨ x0 = 2 ∨ x0 = 3 ∨ x0 = 5
 ·exact refMatch_few _ x0 x1 x2 x3 x4 x5 x6 u0 u1 u2 u3 u4 u5 u6 u7 u8 s0 s1 s2 mv r w hG_ k h
 ·by_cases p : x4 = -1 ∨ x4 = 0
  ·exact refMatch_A _ x0 x1 x2 x3 x4 x5 x6 u0 u1 u2 u3 u4 u5 u6 u7 u8 s0 s1 s2 mv r w hG_ (fun e => k (.inl e)) (fun e => k (.inr (.inl e))) (fun e => k (.inr (.inr (.inl e)))) (fun e => k (.inr (.inr (.inr e)))) p h
  ·exact refMatch_B _ x0 x1 x2 x3 x4 x5 x6 u0 u1 u2 u3 u4 u5 u6 u7 u8 s0 s1 s2 mv r w hG_ (fun e => k (.inl e)) (fun e => k (.inr (.inl e))) (fun e => k (.inr (.inr (.inl e)))) (fun e => k (.inr (.inr (.inr e)))) p h
end Go.Proofs.YteemgpciheheoaaGreatDoorRRR.Hand
