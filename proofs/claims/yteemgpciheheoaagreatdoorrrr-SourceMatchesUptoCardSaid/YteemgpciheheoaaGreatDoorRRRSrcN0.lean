/- pursuivantref11.Match: what its walk gives. Condition: as in the functions that it calls. -/
import Derived.Test.YteemgpciheheoaaGreatDoorRRRSrcG
import Derived.Test.YteemgpciheheoaaGreatDoorRRRFG1
namespace Go.Proofs.YteemgpciheheoaaGreatDoorRRR.Hand
open Go.RowKit Go.Proofs.YteemgpciheheoaaGreatDoorRRRW.PrintWords Go.Proofs.YteemgpciheheoaaGreatDoorRRRW.PrintLast Go.Proofs.YteemgpciheheoaaGreatDoorRRRW.PrintMore
set_option linter.unusedVariables false
set_option linter.unusedSimpArgs false

structure M4 (w0 W : World) (g : Nat) (xs us ss os : Array Value) : Prop where
 m : M3 w0 W xs us ss
 o : W.heap[g]? = some (.cells os 32 (0, 0))
theorem M4.below {w0 W W' : World} {g : Nat} {xs us ss os : Array Value} (h : M4 w0 W g xs us ss os) (hb : Below W.heap.size W W') : M4 w0 W' g xs us ss os := ⟨h.m.below hb, blk_below h.o hb⟩
theorem M4.drewN {w0 W : World} {g : Nat} {xs us ss os : Array Value} (h : M4 w0 W g xs us ss os) (n : Nat) : M4 w0 (W.drewN n) g xs us ss os := ⟨⟨h.m.x, h.m.u, h.m.s, pw_below_drewN h.m.bel n⟩, h.o⟩
def refThere (k : Nat) (x2 : Bool) (x3 u2 : ByteArray) : Option Bool := if x2 = true then pursuivantref05_Under.f k u2 x3 else some (u2.toList == x3.toList)
def refPo11 (x4 o2 d : Int) (u0 : ByteArray) : Bool := decide (x4 = -1 ∨ x4 = 0 ∧ o2 = d ∨ x4 = o2 ∨ x4 = 80 ∧ o2 = 443 ∧ u0 = ⟨#[104, 116, 116, 112, 115]⟩)
def refTail (x5 u4 : ByteArray) (mv : Bool) : Bool := mv || (decide (x5.size = 0) || (decide (x5 = u4) || (bt x5 ((x5.size : Int) - 1) == 47 && (decide (x5.size < u4.size) && ((u4.extract 0 x5.size).toList == x5.toList)))))
def refOwn (o0 o1 : ByteArray) (o2 : Int) (s0 s1 : ByteArray) (s2 : Int) : Bool := decide (o1 = s1 ∧ s0 = ⟨#[104, 116, 116, 112]⟩ ∧ s2 = 80 ∧ o0 = ⟨#[104, 116, 116, 112, 115]⟩ ∧ o2 = 443)
theorem toL (x : ByteArray) (l : List UInt8) {y : ByteArray} (e : ba l = y) : (x.toList = l) ↔ x = y := ⟨fun h => by rw [← e, ← h]; exact (toList_inj'.1 (ba_list _)).symm, fun h => by rw [h, ← e, ba_list]⟩
theorem refOwn_eq (o0 o1 : ByteArray) (o2 : Int) (s0 s1 : ByteArray) (s2 : Int) : (decide (o1.toList = s1.toList) && (decide (s0.toList = [104, 116, 116, 112]) && (decide (s2 = 80) && (decide (o0.toList = [104, 116, 116, 112, 115]) && decide (o2 = 443))))) = refOwn o0 o1 o2 s0 s1 s2 := by
 unfold refOwn
 rw [Bool.eq_iff_iff]
 simp only [Bool.and_eq_true, decide_eq_true_iff, toList_inj', toL s0 [104, 116, 116, 112] (show ba [104, 116, 116, 112] = ⟨#[104, 116, 116, 112]⟩ from rfl), toL o0 [104, 116, 116, 112, 115] (show ba [104, 116, 116, 112, 115] = ⟨#[104, 116, 116, 112, 115]⟩ from rfl)]
def pursuivantref11_Match.f (k : Nat) (x0 : Int) (x1 : ByteArray) (x2 : Bool) (x3 : ByteArray) (x4 : Int) (x5 x6 u0 u1 u2 : ByteArray) (u3 : Int) (u4 : ByteArray) (u5 : Bool) (u6 : ByteArray) (u7 : Bool) (u8 s0 s1 : ByteArray) (s2 : Int) (mv : Bool) : Option Bool :=
 (pursuivantref08_Of.f k u0 u1 u2 u3 u4 u5 u6 u7 u8).bind fun o => if x0 = 1 then (pursuivantref08_Same.f k o.1 o.2.1 o.2.2 s0 s1 s2).bind fun b => some (b || refOwn o.1 o.2.1 o.2.2 s0 s1 s2) else
 if x0 = 2 then some true else if x0 = 3 then pursuivantref11_Goes.f x1 u0 else if x0 = 5 then some false else
 (pursuivantref11_Goes.f (if x1.toList = [] then s0 else x1) u0).bind fun g => if g = true then (refThere k x2 x3 u2).bind fun t => if t = true then
  (pursuivantref05_Default.f u0).bind fun d => if refPo11 x4 o.2.2 d u0 = true then (if x5.size ≤ 9223372036854775806 then (if u4.size ≤ 9223372036854775806 then some (refTail x5 u4 mv) else none) else none) else some false else some false else some false
set_option maxRecDepth 100000 in
set_option maxHeartbeats 8000000 in
theorem refMatch_few (k : Nat) (x0 : Int) (x1 : ByteArray) (x2 : Bool) (x3 : ByteArray) (x4 : Int) (x5 x6 u0 u1 u2 : ByteArray) (u3 : Int) (u4 : ByteArray) (u5 : Bool) (u6 : ByteArray) (u7 : Bool) (u8 s0 s1 : ByteArray) (s2 : Int) (mv : Bool) (r : Bool) (w : World) (hG_ : GW w) (hk : x0 = 1 ∨ x0 = 2 ∨ x0 = 3 ∨ x0 = 5) (h : pursuivantref11_Match.f k x0 x1 x2 x3 x4 x5 x6 u0 u1 u2 u3 u4 u5 u6 u7 u8 s0 s1 s2 mv = some r) :
  Calls Tryz.prog 18 #[.agg #[.int .i64 x0, .string x1, .bool x2, .string x3, .int .i64 x4, .string x5, .string x6], .agg #[.string u0, .string u1, .string u2, .int .i64 u3, .string u4, .bool u5, .string u6, .bool u7, .string u8], .agg #[.string s0, .string s1, .int .i64 s2], .bool mv] w fun e w' => e = .returned (.bool r) ∧ Below w.heap.size w w' := by
 have huX := Tryz.underlying23
 have huU := Tryz.underlying30
 have huS := Tryz.underlying32
 have H3 := Lib.hid (M3.start w #[.int .i64 x0, .string x1, .bool x2, .string x3, .int .i64 x4, .string x5, .string x6] #[.string u0, .string u1, .string u2, .int .i64 u3, .string u4, .bool u5, .string u6, .bool u7, .string u8] #[.string s0, .string s1, .int .i64 s2])
 unfold pursuivantref11_Match.f at h
 cases hof : pursuivantref08_Of.f k u0 u1 u2 u3 u4 u5 u6 u7 u8 with
 | none => rw [hof] at h; cases h
 | some oo =>
  obtain ⟨o0, o1, o2⟩ := oo
  rw [hof, Option.bind_some] at h
  simp only at h
  have HO := fun W hW => Lib.hid (pursuivantref08_Of.calls k u0 u1 u2 u3 u4 u5 u6 u7 u8 o0 o1 o2 W hW hof)
  have HH := Lib.hid h
  clear h hof
  go_enter Tryz.func18, Tryz.ntmps18
  go_wp2_with fail
  refine (HO _ (hG_.below H3.out.bel)).out.mono ?_
  rintro e w1 ⟨rfl, hb1⟩
  replace H3 := Lib.hid (H3.out.below hb1)
  have HM : Hid (M4 w (w1.alloc (.cells #[.string o0, .string o1, .int .i64 o2] 32)) w1.heap.size #[.int .i64 x0, .string x1, .bool x2, .string x3, .int .i64 x4, .string x5, .string x6] #[.string u0, .string u1, .string u2, .int .i64 u3, .string u4, .bool u5, .string u6, .bool u7, .string u8] #[.string s0, .string s1, .int .i64 s2] #[.string o0, .string o1, .int .i64 o2]) := Lib.hid ⟨H3.out.below (below_alloc (Below.refl _ _) _), blk_new _ _⟩
  obtain ⟨a0, a1, a2, a3, a4, a5, a6⟩ := src_cells HM.out.m.x
  have h := HH.out
  clear HH HO hb1 H3
  by_cases k1 : x0 = 1
  ·rw [if_pos k1] at h
   subst k1
   cases hs : pursuivantref08_Same.f k o0 o1 o2 s0 s1 s2 with
   | none => rw [hs] at h; cases h
   | some b =>
    rw [hs, Option.bind_some] at h
    have HS := fun W hW => Lib.hid (pursuivantref08_Same.calls k o0 o1 o2 s0 s1 s2 b W hW hs)
    have HR := Lib.hid (Option.some.inj h)
    clear h hs
    obtain ⟨⟨y0, y1, y2⟩, z0, z1, z2⟩ := And.intro (ori_cells HM.out.m.s) (ori_cells HM.out.o)
    go_wp2_with fail
    refine (HS _ (hG_.below HM.out.m.bel)).out.mono ?_
    rintro e w2 ⟨rfl, hd⟩
    replace HM := Lib.hid (HM.out.below hd)
    clear hd HS
    clear a0 a1 a2 a3 a4 a5 a6
    clear y0 y1 y2 z0 z1 z2
    obtain ⟨⟨y0, y1, y2⟩, z0, z1, z2⟩ := And.intro (ori_cells HM.out.m.s) (ori_cells HM.out.o)
    cases b with
    | true =>
     obtain rfl := HR.out
     go_wp2
     go_ret
     exact ⟨rfl, HM.out.m.bel⟩
    | false =>
     have FIN := Lib.hid ((refOwn_eq o0 o1 o2 s0 s1 s2).trans ((Bool.false_or _).symm.trans HR.out))
     clear HR
     go_wp2
     all_goals go_ret
     all_goals refine ⟨?_, HM.out.m.bel⟩
     all_goals rw [← FIN.out]
     all_goals first | (simp [*]; done) | (simp [*]; rfl)
  rw [if_neg k1] at h
  have b1 : (x0 == 1) = false := beq_eq_false_iff_ne.mpr k1
  clear k1
  by_cases k2 : x0 = 2
  ·rw [if_pos k2] at h
   subst k2
   obtain rfl := Option.some.inj h
   clear h
   go_wp2
   go_ret
   exact ⟨rfl, HM.out.m.bel⟩
  rw [if_neg k2] at h
  have b2 : (x0 == 2) = false := beq_eq_false_iff_ne.mpr k2
  clear k2
  obtain ⟨d0, d1, d2, d3, d4, d5, d6, d7, d8⟩ := url_cells HM.out.m.u
  by_cases k3 : x0 = 3
  ·rw [if_pos k3] at h
   subst k3
   have HC := fun W hW => Lib.hid (pursuivantref11_Goes.calls x1 u0 r W hW h)
   clear h
   go_wp2_with fail
   refine (HC _ (hG_.below HM.out.m.bel)).out.mono ?_
   rintro e w2 ⟨rfl, hd⟩
   replace HM := Lib.hid (HM.out.below hd.below)
   clear hd HC
   clear a0 a1 a2 a3 a4 a5 a6 d0 d1 d2 d3 d4 d5 d6 d7 d8
   go_wp2
   go_ret
   exact ⟨rfl, HM.out.m.bel⟩
  rw [if_neg k3] at h
  have b3 : (x0 == 3) = false := beq_eq_false_iff_ne.mpr k3
  clear k3
  by_cases k5 : x0 = 5
  ·rw [if_pos k5] at h
   subst k5
   obtain rfl := Option.some.inj h
   clear h
   go_wp2
   go_ret
   exact ⟨rfl, HM.out.m.bel⟩
  rw [if_neg k5] at h
  have b5 : (x0 == 5) = false := beq_eq_false_iff_ne.mpr k5
  clear k5
  exfalso
  rcases hk with q | q | q | q <;> subst q
  ·exact absurd b1 (by decide)
  ·exact absurd b2 (by decide)
  ·exact absurd b3 (by decide)
  ·exact absurd b5 (by decide)
end Go.Proofs.YteemgpciheheoaaGreatDoorRRR.Hand
