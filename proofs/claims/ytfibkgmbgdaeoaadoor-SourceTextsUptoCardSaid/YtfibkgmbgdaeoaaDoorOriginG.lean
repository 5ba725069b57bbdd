/- origin.Good, origin.Text, origin.Same: what their walks give. Condition: as in the functions that they call. -/
import Derived.Test.YtfibkgmbgdaeoaaDoorFU1
import Derived.Test.YtfibkgmbgdaeoaaDoorPlain
import Derived.Deep.QuietTactic
import Derived.BigQuiet
namespace Go.Proofs.YtfibkgmbgdaeoaaDoor.Hand
open Go.RowKit Go.Proofs.YtfibkgmbgdaeoaaDoorW.PrintWords Go.Proofs.YtfibkgmbgdaeoaaDoorW.PrintLast Go.Proofs.YtfibkgmbgdaeoaaDoorW.PrintMore
set_option linter.unusedVariables false
set_option linter.unusedSimpArgs false

def nobody (s h : ByteArray) (p : Int) : Bool := decide (s = ⟨#[]⟩ ∧ h = ⟨#[]⟩ ∧ p = 0)
def origin_Good.f (k : Nat) (a0 a1 : ByteArray) (a2 : Int) : Option Bool := if nobody a0 a1 a2 = true then some true else if a2 = 0 then some false else
 (origin_bare.f a0 a1 a2).bind fun u => url_Good.f k u.1 u.2.1 u.2.2.1 u.2.2.2.1 u.2.2.2.2.1 u.2.2.2.2.2.1 u.2.2.2.2.2.2.1 u.2.2.2.2.2.2.2.1 u.2.2.2.2.2.2.2.2
def origin_Same.f (k : Nat) (a0 a1 : ByteArray) (a2 : Int) (b0 b1 : ByteArray) (b2 : Int) : Option Bool := if nobody a0 a1 a2 = true then some false else (origin_Good.f k a0 a1 a2).bind fun g => if g = true then some (decide (a0 = b0 ∧ a1 = b1 ∧ a2 = b2)) else some false
theorem bindLe' {α β : Type} {g g' : Option α} {f f' : α → Option β} (h : LeO g g') (hf : ∀ a, LeO (f a) (f' a)) : LeO (g.bind f) (g'.bind f') := by
 intro r hr
 obtain ⟨a, ha, hb⟩ := Option.bind_eq_some_iff.1 hr
 rw [h a ha]
 exact hf a r hb
theorem iteLe' {α : Type} {c : Prop} [Decidable c] {g g' f f' : Option α} (h : LeO g g') (hf : LeO f f') : LeO (if c then g else f) (if c then g' else f') := by
 split
 ·exact h
 ·exact hf
theorem reflLe' {α : Type} (g : Option α) : LeO g g := fun _ h => h
theorem nobody_cases (s h : ByteArray) (p : Int) (hn : nobody s h p = false) : (s.toList == ([] : List UInt8)) = false ∧ s.toList.isEmpty = false ∨ s = ⟨#[]⟩ ∧ (h.toList == ([] : List UInt8)) = false ∧ h.toList.isEmpty = false ∨ s = ⟨#[]⟩ ∧ h = ⟨#[]⟩ ∧ (p == 0) = false := by
 have ne : ∀ x : ByteArray, x ≠ ⟨#[]⟩ → (x.toList == ([] : List UInt8)) = false ∧ x.toList.isEmpty = false := fun x hx => by
  have : x.toList ≠ [] := fun e => hx (toList_inj'.1 (e.trans (by decide +kernel)))
  exact ⟨beq_eq_false_iff_ne.mpr this, by rw [← nil_beq]; exact beq_eq_false_iff_ne.mpr this⟩
 unfold nobody at hn
 rw [decide_eq_false_iff_not] at hn
 by_cases c : s = ⟨#[]⟩
 ·by_cases c2 : h = ⟨#[]⟩
  ·exact .inr (.inr ⟨c, c2, beq_eq_false_iff_ne.mpr fun e => hn ⟨c, c2, e⟩⟩)
  ·exact .inr (.inl ⟨c, ne _ c2⟩)
 ·exact .inl (ne _ c)

set_option maxRecDepth 100000 in
set_option maxHeartbeats 4000000 in
theorem origin_Good.calls (k : Nat) (a0 a1 : ByteArray) (a2 : Int) (r : Bool) (w : World) (hG_ : GW w) (h : origin_Good.f k a0 a1 a2 = some r) :
  Calls Tryd.prog 63 #[.agg #[.string a0, .string a1, .int .i64 a2]] w fun e w' => e = .returned (.bool r) ∧ Below w.heap.size w w' := by
 have hu := Tryd.underlying34
 unfold origin_Good.f at h
 cases hn : nobody a0 a1 a2 with
 | true =>
  rw [hn, if_pos rfl] at h
  obtain rfl := Option.some.inj h
  unfold nobody at hn
  obtain ⟨rfl, rfl, rfl⟩ := of_decide_eq_true hn
  clear hn h
  go_enter Tryd.func63, Tryd.ntmps63
  go_wp2
  go_ret
  exact ⟨rfl, below_alloc (Below.refl _ _) _⟩
 | false =>
  rw [hn, if_neg (by simp)] at h
  by_cases c : a2 = 0
  ·rw [if_pos c] at h
   obtain rfl := Option.some.inj h
   rcases nobody_cases a0 a1 a2 hn with ⟨x1, x2⟩ | ⟨rfl, x1, x2⟩ | ⟨rfl, rfl, x1⟩
   ·clear h hn
    subst c
    go_enter Tryd.func63, Tryd.ntmps63
    go_wp2
    go_ret
    exact ⟨rfl, below_alloc (Below.refl _ _) _⟩
   ·clear h hn
    subst c
    go_enter Tryd.func63, Tryd.ntmps63
    go_wp2
    go_ret
    exact ⟨rfl, below_alloc (Below.refl _ _) _⟩
   ·rw [beq_iff_eq.mpr c] at x1; cases x1
  ·rw [if_neg c] at h
   have cb : (a2 != 0) = true := bne_iff_ne.mpr c
   cases hb : origin_bare.f a0 a1 a2 with
   | none => rw [hb] at h; cases h
   | some u =>
    rw [hb, Option.bind_some] at h
    obtain ⟨u0, u1, u2, u3, u4, u5, u6, u7, u8⟩ := u
    simp only at h
    have HB := fun W hW => Lib.hid (origin_bare.calls a0 a1 a2 u0 u1 u2 u3 u4 u5 u6 u7 u8 W hW hb)
    have HG := fun W hW => Lib.hid (url_Good.calls k u0 u1 u2 u3 u4 u5 u6 u7 u8 r W hW h)
    clear h hb c
    rcases nobody_cases a0 a1 a2 hn with ⟨x1, x2⟩ | ⟨rfl, x1, x2⟩ | ⟨rfl, rfl, x1⟩
    ·clear hn
     go_enter Tryd.func63, Tryd.ntmps63
     go_wp2_with fail
     refine (HB _ (hG_.below (below_alloc (Below.refl _ _) _))).out.mono ?_
     rintro e w1 ⟨rfl, hb1⟩
     have hb2 := Lib.hid (below_then (below_alloc (Below.refl w.heap.size w) _) (below_size (below_alloc (Below.refl w.heap.size w) _)) hb1)
     clear hb1 HB
     go_wp2_with fail
     refine (HG _ (hG_.below hb2.out)).out.mono ?_
     rintro e w2 ⟨rfl, hb3⟩
     have hb4 := Lib.hid (below_then hb2.out (below_size hb2.out) hb3)
     clear hb3 HG hb2
     go_wp2
     go_ret
     exact ⟨rfl, hb4.out⟩
    ·clear hn
     go_enter Tryd.func63, Tryd.ntmps63
     go_wp2_with fail
     refine (HB _ (hG_.below (below_alloc (Below.refl _ _) _))).out.mono ?_
     rintro e w1 ⟨rfl, hb1⟩
     have hb2 := Lib.hid (below_then (below_alloc (Below.refl w.heap.size w) _) (below_size (below_alloc (Below.refl w.heap.size w) _)) hb1)
     clear hb1 HB
     go_wp2_with fail
     refine (HG _ (hG_.below hb2.out)).out.mono ?_
     rintro e w2 ⟨rfl, hb3⟩
     have hb4 := Lib.hid (below_then hb2.out (below_size hb2.out) hb3)
     clear hb3 HG hb2
     go_wp2
     go_ret
     exact ⟨rfl, hb4.out⟩
    ·clear hn
     go_enter Tryd.func63, Tryd.ntmps63
     go_wp2_with fail
     refine (HB _ (hG_.below (below_alloc (Below.refl _ _) _))).out.mono ?_
     rintro e w1 ⟨rfl, hb1⟩
     have hb2 := Lib.hid (below_then (below_alloc (Below.refl w.heap.size w) _) (below_size (below_alloc (Below.refl w.heap.size w) _)) hb1)
     clear hb1 HB
     go_wp2_with fail
     refine (HG _ (hG_.below hb2.out)).out.mono ?_
     rintro e w2 ⟨rfl, hb3⟩
     have hb4 := Lib.hid (below_then hb2.out (below_size hb2.out) hb3)
     clear hb3 HG hb2
     go_wp2
     go_ret
     exact ⟨rfl, hb4.out⟩

set_option maxRecDepth 100000 in
set_option maxHeartbeats 4000000 in
theorem origin_Same.calls (k : Nat) (a0 a1 : ByteArray) (a2 : Int) (b0 b1 : ByteArray) (b2 : Int) (r : Bool) (w : World) (hG_ : GW w) (h : origin_Same.f k a0 a1 a2 b0 b1 b2 = some r) :
  Calls Tryd.prog 48 #[.agg #[.string a0, .string a1, .int .i64 a2], .agg #[.string b0, .string b1, .int .i64 b2]] w fun e w' => e = .returned (.bool r) ∧ Below w.heap.size w w' := by
 have hu := Tryd.underlying34
 unfold origin_Same.f at h
 have bel0 := Lib.hid (below_alloc (below_alloc (Below.refl w.heap.size w) (.cells #[.string a0, .string a1, .int .i64 a2] 34)) (.cells #[.string b0, .string b1, .int .i64 b2] 34))
 cases hn : nobody a0 a1 a2 with
 | true =>
  rw [hn, if_pos rfl] at h
  obtain rfl := Option.some.inj h
  unfold nobody at hn
  obtain ⟨rfl, rfl, rfl⟩ := of_decide_eq_true hn
  clear hn h
  go_enter Tryd.func48, Tryd.ntmps48
  go_wp2
  go_ret
  exact ⟨rfl, bel0.out⟩
 | false =>
  rw [hn, if_neg (by simp)] at h
  cases hgd : origin_Good.f k a0 a1 a2 with
  | none => rw [hgd] at h; cases h
  | some g =>
   rw [hgd, Option.bind_some] at h
   have HGD := fun W hW => Lib.hid (origin_Good.calls k a0 a1 a2 g W hW hgd)
   clear hgd
   cases g with
   | false =>
    rw [if_neg (by simp)] at h
    obtain rfl := Option.some.inj h
    rcases nobody_cases a0 a1 a2 hn with ⟨x1, x2⟩ | ⟨rfl, x1, x2⟩ | ⟨rfl, rfl, x1⟩
    ·clear hn h
     go_enter Tryd.func48, Tryd.ntmps48
     go_wp2_with fail
     refine (HGD _ (hG_.below bel0.out)).out.mono ?_
     rintro e w1 ⟨rfl, hb1⟩
     have hb2 := Lib.hid (below_then bel0.out (below_size bel0.out) hb1)
     clear hb1 HGD
     go_wp2
     go_ret
     exact ⟨rfl, hb2.out⟩
    ·clear hn h
     go_enter Tryd.func48, Tryd.ntmps48
     go_wp2_with fail
     refine (HGD _ (hG_.below bel0.out)).out.mono ?_
     rintro e w1 ⟨rfl, hb1⟩
     have hb2 := Lib.hid (below_then bel0.out (below_size bel0.out) hb1)
     clear hb1 HGD
     go_wp2
     go_ret
     exact ⟨rfl, hb2.out⟩
    ·clear hn h
     go_enter Tryd.func48, Tryd.ntmps48
     go_wp2_with fail
     refine (HGD _ (hG_.below bel0.out)).out.mono ?_
     rintro e w1 ⟨rfl, hb1⟩
     have hb2 := Lib.hid (below_then bel0.out (below_size bel0.out) hb1)
     clear hb1 HGD
     go_wp2
     go_ret
     exact ⟨rfl, hb2.out⟩
   | true =>
    rw [if_pos rfl] at h
    obtain rfl := Option.some.inj h
    have fin : (decide (a0.toList = b0.toList) && (decide (a1.toList = b1.toList) && decide (a2 = b2))) = decide (a0 = b0 ∧ a1 = b1 ∧ a2 = b2) := by
     rw [Bool.eq_iff_iff]
     simp only [Bool.and_eq_true, decide_eq_true_iff, toList_inj']
    rcases nobody_cases a0 a1 a2 hn with ⟨x1, x2⟩ | ⟨rfl, x1, x2⟩ | ⟨rfl, rfl, x1⟩
    ·clear hn h
     have FIN := Lib.hid fin
     clear fin
     go_enter Tryd.func48, Tryd.ntmps48
     go_wp2_with fail
     refine (HGD _ (hG_.below bel0.out)).out.mono ?_
     rintro e w1 ⟨rfl, hb1⟩
     have hb2 := Lib.hid (below_then bel0.out (below_size bel0.out) hb1)
     have hk := Lib.hid ((hb1.block w.heap.size (by simp only [World.size_alloc]; omega)).trans ((Below.heap_alloc _ _ _ (by simp)).trans (heap_alloc_new w (.cells #[.string a0, .string a1, .int .i64 a2] 34))))
     have hk2 := Lib.hid ((hb1.block (w.alloc (.cells #[.string a0, .string a1, .int .i64 a2] 34)).heap.size (by simp)).trans (heap_alloc_new (w.alloc (.cells #[.string a0, .string a1, .int .i64 a2] 34)) (.cells #[.string b0, .string b1, .int .i64 b2] 34)))
     have z0 := (blk_cell hk.out 0).trans rfl
     have z1 := (blk_cell hk.out 1).trans rfl
     have z2 := (blk_cell hk.out 2).trans rfl
     have y0 := (blk_cell hk2.out 0).trans rfl
     have y1 := (blk_cell hk2.out 1).trans rfl
     have y2 := (blk_cell hk2.out 2).trans rfl
     clear hb1 HGD hk hk2
     simp only [List.getElem?_toArray, List.getElem?_cons_zero, List.getElem?_cons_succ, World.size_alloc] at z0 z1 z2 y0 y1 y2
     go_wp2
     all_goals go_ret
     all_goals refine ⟨?_, hb2.out⟩
     all_goals rw [← FIN.out]
     all_goals simp [*]
    ·clear hn h
     have FIN := Lib.hid fin
     clear fin
     go_enter Tryd.func48, Tryd.ntmps48
     go_wp2_with fail
     refine (HGD _ (hG_.below bel0.out)).out.mono ?_
     rintro e w1 ⟨rfl, hb1⟩
     have hb2 := Lib.hid (below_then bel0.out (below_size bel0.out) hb1)
     have hk := Lib.hid ((hb1.block w.heap.size (by simp only [World.size_alloc]; omega)).trans ((Below.heap_alloc _ _ _ (by simp)).trans (heap_alloc_new w (.cells #[.string ⟨#[]⟩, .string a1, .int .i64 a2] 34))))
     have hk2 := Lib.hid ((hb1.block (w.alloc (.cells #[.string ⟨#[]⟩, .string a1, .int .i64 a2] 34)).heap.size (by simp)).trans (heap_alloc_new (w.alloc (.cells #[.string ⟨#[]⟩, .string a1, .int .i64 a2] 34)) (.cells #[.string b0, .string b1, .int .i64 b2] 34)))
     have z0 := (blk_cell hk.out 0).trans rfl
     have z1 := (blk_cell hk.out 1).trans rfl
     have z2 := (blk_cell hk.out 2).trans rfl
     have y0 := (blk_cell hk2.out 0).trans rfl
     have y1 := (blk_cell hk2.out 1).trans rfl
     have y2 := (blk_cell hk2.out 2).trans rfl
     clear hb1 HGD hk hk2
     simp only [List.getElem?_toArray, List.getElem?_cons_zero, List.getElem?_cons_succ, World.size_alloc] at z0 z1 z2 y0 y1 y2
     go_wp2
     all_goals go_ret
     all_goals refine ⟨?_, hb2.out⟩
     all_goals rw [← FIN.out]
     all_goals simp [*]
    ·clear hn h
     have FIN := Lib.hid fin
     clear fin
     go_enter Tryd.func48, Tryd.ntmps48
     go_wp2_with fail
     refine (HGD _ (hG_.below bel0.out)).out.mono ?_
     rintro e w1 ⟨rfl, hb1⟩
     have hb2 := Lib.hid (below_then bel0.out (below_size bel0.out) hb1)
     have hk := Lib.hid ((hb1.block w.heap.size (by simp only [World.size_alloc]; omega)).trans ((Below.heap_alloc _ _ _ (by simp)).trans (heap_alloc_new w (.cells #[.string ⟨#[]⟩, .string ⟨#[]⟩, .int .i64 a2] 34))))
     have hk2 := Lib.hid ((hb1.block (w.alloc (.cells #[.string ⟨#[]⟩, .string ⟨#[]⟩, .int .i64 a2] 34)).heap.size (by simp)).trans (heap_alloc_new (w.alloc (.cells #[.string ⟨#[]⟩, .string ⟨#[]⟩, .int .i64 a2] 34)) (.cells #[.string b0, .string b1, .int .i64 b2] 34)))
     have z0 := (blk_cell hk.out 0).trans rfl
     have z1 := (blk_cell hk.out 1).trans rfl
     have z2 := (blk_cell hk.out 2).trans rfl
     have y0 := (blk_cell hk2.out 0).trans rfl
     have y1 := (blk_cell hk2.out 1).trans rfl
     have y2 := (blk_cell hk2.out 2).trans rfl
     clear hb1 HGD hk hk2
     simp only [List.getElem?_toArray, List.getElem?_cons_zero, List.getElem?_cons_succ, World.size_alloc] at z0 z1 z2 y0 y1 y2
     go_wp2
     all_goals go_ret
     all_goals refine ⟨?_, hb2.out⟩
     all_goals rw [← FIN.out]
     all_goals simp [*]
end Go.Proofs.YtfibkgmbgdaeoaaDoor.Hand
