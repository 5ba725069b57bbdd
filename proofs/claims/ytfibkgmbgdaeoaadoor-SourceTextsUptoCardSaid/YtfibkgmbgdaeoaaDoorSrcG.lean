/- pursuivantref11.Good: what its walk gives. Condition: as in the functions that it calls. -/
import Derived.Test.YtfibkgmbgdaeoaaDoorSrcM
import Derived.Test.YtfibkgmbgdaeoaaDoorFS2
import Derived.Test.YtfibkgmbgdaeoaaDoorFS3
namespace Go.Proofs.YtfibkgmbgdaeoaaDoor.Hand
open Go.RowKit Go.Proofs.YtfibkgmbgdaeoaaDoorW.PrintWords Go.Proofs.YtfibkgmbgdaeoaaDoorW.PrintLast Go.Proofs.YtfibkgmbgdaeoaaDoorW.PrintMore
set_option linter.unusedVariables false
set_option linter.unusedSimpArgs false

attribute [local go_sem high] eqA23
structure M1 (w0 W : World) (xs : Array Value) : Prop where
 x : W.heap[w0.heap.size]? = some (.cells xs 23 (0, 0))
 bel : Below w0.heap.size w0 W
theorem M1.below {w0 W W' : World} {xs : Array Value} (h : M1 w0 W xs) (hb : Below W.heap.size W W') : M1 w0 W' xs where
 x := blk_below h.x hb
 bel := below_then h.bel (below_size h.bel) hb
def srcRest (k : Nat) (x4 : Int) (x5 x6 x3 : ByteArray) : Option Bool :=
 (pursuivantref05_Good.f k x3).bind fun g => if g = true then (if -1 ≤ x4 then (if x4 ≤ 65535 then (if x5.toList = [] then some x6.toList.isEmpty else (pursuivantref11_path.f k x5).bind fun p => if p = true then some x6.toList.isEmpty else some false) else some false) else some false) else some false
def pursuivantref11_Good.f (k : Nat) (x0 : Int) (x1 : ByteArray) (x2 : Bool) (x3 : ByteArray) (x4 : Int) (x5 x6 : ByteArray) : Option Bool :=
 if x0 = 1 then some (x1.toList.isEmpty && (!x2 && (x3.toList.isEmpty && (x4 == 0 && (x5.toList.isEmpty && x6.toList.isEmpty))))) else if x0 = 2 then some (x1.toList.isEmpty && (!x2 && (x3.toList.isEmpty && (x4 == 0 && (x5.toList.isEmpty && x6.toList.isEmpty))))) else
 if x0 = 3 then (if (!x2 && (x3.toList.isEmpty && (x4 == 0 && (x5.toList.isEmpty && x6.toList.isEmpty)))) = true then (pursuivantref05_Default.f x1).bind fun d => some (decide (0 < d)) else some false) else
 if x0 = 5 then (if (x1.toList.isEmpty && (!x2 && (x3.toList.isEmpty && (x4 == 0 && x5.toList.isEmpty)))) = true then pursuivantref11_nonce.f k x6 else some false) else
 if x0 = 4 then (if x1.toList = [] then srcRest k x4 x5 x6 x3 else (pursuivantref05_Default.f x1).bind fun d => if 0 < d then srcRest k x4 x5 x6 x3 else some false) else some false
theorem srcRest.mono : ∀ x4 x5 x6 x3 k, LeO (srcRest k x4 x5 x6 x3) (srcRest (k + 1) x4 x5 x6 x3) := by
 intro x4 x5 x6 x3 k
 unfold srcRest
 exact bindLe' (pursuivantref05_Good.mono _ k) (fun _ => iteLe' (iteLe' (iteLe' (iteLe' (reflLe' _) (bindLe' (pursuivantref11_path.mono _ k) (fun _ => reflLe' _))) (reflLe' _)) (reflLe' _)) (reflLe' _))
theorem isE {x : ByteArray} (h : x.toList.isEmpty = true) : x = ⟨#[]⟩ := toList_inj'.1 ((List.isEmpty_iff.1 h).trans (by decide +kernel))
set_option maxRecDepth 100000 in
set_option maxHeartbeats 8000000 in
theorem pursuivantref11_Good.calls (k : Nat) (x0 : Int) (x1 : ByteArray) (x2 : Bool) (x3 : ByteArray) (x4 : Int) (x5 x6 : ByteArray) (r : Bool) (w : World) (hG_ : GW w) (h : pursuivantref11_Good.f k x0 x1 x2 x3 x4 x5 x6 = some r) :
  Calls Tryd.prog 7 #[.agg #[.int .i64 x0, .string x1, .bool x2, .string x3, .int .i64 x4, .string x5, .string x6]] w fun e w' => e = .returned (.bool r) ∧ Below w.heap.size w w' := by
 have huX := Tryd.underlying23
 unfold pursuivantref11_Good.f at h
 by_cases k1 : x0 = 1
 ·rw [if_pos k1] at h
  subst k1
  have HR := Lib.hid (Option.some.inj h)
  clear h
  go_enter Tryd.func7, Tryd.ntmps7
  go_wp2
  go_ret
  exact ⟨by rw [← HR.out]; rfl, (by repeat (with_reducible first | exact Below.refl _ _ | apply below_alloc | apply pw_below_drewN | exact HQ.out | (refine Below.setCell (p := ⟨_, _, none⟩) ?_ (by simp; try omega) _)))⟩
 rw [if_neg k1] at h
 have b1 : (x0 == 1) = false := beq_eq_false_iff_ne.mpr k1
 clear k1
 by_cases k2 : x0 = 2
 ·rw [if_pos k2] at h
  subst k2
  have HR := Lib.hid (Option.some.inj h)
  clear h
  go_enter Tryd.func7, Tryd.ntmps7
  go_wp2
  go_ret
  exact ⟨by rw [← HR.out]; rfl, (by repeat (with_reducible first | exact Below.refl _ _ | apply below_alloc | apply pw_below_drewN | exact HQ.out | (refine Below.setCell (p := ⟨_, _, none⟩) ?_ (by simp; try omega) _)))⟩
 rw [if_neg k2] at h
 have b2 : (x0 == 2) = false := beq_eq_false_iff_ne.mpr k2
 clear k2
 have HQ := Lib.hid (Below.refl w.heap.size w)
 by_cases k3 : x0 = 3
 ·rw [if_pos k3] at h
  subst k3
  cases hB : (!x2 && (x3.toList.isEmpty && (x4 == 0 && (x5.toList.isEmpty && x6.toList.isEmpty)))) with
  | true =>
   rw [hB, if_pos rfl] at h
   cases hd : pursuivantref05_Default.f x1 with
   | none => rw [hd] at h; cases h
   | some d =>
    rw [hd, Option.bind_some] at h
    obtain rfl := Option.some.inj h
    have HC := fun W hW => Lib.hid (pursuivantref05_Default.calls x1 d W hW hd)
    clear h hd
    simp only [Bool.and_eq_true, Bool.not_eq_true', beq_iff_eq] at hB
    obtain ⟨rfl, h3, rfl, h5, h6⟩ := hB
    obtain rfl := isE h3
    obtain rfl := isE h5
    obtain rfl := isE h6
    clear h3 h5 h6
    go_enter Tryd.func7, Tryd.ntmps7
    go_wp2_with fail
    refine (HC _ (hG_.below (by repeat (with_reducible first | exact HQ.out | exact Below.refl _ _ | apply below_alloc | apply pw_below_drewN | apply below_drew | (refine Below.setCell (p := ⟨_, _, none⟩) ?_ (by simp; try omega) _))))).out.mono ?_
    rintro e w1 ⟨rfl, hd⟩
    have HQ2 := hd.below
    have HQ3 := Lib.hid (below_then (B := w.heap.size) (w := w) (by repeat (with_reducible first | exact HQ.out | exact Below.refl _ _ | apply below_alloc | apply pw_below_drewN | apply below_drew | (refine Below.setCell (p := ⟨_, _, none⟩) ?_ (by simp; try omega) _))) (below_size (by repeat (with_reducible first | exact HQ.out | exact Below.refl _ _ | apply below_alloc | apply pw_below_drewN | apply below_drew | (refine Below.setCell (p := ⟨_, _, none⟩) ?_ (by simp; try omega) _)))) HQ2)
    clear hd HC HQ HQ2
    have HQ := HQ3
    clear HQ3
    go_wp2
    go_ret
    exact ⟨rfl, by repeat (with_reducible first | exact HQ.out | exact Below.refl _ _ | apply below_alloc | apply pw_below_drewN | apply below_drew | (refine Below.setCell (p := ⟨_, _, none⟩) ?_ (by simp; try omega) _))⟩
  | false =>
   rw [hB, if_neg (by simp)] at h
   obtain rfl := Option.some.inj h
   clear h
   have hp : ¬(x2 = false ∧ x3.toList = [] ∧ x4 = 0 ∧ x5.toList = [] ∧ x6.toList = []) := by rintro h; simp [h] at hB
   go_enter Tryd.func7, Tryd.ntmps7
   go_wp2
   go_ret
   exact ⟨rfl, by repeat (with_reducible first | exact HQ.out | exact Below.refl _ _ | apply below_alloc | apply pw_below_drewN | apply below_drew | (refine Below.setCell (p := ⟨_, _, none⟩) ?_ (by simp; try omega) _))⟩
 rw [if_neg k3] at h
 have b3 : (x0 == 3) = false := beq_eq_false_iff_ne.mpr k3
 clear k3
 by_cases k5 : x0 = 5
 ·rw [if_pos k5] at h
  subst k5
  cases hB : (x1.toList.isEmpty && (!x2 && (x3.toList.isEmpty && (x4 == 0 && x5.toList.isEmpty)))) with
  | true =>
   rw [hB, if_pos rfl] at h
   have HC := fun W hW => Lib.hid (pursuivantref11_nonce.calls k x6 r W hW h)
   clear h
   simp only [Bool.and_eq_true, Bool.not_eq_true', beq_iff_eq] at hB
   obtain ⟨h1, rfl, h3, rfl, h5⟩ := hB
   obtain rfl := isE h1
   obtain rfl := isE h3
   obtain rfl := isE h5
   clear h1 h3 h5
   go_enter Tryd.func7, Tryd.ntmps7
   go_wp2_with fail
   refine (HC _ (hG_.below (by repeat (with_reducible first | exact HQ.out | exact Below.refl _ _ | apply below_alloc | apply pw_below_drewN | apply below_drew | (refine Below.setCell (p := ⟨_, _, none⟩) ?_ (by simp; try omega) _))))).out.mono ?_
   rintro e w1 ⟨rfl, hd⟩
   have HQ2 := hd.below
   have HQ3 := Lib.hid (below_then (B := w.heap.size) (w := w) (by repeat (with_reducible first | exact HQ.out | exact Below.refl _ _ | apply below_alloc | apply pw_below_drewN | apply below_drew | (refine Below.setCell (p := ⟨_, _, none⟩) ?_ (by simp; try omega) _))) (below_size (by repeat (with_reducible first | exact HQ.out | exact Below.refl _ _ | apply below_alloc | apply pw_below_drewN | apply below_drew | (refine Below.setCell (p := ⟨_, _, none⟩) ?_ (by simp; try omega) _)))) HQ2)
   clear hd HC HQ HQ2
   have HQ := HQ3
   clear HQ3
   go_wp2
   go_ret
   exact ⟨rfl, by repeat (with_reducible first | exact HQ.out | exact Below.refl _ _ | apply below_alloc | apply pw_below_drewN | apply below_drew | (refine Below.setCell (p := ⟨_, _, none⟩) ?_ (by simp; try omega) _))⟩
  | false =>
   rw [hB, if_neg (by simp)] at h
   obtain rfl := Option.some.inj h
   clear h
   have hp : ¬(x1.toList = [] ∧ x2 = false ∧ x3.toList = [] ∧ x4 = 0 ∧ x5.toList = []) := by rintro h; simp [h] at hB
   go_enter Tryd.func7, Tryd.ntmps7
   go_wp2
   go_ret
   exact ⟨rfl, by repeat (with_reducible first | exact HQ.out | exact Below.refl _ _ | apply below_alloc | apply pw_below_drewN | apply below_drew | (refine Below.setCell (p := ⟨_, _, none⟩) ?_ (by simp; try omega) _))⟩
 rw [if_neg k5] at h
 have b5 : (x0 == 5) = false := beq_eq_false_iff_ne.mpr k5
 clear k5
 by_cases k4 : x0 = 4
 ·rw [if_pos k4] at h
  subst k4
  clear HQ b1 b2 b3 b5
  have HM : Hid (M1 w ((w.alloc (.cells #[.int .i64 4, .string x1, .bool x2, .string x3, .int .i64 x4, .string x5, .string x6] 23)).alloc (.cells #[.int .i64 4, .string ⟨#[]⟩, .bool false, .string ⟨#[]⟩, .int .i64 0, .string ⟨#[]⟩, .string ⟨#[]⟩] 23)) #[.int .i64 4, .string x1, .bool x2, .string x3, .int .i64 x4, .string x5, .string x6]) := Lib.hid ⟨blk_alloc (blk_new w _) _, below_alloc (below_alloc (Below.refl _ _) _) _⟩
  by_cases c0 : x1.toList = []
  ·rw [if_pos c0] at h
   have e5 : (x1.toList == ([] : List UInt8)) = true := beq_iff_eq.mpr c0
   have e6 : x1.toList.isEmpty = true := by rw [← nil_beq]; exact e5
   clear c0
   go_enter Tryd.func7, Tryd.ntmps7
   unfold srcRest at h
   cases hg : pursuivantref05_Good.f k x3 with
   | none => rw [hg] at h; cases h
   | some g =>
    rw [hg, Option.bind_some] at h
    have HC := fun W hW => Lib.hid (pursuivantref05_Good.calls k x3 g W hW hg)
    have HH := Lib.hid h
    clear h hg
    go_wp2_with fail
    refine (HC _ (hG_.below HM.out.bel)).out.mono ?_
    rintro e w1 ⟨rfl, hd⟩
    replace HM := Lib.hid (HM.out.below hd.below)
    clear hd HC
    try clear a0 a1 a2 a3 a4 a5 a6
    have h := HH.out
    clear HH
    obtain ⟨a0, a1, a2, a3, a4, a5, a6⟩ := src_cells HM.out.x
    cases g with
    | false =>
     obtain rfl := Option.some.inj h
     clear h
     go_wp2
     go_ret
     exact ⟨rfl, HM.out.bel⟩
    | true =>
     rw [if_pos rfl] at h
     by_cases c1 : -1 ≤ x4
     ·rw [if_pos c1] at h
      have e1 : decide (-1 ≤ x4) = true := decide_eq_true c1
      by_cases c2 : x4 ≤ 65535
      ·rw [if_pos c2] at h
       have e2 : decide (x4 ≤ 65535) = true := decide_eq_true c2
       clear c1 c2
       by_cases c3 : x5.toList = []
       ·rw [if_pos c3] at h
        have e3 : (x5.toList == ([] : List UInt8)) = true := beq_iff_eq.mpr c3
        have e4 : x5.toList.isEmpty = true := by rw [← nil_beq]; exact e3
        have HR := Lib.hid (Option.some.inj h)
        clear c3 h
        go_wp2
        go_ret
        exact ⟨by rw [← HR.out]; rfl, HM.out.bel⟩
       ·rw [if_neg c3] at h
        have e3 : (x5.toList == ([] : List UInt8)) = false := beq_eq_false_iff_ne.mpr c3
        have e4 : x5.toList.isEmpty = false := by rw [← nil_beq]; exact e3
        cases hp : pursuivantref11_path.f k x5 with
        | none => rw [hp] at h; cases h
        | some p =>
         rw [hp, Option.bind_some] at h
         have HC := fun W hW => Lib.hid (pursuivantref11_path.calls k x5 p W hW hp)
         have HH := Lib.hid h
         clear h hp c3
         go_wp2_with fail
         refine (HC _ (hG_.below HM.out.bel)).out.mono ?_
         rintro e w1 ⟨rfl, hd⟩
         replace HM := Lib.hid (HM.out.below hd)
         clear hd HC
         clear a0 a1 a2 a3 a4 a5 a6
         have h := HH.out
         clear HH
         obtain ⟨a0, a1, a2, a3, a4, a5, a6⟩ := src_cells HM.out.x
         cases p with
         | true =>
          have HR := Lib.hid (Option.some.inj h)
          clear h
          go_wp2
          go_ret
          exact ⟨by rw [← HR.out]; rfl, HM.out.bel⟩
         | false =>
          obtain rfl := Option.some.inj h
          clear h
          go_wp2
          go_ret
          exact ⟨rfl, HM.out.bel⟩
      ·rw [if_neg c2] at h
       have e2 : decide (x4 ≤ 65535) = false := decide_eq_false c2
       obtain rfl := Option.some.inj h
       clear c1 c2 h
       go_wp2
       go_ret
       exact ⟨rfl, HM.out.bel⟩
     ·rw [if_neg c1] at h
      have e1 : decide (-1 ≤ x4) = false := decide_eq_false c1
      obtain rfl := Option.some.inj h
      clear c1 h
      go_wp2
      go_ret
      exact ⟨rfl, HM.out.bel⟩
  ·rw [if_neg c0] at h
   have e5 : (x1.toList == ([] : List UInt8)) = false := beq_eq_false_iff_ne.mpr c0
   have e6 : x1.toList.isEmpty = false := by rw [← nil_beq]; exact e5
   clear c0
   cases hd : pursuivantref05_Default.f x1 with
   | none => rw [hd] at h; cases h
   | some d =>
    rw [hd, Option.bind_some] at h
    have HC := fun W hW => Lib.hid (pursuivantref05_Default.calls x1 d W hW hd)
    have HH := Lib.hid h
    clear h hd
    go_enter Tryd.func7, Tryd.ntmps7
    go_wp2_with fail
    refine (HC _ (hG_.below HM.out.bel)).out.mono ?_
    rintro e w1 ⟨rfl, hd⟩
    replace HM := Lib.hid (HM.out.below hd.below)
    clear hd HC
    have h := HH.out
    clear HH
    obtain ⟨a0, a1, a2, a3, a4, a5, a6⟩ := src_cells HM.out.x
    by_cases c1 : 0 < d
    ·rw [if_pos c1] at h
     have e1 : decide (0 < d) = true := decide_eq_true c1
     clear c1
     unfold srcRest at h
     cases hg : pursuivantref05_Good.f k x3 with
     | none => rw [hg] at h; cases h
     | some g =>
      rw [hg, Option.bind_some] at h
      have HC := fun W hW => Lib.hid (pursuivantref05_Good.calls k x3 g W hW hg)
      have HH := Lib.hid h
      clear h hg
      go_wp2_with fail
      refine (HC _ (hG_.below HM.out.bel)).out.mono ?_
      rintro e w1 ⟨rfl, hd⟩
      replace HM := Lib.hid (HM.out.below hd.below)
      clear hd HC
      try clear a0 a1 a2 a3 a4 a5 a6
      have h := HH.out
      clear HH
      obtain ⟨a0, a1, a2, a3, a4, a5, a6⟩ := src_cells HM.out.x
      cases g with
      | false =>
       obtain rfl := Option.some.inj h
       clear h
       go_wp2
       go_ret
       exact ⟨rfl, HM.out.bel⟩
      | true =>
       rw [if_pos rfl] at h
       by_cases c1 : -1 ≤ x4
       ·rw [if_pos c1] at h
        have e1 : decide (-1 ≤ x4) = true := decide_eq_true c1
        by_cases c2 : x4 ≤ 65535
        ·rw [if_pos c2] at h
         have e2 : decide (x4 ≤ 65535) = true := decide_eq_true c2
         clear c1 c2
         by_cases c3 : x5.toList = []
         ·rw [if_pos c3] at h
          have e3 : (x5.toList == ([] : List UInt8)) = true := beq_iff_eq.mpr c3
          have e4 : x5.toList.isEmpty = true := by rw [← nil_beq]; exact e3
          have HR := Lib.hid (Option.some.inj h)
          clear c3 h
          go_wp2
          go_ret
          exact ⟨by rw [← HR.out]; rfl, HM.out.bel⟩
         ·rw [if_neg c3] at h
          have e3 : (x5.toList == ([] : List UInt8)) = false := beq_eq_false_iff_ne.mpr c3
          have e4 : x5.toList.isEmpty = false := by rw [← nil_beq]; exact e3
          cases hp : pursuivantref11_path.f k x5 with
          | none => rw [hp] at h; cases h
          | some p =>
           rw [hp, Option.bind_some] at h
           have HC := fun W hW => Lib.hid (pursuivantref11_path.calls k x5 p W hW hp)
           have HH := Lib.hid h
           clear h hp c3
           go_wp2_with fail
           refine (HC _ (hG_.below HM.out.bel)).out.mono ?_
           rintro e w1 ⟨rfl, hd⟩
           replace HM := Lib.hid (HM.out.below hd)
           clear hd HC
           clear a0 a1 a2 a3 a4 a5 a6
           have h := HH.out
           clear HH
           obtain ⟨a0, a1, a2, a3, a4, a5, a6⟩ := src_cells HM.out.x
           cases p with
           | true =>
            have HR := Lib.hid (Option.some.inj h)
            clear h
            go_wp2
            go_ret
            exact ⟨by rw [← HR.out]; rfl, HM.out.bel⟩
           | false =>
            obtain rfl := Option.some.inj h
            clear h
            go_wp2
            go_ret
            exact ⟨rfl, HM.out.bel⟩
        ·rw [if_neg c2] at h
         have e2 : decide (x4 ≤ 65535) = false := decide_eq_false c2
         obtain rfl := Option.some.inj h
         clear c1 c2 h
         go_wp2
         go_ret
         exact ⟨rfl, HM.out.bel⟩
       ·rw [if_neg c1] at h
        have e1 : decide (-1 ≤ x4) = false := decide_eq_false c1
        obtain rfl := Option.some.inj h
        clear c1 h
        go_wp2
        go_ret
        exact ⟨rfl, HM.out.bel⟩
    ·rw [if_neg c1] at h
     have e1 : decide (0 < d) = false := decide_eq_false c1
     obtain rfl := Option.some.inj h
     clear c1 h
     go_wp2
     go_ret
     exact ⟨rfl, HM.out.bel⟩
 ·rw [if_neg k4] at h
  have b4 : (x0 == 4) = false := beq_eq_false_iff_ne.mpr k4
  clear k4
  obtain rfl := Option.some.inj h
  clear h
  go_enter Tryd.func7, Tryd.ntmps7
  go_wp2
  go_ret
  exact ⟨rfl, by repeat (with_reducible first | exact HQ.out | exact Below.refl _ _ | apply below_alloc | apply pw_below_drewN | apply below_drew | (refine Below.setCell (p := ⟨_, _, none⟩) ?_ (by simp; try omega) _))⟩
end Go.Proofs.YtfibkgmbgdaeoaaDoor.Hand
