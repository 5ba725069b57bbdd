/- slices.Contains of strings in plain words, and (pre.Answer).Lets: what its walk gives. Condition: at most 2^40 names. -/
import Derived.Test.YtfibkgmbgdaeoaaGreatDoorFYA1
import Derived.Test.YtfibkgmbgdaeoaaGreatDoorDelS
import Derived.Test.YtfibkgmbgdaeoaaGreatDoorPlain
namespace Go.Proofs.YtfibkgmbgdaeoaaGreatDoor.Hand
open Go.RowKit Go.Proofs.YtfibkgmbgdaeoaaGreatDoorW.PrintWords Go.Proofs.YtfibkgmbgdaeoaaGreatDoorW.PrintLast Go.Proofs.YtfibkgmbgdaeoaaGreatDoorW.PrintMore
set_option linter.unusedVariables false
set_option linter.unusedSimpArgs false

def hasB (l : List ByteArray) (x : ByteArray) : Bool := l.any fun y => decide (x.toList = y.toList)
theorem rdOf_mid (p q : List ByteArray) (x : ByteArray) : rdOf ByteArray.empty (p ++ x :: q) (p.length : Int) = x := by simp [rdOf, List.getD_eq_getElem?_getD]
theorem progIndex_go (x : ByteArray) : ∀ (q p : List ByteArray), p.length + q.length ≤ 1099511627776 →
  ∃ n : Int, Ev (fun k => slices_Index_string_string.l0 k (p ++ q) x ((p ++ q).length : Int) (p.length : Int)) n ∧ decide (n ≥ 0) = hasB q x := by
 intro q
 induction q with
 | nil =>
  intro p h
  refine ⟨-1, ?_, rfl⟩
  refine Ev.step (fun k => by rw [slices_Index_string_string.l0]) ?_
  refine Ev.if_neg (by simp) (Ev.now _)
 | cons y q ih =>
  intro p h
  simp only [List.length_cons] at h
  by_cases c : x.toList = y.toList
  ·refine ⟨(p.length : Int), ?_, by simp [hasB, c]⟩
   refine Ev.step (fun k => by rw [slices_Index_string_string.l0]) ?_
   refine Ev.if_pos (by simp; omega) (Ev.if_pos (by omega) (Ev.if_pos (by simp; omega) ?_))
   rw [rdOf_mid]
   exact Ev.if_pos c (Ev.now _)
  ·obtain ⟨n, hn, hd⟩ := ih (p ++ [y]) (by simp; omega)
   refine ⟨n, ?_, by rw [hd]; simp [hasB, c]⟩
   refine Ev.step (fun k => by rw [slices_Index_string_string.l0]) ?_
   refine Ev.if_pos (by simp; omega) (Ev.if_pos (by omega) (Ev.if_pos (by simp; omega) ?_))
   rw [rdOf_mid, wrap_nat _ (by omega)]
   refine Ev.if_neg c ?_
   simpa using hn
theorem progContains (l : List ByteArray) (x : ByteArray) (h : l.length ≤ 1099511627776) : Ev (fun k => slices_Contains_string_string.f k l x) (hasB l x) := by
 obtain ⟨n, hn, hd⟩ := progIndex_go x l [] (by simpa using h)
 unfold slices_Contains_string_string.f slices_Index_string_string.f
 rw [← hd]
 exact Ev.bind (by simpa using hn) (Ev.now _)
theorem contains_calls (A0 : Option Addr) (c0 : Nat) (l0 : List ByteArray) (x : ByteArray) (w : World) (hG : GW w) (hr0 : Kd.C Kd.string w A0 l0.length l0) (hc0 : l0.length ≤ c0) (hl : l0.length ≤ 1099511627776) :
  Calls Tryz.prog 36 #[.slice A0 l0.length c0, .string x] w fun e w' => e = .returned (.bool (hasB l0 x)) ∧ Below w.heap.size w w' := by
 obtain ⟨k, hk⟩ := (progContains l0 x hl).rounds
 exact (slices_Contains_string_string.calls k A0 c0 l0 x _ w hG hr0 hc0 hk).mono fun e w' ⟨he, hd⟩ => ⟨he, hd.below⟩
def simpleB (m : ByteArray) : Bool := decide (m.toList = [71, 69, 84]) || decide (m.toList = [72, 69, 65, 68]) || decide (m.toList = [80, 79, 83, 84])
theorem progSimpB (m : ByteArray) : safe_Simple.f m = some (simpleB m) := by
 unfold safe_Simple.f simpleB
 by_cases h1 : m.toList = [71, 69, 84]
 ·rw [if_pos h1]; simp [h1]
 ·rw [if_neg h1]
  by_cases h2 : m.toList = [72, 69, 65, 68]
  ·rw [if_pos h2]; simp [h2]
  ·rw [if_neg h2, decide_eq_false h1, decide_eq_false h2]
   by_cases h3 : m.toList = [80, 79, 83, 84]
   ·simp [h3]
   ·rw [decide_eq_false h3, beq_eq_false_iff_ne.2 h3]; rfl
abbrev starB : ByteArray := ⟨#[42]⟩
abbrev secretB : ByteArray := ⟨#[97, 117, 116, 104, 111, 114, 105, 122, 97, 116, 105, 111, 110]⟩
def missB (h : List ByteArray) (every : Bool) (n : ByteArray) : Bool := !hasB h n && (!every || (n.toList == secretB.toList))
def letsB (m h : List ByteArray) (method : ByteArray) (names : List ByteArray) (cred : Int) : Bool :=
 (simpleB method || hasB m method || (decide (cred ≠ 3) && hasB m starB)) && !(names.any (missB h (decide (cred ≠ 3) && hasB h starB)))

theorem lets1_says (B C : Nat) (A1 : Option Addr) (c1 : Nat) (h : List ByteArray) (hl : h.length ≤ 1099511627776) (hc : h.length ≤ c1) (every : Bool) :
  SaysS (fun W => GW W ∧ W.cell? ⟨B, 1, none⟩ = some (.slice A1 h.length c1) ∧ W.cell? ⟨C, 0, none⟩ = some (.bool every) ∧ Kd.C Kd.string W A1 h.length h) 38 #[.pointer (some ⟨B, 0, none⟩), .pointer (some ⟨C, 0, none⟩)] (missB h every) (fun _ => True) where
 enters := enters_of Tryz.func38 (by kernel_rfl) rfl
 later := fun W W' h hb => ⟨h.1.below hb, pw_cell_below hb h.2.1, pw_cell_below hb h.2.2.1, Kd.C_below h.2.2.2 hb⟩
 says := fun W n hW _ => by
  show Calls Tryz.prog 38 #[.string n, .pointer (some ⟨B, 0, none⟩), .pointer (some ⟨C, 0, none⟩)] W _
  obtain ⟨hG, hB, hC, hr⟩ := hW
  have HC := Lib.hid (contains_calls A1 c1 h n W hG hr hc hl)
  have HE := Lib.hid hC
  unfold missB
  generalize hasB h n = q at *
  clear hG hr hC
  go_enter Tryz.func38, Tryz.ntmps38
  go_wp2_with fail
  refine HC.out.mono ?_
  rintro e w1 ⟨rfl, hb⟩
  have hC1 := pw_cell_below hb HE.out
  clear hB
  cases q with
  | true =>
   go_wp2_with fail
   go_ret
   exact ⟨by simp, hb⟩
  | false =>
   cases every with
   | true =>
    go_wp2_with fail
    go_ret
    exact ⟨by simp, hb⟩
   | false =>
    go_wp2_with fail
    go_ret
    exact ⟨by simp, hb⟩

set_option maxHeartbeats 2000000 in
theorem lets_walk (A0 : Option Addr) (c0 : Nat) (m : List ByteArray) (A1 : Option Addr) (c1 : Nat) (h : List ByteArray) (age : Int) (method : ByteArray) (A2 : Option Addr) (c2 : Nat) (names : List ByteArray) (cred : Int) (w : World) (hG : GW w)
  (hr0 : Kd.C Kd.string w A0 m.length m) (hc0 : m.length ≤ c0) (hr1 : Kd.C Kd.string w A1 h.length h) (hc1 : h.length ≤ c1) (hr2 : Kd.C Kd.string w A2 names.length names) (hc2 : names.length ≤ c2) (hm : m.length ≤ 1099511627776) (hh : h.length ≤ 1099511627776) :
  Calls Tryz.prog 16 #[.agg #[.slice A0 m.length c0, .slice A1 h.length c1, .int .i64 age], .string method, .slice A2 names.length c2, .int .i64 cred] w fun e w' => e = .returned (.bool (letsB m h method names cred)) ∧ Below w.heap.size w w' := by
 have HS := Lib.hid (fun w' hG' => safe_Simple.calls method _ w' hG' (progSimpB method))
 have HM1 := Lib.hid (fun (w' : World) (hb : Below w.heap.size w w') => contains_calls A0 c0 m method w' (hG.below hb) (Kd.C_below hr0 hb) hc0 hm)
 have HM2 := Lib.hid (fun (w' : World) (hb : Below w.heap.size w w') => contains_calls A0 c0 m starB w' (hG.below hb) (Kd.C_below hr0 hb) hc0 hm)
 have HH := Lib.hid (fun (w' : World) (hb : Below w.heap.size w w') => contains_calls A1 c1 h starB w' (hG.below hb) (Kd.C_below hr1 hb) hc1 hh)
 have HF := Lib.hid (fun (w' : World) B C every (hb : Below w.heap.size w w') (h1 : w'.cell? ⟨B, 1, none⟩ = some (.slice A1 h.length c1)) (h2 : w'.cell? ⟨C, 0, none⟩ = some (.bool every)) => containsFuncS (lets1_says B C A1 c1 h hh hc1 every) A2 c2 names w' (Kd.C_below hr2 hb) (fun _ _ => trivial) ⟨hG.below hb, h1, h2, Kd.C_below hr1 hb⟩)
 have HG := Lib.hid hG
 clear hG hr0 hr1 hr2
 unfold letsB
 generalize simpleB method = s at *
 generalize hasB m method = s2 at *
 generalize hasB m starB = s3 at *
 generalize hasB h starB = q at *
 have HB := Aside0.mk (below_alloc (Below.refl w.heap.size w) (.cells #[.slice A0 m.length c0, .slice A1 h.length c1, .int .i64 age] 33))
 by_cases hz : cred = 3
 ·subst hz
  go_enter Tryz.func16, Tryz.ntmps16
  go_wp2_with fail
  refine (HS.out _ (HG.out.below HB.out)).mono ?_
  rintro e w1 ⟨rfl, hd1⟩
  have hb1 := hd1.below
  have hA0 : w1.cell? ⟨w.heap.size, 0, none⟩ = some (.slice A0 m.length c0) := pw_cell_below hb1 (by go_simp)
  have hA1 : w1.cell? ⟨w.heap.size, 1, none⟩ = some (.slice A1 h.length c1) := pw_cell_below hb1 (by go_simp)
  have HBW := Aside0.mk (below_then HB.out (below_size HB.out) hb1)
  clear hd1 hb1 HB HS HG
  cases s with
  | true =>
   clear HM1 HM2 hA0
   go_wp2_with fail
   refine (HF.out _ w.heap.size _ false ?_ ?_ ?_).mono ?_
   ·exact below_alloc HBW.out _
   ·exact pw_cell_below (below_alloc (Below.refl _ _) _) hA1
   ·go_simp
   rintro e w6 ⟨rfl, hb6⟩
   go_wp2_with fail
   go_ret
   exact ⟨by simp, below_then (below_alloc HBW.out _) (below_size (below_alloc HBW.out _)) hb6⟩
  | false =>
   go_wp2_with fail
   refine (HM1.out _ HBW.out).mono ?_
   rintro e w2 ⟨rfl, hb2⟩
   have hA02 := Aside0.mk (pw_cell_below hb2 hA0)
   have hA12 := Aside0.mk (pw_cell_below hb2 hA1)
   have HBW2 := Aside0.mk (below_then HBW.out (below_size HBW.out) hb2)
   clear HBW hb2 hA0 hA1
   have HBW := HBW2
   have hA0 := hA02.out
   have hA1 := hA12.out
   clear HBW2 hA02 hA12
   cases s2 with
   | true =>
    clear HM1 HM2 hA0
    go_wp2_with fail
    refine (HF.out _ w.heap.size _ false ?_ ?_ ?_).mono ?_
    ·exact below_alloc HBW.out _
    ·exact pw_cell_below (below_alloc (Below.refl _ _) _) hA1
    ·go_simp
    rintro e w6 ⟨rfl, hb6⟩
    go_wp2_with fail
    go_ret
    exact ⟨by simp, below_then (below_alloc HBW.out _) (below_size (below_alloc HBW.out _)) hb6⟩
   | false =>
    go_wp2_with fail
    go_ret
    exact ⟨by simp, HBW.out⟩
 ·have hz2 : (cred != 3) = true := by simpa using hz
  have hz3 : decide (cred = 3) = false := decide_eq_false hz
  go_enter Tryz.func16, Tryz.ntmps16
  go_wp2_with fail
  refine (HS.out _ (HG.out.below HB.out)).mono ?_
  rintro e w1 ⟨rfl, hd1⟩
  have hb1 := hd1.below
  have hA0 : w1.cell? ⟨w.heap.size, 0, none⟩ = some (.slice A0 m.length c0) := pw_cell_below hb1 (by go_simp)
  have hA1 : w1.cell? ⟨w.heap.size, 1, none⟩ = some (.slice A1 h.length c1) := pw_cell_below hb1 (by go_simp)
  have HBW := Aside0.mk (below_then HB.out (below_size HB.out) hb1)
  clear hd1 hb1 HB HS HG
  cases s with
  | true =>
   clear HM1 HM2 hA0
   go_wp2_with fail
   refine (HH.out _ HBW.out).mono ?_
   rintro e w5 ⟨rfl, hb5⟩
   have HB5 := Aside0.mk (below_then HBW.out (below_size HBW.out) hb5)
   have hA5 := pw_cell_below hb5 hA1
   clear hb5 HBW hA1 HH
   go_wp2_with fail
   refine (HF.out _ w.heap.size w5.heap.size q ?_ ?_ ?_).mono ?_
   ·exact below_alloc HB5.out _
   ·exact pw_cell_below (below_alloc (Below.refl _ _) _) hA5
   ·go_simp
   rintro e w6 ⟨rfl, hb6⟩
   go_wp2_with fail
   go_ret
   exact ⟨by simp [hz3], below_then (below_alloc HB5.out _) (below_size (below_alloc HB5.out _)) hb6⟩
  | false =>
   go_wp2_with fail
   refine (HM1.out _ HBW.out).mono ?_
   rintro e w2 ⟨rfl, hb2⟩
   have hA02 := Aside0.mk (pw_cell_below hb2 hA0)
   have hA12 := Aside0.mk (pw_cell_below hb2 hA1)
   have HBW2 := Aside0.mk (below_then HBW.out (below_size HBW.out) hb2)
   clear HBW hb2 hA0 hA1
   have HBW := HBW2
   have hA0 := hA02.out
   have hA1 := hA12.out
   clear HBW2 hA02 hA12
   cases s2 with
   | true =>
    clear HM1 HM2 hA0
    go_wp2_with fail
    refine (HH.out _ HBW.out).mono ?_
    rintro e w5 ⟨rfl, hb5⟩
    have HB5 := Aside0.mk (below_then HBW.out (below_size HBW.out) hb5)
    have hA5 := pw_cell_below hb5 hA1
    clear hb5 HBW hA1 HH
    go_wp2_with fail
    refine (HF.out _ w.heap.size w5.heap.size q ?_ ?_ ?_).mono ?_
    ·exact below_alloc HB5.out _
    ·exact pw_cell_below (below_alloc (Below.refl _ _) _) hA5
    ·go_simp
    rintro e w6 ⟨rfl, hb6⟩
    go_wp2_with fail
    go_ret
    exact ⟨by simp [hz3], below_then (below_alloc HB5.out _) (below_size (below_alloc HB5.out _)) hb6⟩
   | false =>
    go_wp2_with fail
    refine (HM2.out _ HBW.out).mono ?_
    rintro e w3 ⟨rfl, hb3⟩
    have hA13 := Aside0.mk (pw_cell_below hb3 hA1)
    have HBW2 := Aside0.mk (below_then HBW.out (below_size HBW.out) hb3)
    clear HBW hb3 hA0 hA1 HM1 HM2
    have HBW := HBW2
    have hA1 := hA13.out
    clear HBW2 hA13
    cases s3 with
    | true =>
     go_wp2_with fail
     refine (HH.out _ HBW.out).mono ?_
     rintro e w5 ⟨rfl, hb5⟩
     have HB5 := Aside0.mk (below_then HBW.out (below_size HBW.out) hb5)
     have hA5 := pw_cell_below hb5 hA1
     clear hb5 HBW hA1 HH
     go_wp2_with fail
     refine (HF.out _ w.heap.size w5.heap.size q ?_ ?_ ?_).mono ?_
     ·exact below_alloc HB5.out _
     ·exact pw_cell_below (below_alloc (Below.refl _ _) _) hA5
     ·go_simp
     rintro e w6 ⟨rfl, hb6⟩
     go_wp2_with fail
     go_ret
     exact ⟨by simp [hz3], below_then (below_alloc HB5.out _) (below_size (below_alloc HB5.out _)) hb6⟩
    | false =>
     go_wp2_with fail
     go_ret
     exact ⟨by simp, HBW.out⟩
def pre_Answer_Lets.f (m h : List ByteArray) (age : Int) (method : ByteArray) (names : List ByteArray) (cred : Int) : Option Bool := if m.length ≤ 1099511627776 ∧ h.length ≤ 1099511627776 then some (letsB m h method names cred) else none
theorem pre_Answer_Lets.calls (A0_0 : Option Addr) (c0_0 : Nat) (l0_0 : List ByteArray) (A0_1 : Option Addr) (c0_1 : Nat) (l0_1 : List ByteArray) (a0_2 : Int) (a1 : ByteArray) (A2 : Option Addr) (c2 : Nat) (l2 : List ByteArray) (a3 : Int) (r : Bool) (w : World) (hG_ : GW w) (hr0_0 : Kd.C Kd.string w A0_0 l0_0.length l0_0) (hc0_0 : l0_0.length ≤ c0_0) (hr0_1 : Kd.C Kd.string w A0_1 l0_1.length l0_1) (hc0_1 : l0_1.length ≤ c0_1) (hr2 : Kd.C Kd.string w A2 l2.length l2) (hc2 : l2.length ≤ c2) (h : pre_Answer_Lets.f l0_0 l0_1 a0_2 a1 l2 a3 = some r) :
  Calls Tryz.prog 16 #[.agg #[.slice A0_0 l0_0.length c0_0, .slice A0_1 l0_1.length c0_1, .int .i64 a0_2], .string a1, .slice A2 l2.length c2, .int .i64 a3] w fun e w' => e = .returned (.bool r) ∧ Below w.heap.size w w' := by
 unfold pre_Answer_Lets.f at h
 by_cases c : l0_0.length ≤ 1099511627776 ∧ l0_1.length ≤ 1099511627776
 ·rw [if_pos c] at h
  obtain rfl := Option.some.inj h
  exact lets_walk A0_0 c0_0 l0_0 A0_1 c0_1 l0_1 a0_2 a1 A2 c2 l2 a3 w hG_ hr0_0 hc0_0 hr0_1 hc0_1 hr2 hc2 c.1 c.2
 ·rw [if_neg c] at h; cases h
end Go.Proofs.YtfibkgmbgdaeoaaGreatDoor.Hand
