/- head.Value, head.Good and its closure: what the walk of each gives. No condition. -/
import Derived.Test.YtmnpkiehagedcaaDoorFB2
import Derived.Test.YtmnpkiehagedcaaDoorAsciiF
import Derived.Test.YtmnpkiehagedcaaDoorDelH
import Derived.Test.YtmnpkiehagedcaaDoorGet
import Derived.Test.YtmnpkiehagedcaaDoorClip
import Derived.Deep.LoopGhost
namespace Go.Proofs.YtmnpkiehagedcaaDoor.Hand
open Go.RowKit Go.Proofs.YtmnpkiehagedcaaDoorW.PrintWords Go.Proofs.YtmnpkiehagedcaaDoorW.PrintLast Go.Proofs.YtmnpkiehagedcaaDoorW.PrintMore
set_option linter.unusedVariables false
set_option linter.unusedSimpArgs false

def badR (x : Nat) : Bool := decide (x ≠ 9) && (decide (x < 32) || decide (x > 126))
theorem bad_calls (x : Nat) (w : World) (hx : x ≤ 1114111) : Calls Tryd.prog 43 #[.int .i32 x] w fun e w' => e = .returned (.bool (badR x)) ∧ Below w.heap.size w w' := by
  have h1 : badR x = (if x = 9 then false else if x < 32 then true else decide (x > 126)) := by
    unfold badR
    by_cases h : x = 9
    · simp [h]
    · by_cases h2 : x < 32 <;> simp [h, h2]
  rw [h1]
  by_cases h9 : x = 9
  · subst h9
    go_enter Tryd.func43, Tryd.ntmps43
    go_wp2
    go_ret
    exact ⟨rfl, Below.refl _ _⟩
  · rw [if_neg h9]
    by_cases h2 : x < 32
    · rw [if_pos h2]
      have h2i : (x : Int) < 32 := by omega
      have h9i : ¬ (x : Int) = 9 := by omega
      clear h1 h9 h2
      go_enter Tryd.func43, Tryd.ntmps43
      go_wp2
      go_ret
      exact ⟨by simp [h9i], Below.refl _ _⟩
    · rw [if_neg h2, show decide (x > 126) = decide ((x : Int) > 126) from by congr 1; exact propext (by omega)]
      have h2i : ¬ (x : Int) < 32 := by omega
      have h9i : ¬ (x : Int) = 9 := by omega
      clear h1 h9 h2
      go_enter Tryd.func43, Tryd.ntmps43
      go_wp2
      go_ret
      exact ⟨by simp [h9i], Below.refl _ _⟩
def valueB (s : ByteArray) : Bool := decide (s.size ≤ 512) && (!decide (0 ≤ Lib.idxFunc badR true s)) && ((trimBA s).toList == s.toList)
theorem value_calls (s : ByteArray) (w : World) : Calls Tryd.prog 16 #[.string s] w fun e w' => e = .returned (.bool (valueB s)) ∧ Below w.heap.size w w' := by
  have hc := fun w => Tryd.strings_ContainsFunc_grows 43 #[] (enters_of Tryd.func43 (by kernel_rfl) rfl) badR s w (fun W x hx _ => bad_calls x W hx)
  unfold valueB
  generalize decide (0 ≤ Lib.idxFunc badR true s) = c at *
  have hT := fun w h => trim_calls s w h
  generalize trimBA s = t at *
  have HC := Lib.hid hc
  have HT := Lib.hid hT
  clear hc hT
  by_cases hs : s.size ≤ 512
  · rw [decide_eq_true hs, Bool.true_and]
    go_enter Tryd.func16, Tryd.ntmps16
    go_wp2_with fail
    refine (HC.out _).mono ?_
    rintro e w1 ⟨rfl, hb⟩
    cases c with
    | true =>
      go_wp2_with fail
      go_ret
      exact ⟨by simp, hb⟩
    | false =>
      go_wp2_with fail
      refine (HT.out _ (by omega)).mono ?_
      rintro e w2 ⟨rfl, hb2⟩
      go_wp2_with fail
      go_ret
      exact ⟨by simp, below_then hb (below_size hb) hb2⟩
  · rw [decide_eq_false hs, Bool.false_and, Bool.false_and]
    go_enter Tryd.func16, Tryd.ntmps16
    go_wp2_with fail
    go_ret
    exact ⟨rfl, Below.refl _ _⟩
def head_Value.f (a0 : ByteArray) : Option Bool := some (valueB a0)
theorem head_Value.calls (a0 : ByteArray) (r : Bool) (w : World) (hG : GW w) (h : head_Value.f a0 = some r) :
    Calls Tryd.prog 16 #[.string a0] w fun e w' => e = .returned (.bool r) ∧ Below w.heap.size w w' := by
  obtain rfl := Option.some.inj h
  exact value_calls a0 w
def name8 (l : List UInt8) : Bool := decide (l.length ≤ 64) && tok8 l
theorem progName (l : List UInt8) : Ev (fun k => head_Name.f k (ba l)) (name8 l) := by
  unfold head_Name.f name8
  by_cases h : l.length ≤ 64
  · refine Ev.if_pos (by rw [ba_size']; omega) ?_
    rw [decide_eq_true h, Bool.true_and]
    exact Ev.bind (progToken l (by omega)) (Ev.now _)
  · refine Ev.if_neg (by rw [ba_size']; omega) ?_
    rw [decide_eq_false h, Bool.false_and]
    exact Ev.now _
def nameB (s : ByteArray) : Bool := name8 s.data.toList
theorem name_calls (s : ByteArray) (w : World) (hG : GW w) : Calls Tryd.prog 14 #[.string s] w fun e w' => e = .returned (.bool (nameB s)) ∧ Below w.heap.size w w' := by
  obtain ⟨l, rfl⟩ := ba_of s
  obtain ⟨k, hk⟩ := (progName l).rounds
  unfold nameB
  rw [ba_data]
  refine (head_Name.calls k (ba l) _ w hG hk).mono fun e w' ⟨he, hd⟩ => ⟨he, hd.below⟩
def badH (h : S29) : Bool := !nameB h.f0 || !valueB h.f1
set_option maxHeartbeats 1000000 in
theorem good1_says : SaysH GW 41 #[] badH (fun _ => True) where
  enters := enters_of Tryd.func41 (by kernel_rfl) rfl
  later := fun W W' h hb => h.below hb
  says := fun W x hG _ => by
    show Calls Tryd.prog 41 #[.agg #[.string x.f0, .string x.f1]] W _
    have HN := Lib.hid (fun w h => name_calls x.f0 w h)
    have HV := Lib.hid (fun w => value_calls x.f1 w)
    unfold badH
    have HG := Lib.hid hG
    clear hG
    generalize nameB x.f0 = n at *
    generalize valueB x.f1 = v at *
    go_enter Tryd.func41, Tryd.ntmps41
    go_wp2_with fail
    have hb1 := Aside0.mk (below_alloc (Below.refl W.heap.size W) (.cells #[.string x.f0, .string x.f1] 29))
    refine (HN.out _ (HG.out.below hb1.out)).mono ?_
    rintro e w1 ⟨rfl, hb⟩
    have hc1 : w1.cell? ⟨W.heap.size, 1, none⟩ = some (.string x.f1) := pw_cell_below hb (by go_simp)
    have HB1 := Aside0.mk (below_then hb1.out (below_size hb1.out) hb)
    clear hb hb1
    cases n with
    | false =>
      go_wp2_with fail
      go_ret
      exact ⟨by simp, HB1.out⟩
    | true =>
      go_wp2_with fail
      refine (HV.out _).mono ?_
      rintro e w2 ⟨rfl, hb2⟩
      go_wp2_with fail
      go_ret
      exact ⟨by simp, below_then HB1.out (below_size HB1.out) hb2⟩
def goodHs (l : List S29) : Bool := decide (l.length ≤ 24) && !(l.any badH)
theorem good_calls (A0 : Option Addr) (c0 : Nat) (l0 : List S29) (w : World) (hG : GW w) (hr0 : Kd.C k29 w A0 l0.length l0) (hc0 : l0.length ≤ c0) :
    Calls Tryd.prog 11 #[.slice A0 l0.length c0] w fun e w' => e = .returned (.bool (goodHs l0)) ∧ Below w.heap.size w w' := by
  have HC := Lib.hid (containsFuncH good1_says A0 c0 l0 w hr0 (fun _ _ => trivial) hG)
  unfold goodHs
  generalize l0.any badH = b at *
  have hm := hr0.2.1
  clear hr0 hG
  generalize l0.length = n at *
  by_cases hn : n ≤ 24
  · rw [decide_eq_true hn, Bool.true_and]
    go_enter Tryd.func11, Tryd.ntmps11
    go_wp2_with fail
    refine HC.out.mono ?_
    rintro e w1 ⟨rfl, hb⟩
    go_wp2_with fail
    go_ret
    exact ⟨rfl, hb⟩
  · rw [decide_eq_false hn, Bool.false_and]
    go_enter Tryd.func11, Tryd.ntmps11
    go_wp2_with fail
    go_ret
    exact ⟨rfl, Below.refl _ _⟩
def head_Good.f (l0 : List S29) : Option Bool := some (goodHs l0)
theorem head_Good.calls (A0 : Option Addr) (c0 : Nat) (l0 : List S29) (r : Bool) (w : World) (hG : GW w) (hr0 : Kd.C k29 w A0 l0.length l0) (hc0 : l0.length ≤ c0) (h : head_Good.f l0 = some r) :
    Calls Tryd.prog 11 #[.slice A0 l0.length c0] w fun e w' => e = .returned (.bool r) ∧ Below w.heap.size w w' := by
  obtain rfl := Option.some.inj h
  exact good_calls A0 c0 l0 w hG hr0 hc0
end Go.Proofs.YtmnpkiehagedcaaDoor.Hand
