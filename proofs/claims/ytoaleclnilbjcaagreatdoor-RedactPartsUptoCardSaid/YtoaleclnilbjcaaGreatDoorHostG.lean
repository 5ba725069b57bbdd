/- host.Good: what its walk gives: the length, then each piece between the points. Condition: as in the function (the rounds that a label takes). -/
import Derived.Test.YtoaleclnilbjcaaGreatDoorSplit
import Derived.Test.YtoaleclnilbjcaaGreatDoorFA1
import Derived.RangeFuncCalls
namespace Go.Proofs.YtoaleclnilbjcaaGreatDoor.Hand
open Go.RowKit Go.Shelf Go.Proofs.YtoaleclnilbjcaaGreatDoorW.PrintWords Go.Proofs.YtoaleclnilbjcaaGreatDoorW.PrintLast Go.Proofs.YtoaleclnilbjcaaGreatDoorW.PrintMore
set_option linter.unusedVariables false
set_option linter.unusedSimpArgs false
attribute [local go_sem] Oper.semAt_some

def labelsM (k : Nat) : List ByteArray → Option Bool
 | [] => some true
 | x :: r => (host_label.f k x).bind fun b => if b = true then labelsM k r else some false
def host_Good.f (k : Nat) (a0 : ByteArray) : Option Bool := if (a0.size : Int) > 253 then some false else labelsM k (piecesBA 46 a0)
theorem boxed_kept {W W' : World} {row : Option Nat} {B : Nat} {t : TypeId} {v : Value} (h : Boxed W B t v) (hg : W.grownBy W' row) (hr : ∀ r, row = some r → ∃ o : Obj, W.heap[r]? = some o ∧ o.isCells = false) : Boxed W' B t v :=
 h.kept hg (fun e => by
  obtain ⟨o, ho, hc⟩ := hr B e.symm
  rw [show W.heap[B]? = _ from h] at ho; cases ho; cases hc)
set_option maxRecDepth 100000 in
set_option maxHeartbeats 4000000 in
theorem host_Good.calls (k : Nat) (a0 : ByteArray) (r : Bool) (w : World) (hG : GW w) (h : host_Good.f k a0 = some r) :
  Calls Tryz.prog 107 #[.string a0] w fun e w' => e = .returned (.bool r) ∧ Below w.heap.size w w' := by
 unfold host_Good.f at h
 refine (callsIn_wide (n := 5)).1 ?_
 refine callsIn_of_wp_marks Tryz.func107 rfl trivial ?_ rfl
 simp only [Tryz.ntmps107, List.size_toArray, List.length_cons, List.length_nil, Nat.reduceAdd, Nat.reduceSub, Array.replicate_succ, Array.replicate_zero, List.push_toArray, List.append_toArray, List.nil_append, List.cons_append]
 by_cases hs : (a0.size : Int) > 253
 ·rw [if_pos hs] at h
  obtain rfl := Option.some.inj h
  have hsb : decide ((a0.size : Int) > 253) = true := decide_eq_true hs
  gi_wp2
  refine ⟨.bool false, ?_, rfl, (Below.refl _ w).alloc (Nat.le_refl _) _⟩
  have hc := (Boxed.new w 4 (.bool false)).cell
  simp [results, Tryz.f107, go_sem, hc]
 ·rw [if_neg hs] at h
  have hsb : decide ((a0.size : Int) > 253) = false := decide_eq_false hs
  gi_wp2_with (refine ⟨trivial, ?_⟩; gi_at_call 143; refine (callsIn_wide.2 (splitSeq_calls _ _ _)).mono ?_; rintro e w' ⟨rfl, rfl⟩)
  have e1 := World.size_alloc w (.cells #[.bool false] 4)
  have hsz := seqWorld_size 46 a0 (w.alloc (.cells #[.bool false] 4))
  have x1 := seqWorld_1 46 a0 (w.alloc (.cells #[.bool false] 4))
  have x2 := seqWorld_2 46 a0 (w.alloc (.cells #[.bool false] 4))
  have x3 := seqWorld_3 46 a0 (w.alloc (.cells #[.bool false] 4))
  have x0 : Boxed (seqWorld 46 a0 (w.alloc (.cells #[.bool false] 4))) w.heap.size 4 (.bool false) := (((Boxed.new w _ _).alloc _).alloc _).alloc _
  have hB0 : Below w.heap.size w (seqWorld 46 a0 (w.alloc (.cells #[.bool false] 4))) := seqWorld_below 46 a0 ((Below.refl _ w).alloc (Nat.le_refl _) _) (by rw [e1]; omega)
  unfold seqValue
  rw [e1] at *
  generalize seqWorld 46 a0 (w.alloc (.cells #[.bool false] 4)) = W0 at *
  refine wpIn_rangeFunc_box rfl (by decide) (b := w.heap.size + 1) (gf := 176) (lb := #[.pointer (some ⟨w.heap.size + 1 + 1, 0, none⟩), .pointer (some ⟨w.heap.size + 1, 0, none⟩), .pointer (some ⟨w.heap.size + 1 + 2, 0, none⟩)]) rfl trivial (enters_of Tryz.func176 (by kernel_rfl) rfl)
   (splitSeq_box _ (by decide) _ 46 a0 W0 x1 x2 x3 (by omega)) (fun h k => h.trans k) (keepsBox_b (by omega)) (Below.refl _ _) (fun _ => rfl)
   (fun pre W => (∃ post, pre ++ post = piecesBA 46 a0 ∧ labelsM k post = some r) ∧ Boxed W w.heap.size 4 (.bool false) ∧ Below w.heap.size w W)
   (fun c pre W => c = .ret ∧ r = false ∧ Boxed W w.heap.size 4 (.bool false) ∧ Below w.heap.size w W)
   (fun s A B row hs hg hr => ⟨hs.1, boxed_kept hs.2.1 hg (fun r e => (hr r e).2), hs.2.2.grown hg hs.2.2.size (fun k e => by have := (hr k e).1; omega)⟩)
   (fun c s A B row hs hg hr => ⟨hs.1, hs.2.1, boxed_kept hs.2.2.1 hg (fun r e => (hr r e).2), hs.2.2.2.grown hg hs.2.2.2.size (fun k e => by have := (hr k e).1; omega)⟩)
   (fun s A v hs => ⟨hs.1, boxed_other _ hs.2.1 (by omega), hs.2.2.setCell (p := ⟨w.heap.size + 1, 0, none⟩) (by simp) _⟩)
   (fun c s A v hs => ⟨hs.1, hs.2.1, boxed_other _ hs.2.2.1 (by omega), hs.2.2.2.setCell (p := ⟨w.heap.size + 1, 0, none⟩) (by simp) _⟩)
   ⟨⟨_, rfl, h⟩, x0, hB0⟩
   (fun x => { tmps := #[.string a0, undef, .pointer (some ⟨w.heap.size, 0, none⟩), .string x, .string a0, .int .i64 a0.size, .bool false, .string a0, .func (.func 176) #[] #[.pointer (some ⟨w.heap.size + 1 + 1, 0, none⟩), .pointer (some ⟨w.heap.size + 1, 0, none⟩), .pointer (some ⟨w.heap.size + 1 + 2, 0, none⟩)], .string x, undef, undef, undef], defers := [] }) ?assign ?body ?done ?stop
  case assign =>
   intro l x W K hK
   gi_wp2
   exact hK
  case body =>
   rintro l pre x W ⟨⟨post, hp, hl⟩, hx0, hB⟩ hnx
   obtain ⟨post, rfl⟩ : ∃ q, post = x :: q := by
    obtain ⟨t, ht⟩ := hnx
    rw [← hp, List.append_assoc] at ht
    have := List.append_cancel_left ht
    exact ⟨t, this.symm⟩
   unfold labelsM at hl
   cases hx : host_label.f k x with
   | none => rw [hx] at hl; cases hl
   | some b =>
    rw [hx] at hl
    simp only [Option.bind_some] at hl
    have hc := Lib.hid ((host_label.calls k x b W (hG.below hB) hx).mono (R' := fun e w' => e = .returned (.bool b) ∧ w'.cell? ⟨w.heap.size, 0, none⟩ = some (.bool false) ∧ w'.frozen? ⟨w.heap.size, 0, none⟩ = false ∧ w'.heap = W.heap ∧ Below W.heap.size W w') (fun e w' hh => by
     obtain ⟨rfl, ⟨n, rfl⟩⟩ := hh
     exact ⟨rfl, hx0.cell, hx0.frozen, rfl, pw_below_drewN (Below.refl _ _) n⟩))
    cases b with
    | true =>
     rw [if_pos rfl] at hl
     gi_wp2_with (refine ⟨trivial, ?_⟩; gi_at_call 144; refine (CallsIn.inRound l (callsIn_wide.2 hc.out)).mono ?_; rintro e w' ⟨rfl, hk0, hf0, hh, hbw⟩)
     exact ⟨⟨by rw [hh]; exact Nat.le_refl _, fun k o _ hk _ => by rw [hh]; exact hk⟩, fun k _ _ => by rw [hh], ⟨post, by simpa using hp, hl⟩, by unfold Boxed; rw [hh]; exact hx0, hB.trans (hbw.mono hB.size)⟩
    | false =>
     rw [if_neg (by simp)] at hl
     gi_wp2_with (refine ⟨trivial, ?_⟩; gi_at_call 144; refine (CallsIn.inRound l (callsIn_wide.2 hc.out)).mono ?_; rintro e w' ⟨rfl, hk0, hf0, hh, hbw⟩)
     have hx1 : Boxed w' w.heap.size 4 (.bool false) := by unfold Boxed; rw [hh]; exact hx0
     refine ⟨KeepsFrom.trans ⟨by rw [hh]; exact Nat.le_refl _, fun k o _ hk _ => by rw [hh]; exact hk⟩ ((KeepsOthers.setCell w' _ _).from _), rfl, (Option.some.inj hl).symm, hx1.set _, (hB.trans (hbw.mono hB.size)).setCell (p := ⟨w.heap.size, 0, none⟩) (Nat.le_refl _) _⟩
  case done =>
   rintro D ys W hD rfl ⟨⟨post, hp, hl⟩, hx0, hB⟩ hK
   have hf0 := hx0.frozen
   have hk0 := hx0.cell
   obtain rfl : post = [] := by simpa using hp
   obtain rfl : true = r := Option.some.inj hl
   gi_wp2
   have hK' := (KeepsOthers.setCell W ⟨w.heap.size, 0, none⟩ (.bool true)).same D _ hK rfl
   refine ⟨by simp, .inl ⟨_, _, rfl, run_takeDeferred hK', ?_⟩⟩
   have hc5 := (boxed_kept (hx0.set (.bool true)) (grownBy_putObj' _ D (.deferred none)) (fun r e => by cases e; exact ⟨_, hK', rfl⟩)).cell
   refine ⟨.bool true, ?_, rfl, (hB.setCell (p := ⟨w.heap.size, 0, none⟩) (Nat.le_refl _) _).trans (belowK_b (w := w) (Nat.le_refl _) _ D _ _ (by omega) hK' rfl rfl)⟩
   simp [results, Tryz.f107, go_sem, hc5]
  case stop =>
   rintro D c pre W hD hpre ⟨rfl, rfl, hx0, hB⟩ hK
   gi_wp2
   refine ⟨by simp, .inl ⟨_, _, rfl, run_takeDeferred hK, ?_⟩⟩
   have hc5 := (boxed_kept hx0 (grownBy_putObj' _ D (.deferred none)) (fun r e => by cases e; exact ⟨_, hK, rfl⟩)).cell
   refine ⟨.bool false, ?_, rfl, hB.trans (belowK_b (w := w) (Nat.le_refl _) W D _ _ (by omega) hK rfl rfl)⟩
   simp [results, Tryz.f107, go_sem, hc5]
end Go.Proofs.YtoaleclnilbjcaaGreatDoor.Hand
