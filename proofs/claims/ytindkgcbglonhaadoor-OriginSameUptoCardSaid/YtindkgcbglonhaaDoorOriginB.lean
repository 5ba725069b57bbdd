/- origin.bare: what its walk gives: the URL of an origin's beginning. No condition. -/
import Derived.Test.YtindkgcbglonhaaDoorFA1
import Derived.Deep.QuietTactic
import Derived.BigQuiet
namespace Go.Proofs.YtindkgcbglonhaaDoor.Hand
open Go.RowKit Go.Proofs.YtindkgcbglonhaaDoorW.PrintWords Go.Proofs.YtindkgcbglonhaaDoorW.PrintLast Go.Proofs.YtindkgcbglonhaaDoorW.PrintMore
set_option linter.unusedVariables false
set_option linter.unusedSimpArgs false

def origin_bare.f (a0_0 : ByteArray) (a0_1 : ByteArray) (a0_2 : Int) : Option (ByteArray × ByteArray × ByteArray × Int × ByteArray × Bool × ByteArray × Bool × ByteArray) :=
  (host_Default.f a0_0).bind fun d => some (a0_0, ⟨#[]⟩, a0_1, if a0_2 = d then 0 else a0_2, ⟨#[47]⟩, false, ⟨#[]⟩, false, ⟨#[]⟩)
set_option maxRecDepth 100000 in
set_option maxHeartbeats 4000000 in
theorem origin_bare.calls (a0_0 : ByteArray) (a0_1 : ByteArray) (a0_2 : Int) (r1 : ByteArray) (r2 : ByteArray) (r3 : ByteArray) (r4 : Int) (r5 : ByteArray) (r6 : Bool) (r7 : ByteArray) (r8 : Bool) (r9 : ByteArray) (w : World) (hG_ : GW w) (h : origin_bare.f a0_0 a0_1 a0_2 = some (r1, r2, r3, r4, r5, r6, r7, r8, r9)) :
    Calls Tryd.prog 87 #[.agg #[.string a0_0, .string a0_1, .int .i64 a0_2]] w fun e w' => e = .returned (.agg #[.string r1, .string r2, .string r3, .int .i64 r4, .string r5, .bool r6, .string r7, .bool r8, .string r9]) ∧ Below w.heap.size w w' := by
  unfold origin_bare.f at h
  cases hd : host_Default.f a0_0 with
  | none => rw [hd] at h; cases h
  | some d =>
    rw [hd] at h
    simp only [Option.bind_some, Option.some.injEq, Prod.mk.injEq] at h
    obtain ⟨rfl, rfl, rfl, rfl, rfl, rfl, rfl, rfl, rfl⟩ := h
    have hc := fun W hW => Lib.hid (host_Default.calls a0_0 d W hW hd)
    have hu1 := Tryd.underlying50
    have hu2 := Tryd.underlying39
    by_cases c : a0_2 = d
    · have cb : (a0_2 == d) = true := beq_iff_eq.mpr c
      rw [if_pos c]
      go_enter Tryd.func87, Tryd.ntmps87
      go_wp2_with (go_at_call 22; refine (hc _ (hG_.below (by repeat (with_reducible first | exact Below.refl _ _ | apply below_alloc | apply pw_below_drewN | apply below_drew)))).out.mono ?_; rintro e w' ⟨rfl, ⟨m_, rfl⟩⟩)
      go_quiet ((go_at_call 22; exact Calls.quiet_of ((hc _ (hG_.below (by repeat (with_reducible first | exact Below.refl _ _ | apply below_alloc | apply pw_below_drewN | apply below_drew)))).out.mono (fun _ _ h => ⟨h.1, h.2.out⟩))))
      go_wp2
      refine bodyPost_ret (v := .agg #[.string a0_0, .string ⟨#[]⟩, .string a0_1, .int .i64 0, .string ⟨#[47]⟩, .bool false, .string ⟨#[]⟩, .bool false, .string ⟨#[]⟩]) (by simp [results, Tryd.f87, go_sem]) rfl ⟨rfl, ?_⟩
      repeat (with_reducible first | exact Below.refl _ _ | apply below_alloc | apply pw_below_drewN | (refine Below.setCell (p := ⟨_, _, none⟩) ?_ (by simp; try omega) _))
    · have cb : (a0_2 == d) = false := beq_eq_false_iff_ne.mpr c
      rw [if_neg c]
      go_enter Tryd.func87, Tryd.ntmps87
      go_wp2_with (go_at_call 22; refine (hc _ (hG_.below (by repeat (with_reducible first | exact Below.refl _ _ | apply below_alloc | apply pw_below_drewN | apply below_drew)))).out.mono ?_; rintro e w' ⟨rfl, ⟨m_, rfl⟩⟩)
      go_quiet ((go_at_call 22; exact Calls.quiet_of ((hc _ (hG_.below (by repeat (with_reducible first | exact Below.refl _ _ | apply below_alloc | apply pw_below_drewN | apply below_drew)))).out.mono (fun _ _ h => ⟨h.1, h.2.out⟩))))
      go_wp2
      refine bodyPost_ret (v := .agg #[.string a0_0, .string ⟨#[]⟩, .string a0_1, .int .i64 a0_2, .string ⟨#[47]⟩, .bool false, .string ⟨#[]⟩, .bool false, .string ⟨#[]⟩]) (by simp [results, Tryd.f87, go_sem]) rfl ⟨rfl, ?_⟩
      repeat (with_reducible first | exact Below.refl _ _ | apply below_alloc | apply pw_below_drewN | (refine Below.setCell (p := ⟨_, _, none⟩) ?_ (by simp; try omega) _))
end Go.Proofs.YtindkgcbglonhaaDoor.Hand
