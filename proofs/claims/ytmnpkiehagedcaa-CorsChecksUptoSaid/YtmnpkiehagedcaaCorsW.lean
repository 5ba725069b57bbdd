/- The walk of CorsChecks over its callees' contracts: it returns true where the two sides' printed functions agree. -/
import Derived.Test.YtmnpkiehagedcaaFA1
import Derived.Test.YtmnpkiehagedcaaOpen
namespace Go.Proofs.Ytmnpkiehagedcaa.Hand
open Go.RowKit Go.Proofs.YtmnpkiehagedcaaW.PrintWords Go.Proofs.YtmnpkiehagedcaaW.PrintLast Go.Proofs.YtmnpkiehagedcaaW.PrintMore
set_option linter.unusedVariables false
set_option linter.unusedSimpArgs false

def few {α : Type} (l : List α) : List α := l.take 30
theorem few_calls (A0 : Option Addr) (c0 : Nat) (l0 : List S27) (w : World) (hc0 : l0.length ≤ c0) :
    Calls Try.prog 7 #[.slice A0 l0.length c0] w fun e w' => e = .returned (.slice A0 (few l0).length c0) ∧ w = w' := by
  by_cases h : 30 < l0.length
  · have h1 : (few l0).length = 30 := by unfold few; rw [List.length_take]; omega
    rw [h1]
    have h2 : decide (30 < l0.length) = true := decide_eq_true h
    have h3 : decide ((30 : Int) < (l0.length : Int)) = true := decide_eq_true (by omega)
    obtain ⟨i0, hi, hz, hsz, _⟩ := info_parts info27
    have hcut := cut_to (P := Try.prog) 22 27 .i64 Try.underlying22 hi A0 l0.length c0 30 (by omega) (by omega) hc0
    clear hi hz hsz h1
    go_enter Try.func7, Try.ntmps7
    go_wp2
    go_ret
    exact ⟨rfl, rfl⟩
  · have h1 : (few l0).length = l0.length := by unfold few; rw [List.length_take]; omega
    rw [h1]
    have h2 : decide (30 < l0.length) = false := decide_eq_false h
    have h3 : decide ((30 : Int) < (l0.length : Int)) = false := decide_eq_false (by omega)
    clear h1
    go_enter Try.func7, Try.ntmps7
    go_wp2
    go_ret
    exact ⟨rfl, rfl⟩
theorem few_reads {A0 : Option Addr} {l0 : List S27} {w : World} (h : Kd.C k27 w A0 l0.length l0) : Kd.C k27 w A0 (few l0).length (few l0) := by
  have h1 : (few l0).length = min 30 l0.length := by unfold few; rw [List.length_take]
  obtain ⟨_, h2, h3⟩ := h
  refine ⟨rfl, by omega, fun hp => ?_⟩
  obtain ⟨ad, e, hc⟩ := h3 (by omega)
  refine ⟨ad, e, fun j p hj => hc j p ?_⟩
  unfold few at hj
  rw [List.getElem?_take] at hj
  by_cases hlt : j < 30
  · rwa [if_pos hlt] at hj
  · rw [if_neg hlt] at hj; cases hj

set_option maxHeartbeats 1000000 in
theorem checks_walk (A0 : Option Addr) (c0 : Nat) (l0 : List S27) (a1 : ByteArray) (a2 : Int) (w : World) (hr0 : Kd.C k27 w A0 l0.length l0) (hc0 : l0.length ≤ c0) (k : Nat) (r : Bool)
    (h1 : cors_Check.f (few l0) a1 a2 = some r) (h2 : pursuivantref13_Check.f k (few l0) a1 a2 = some r) (h3 : pursuivantlaw13_awake.f = some true) :
    Calls Try.prog 3 #[.slice A0 l0.length c0, .string a1, .int .i64 a2] w fun e w' => e = .returned (.bool true) ∧ Below w.heap.size w w' := by
  have HR := Aside0.mk (few_reads hr0)
  have HL := Aside0.mk (show (few l0).length ≤ c0 by unfold few; rw [List.length_take]; omega)
  clear hr0
  go_enter Try.func3, Try.ntmps3
  go_wp2_with fail
  refine (pursuivantlaw13_awake.calls true w h3).mono ?_
  rintro e w1 ⟨rfl, hb1⟩
  have HB1 := Aside0.mk hb1
  clear hb1 h3
  go_wp2_with fail
  refine (few_calls A0 c0 l0 w1 hc0).mono ?_
  rintro e w1' ⟨rfl, rfl⟩
  go_wp2_with fail
  refine (cors_Check.calls A0 c0 (few l0) a1 a2 r w1 (Kd.C_below HR.out HB1.out) HL.out h1).mono ?_
  rintro e w2 ⟨rfl, hb2⟩
  have HB2 := Aside0.mk (below_then HB1.out HB1.out.size hb2)
  clear hb2
  go_wp2_with fail
  refine (few_calls A0 c0 l0 w2 hc0).mono ?_
  rintro e w1' ⟨rfl, rfl⟩
  go_wp2_with fail
  refine (pursuivantref13_Check.calls k A0 c0 (few l0) a1 a2 r w2 (Kd.C_below HR.out HB2.out) HL.out h2).mono ?_
  rintro e w3 ⟨rfl, hb3⟩
  have HB3 := Aside0.mk (below_then HB2.out HB2.out.size hb3)
  clear hb3
  go_wp2
  go_ret
  exact ⟨by simp, HB3.out⟩
end Go.Proofs.Ytmnpkiehagedcaa.Hand
