/- The plain law of CorsTwice. Condition: the arguments are of bulk at most 1048576. -/
import Derived.Test.YtmnpkiehagedcaaCorsP
namespace Go.Proofs.Ytmnpkiehagedcaa.Hand
open Go.RowKit Go.Proofs.YtmnpkiehagedcaaW.PrintWords Go.Proofs.YtmnpkiehagedcaaW.PrintLast Go.Proofs.YtmnpkiehagedcaaW.PrintMore
set_option linter.unusedVariables false
set_option linter.unusedSimpArgs false

theorem sz_hdrSum (l : List S27) : (l.map sz27).sum = hdrSum l := by
  unfold hdrSum
  exact congrArg List.sum (List.map_congr_left fun x _ => by simp only [sz27]; omega)
theorem few_some {α : Type} (l : List α) : (if (l.length : Int) > 30 then (if 30 ≤ (l.length : Int) then some (l.take (30 : Int).toNat) else none) else some l) = some (l.take 30) := by
  by_cases h : (l.length : Int) > 30
  · rw [if_pos h, if_pos (by omega)]; rfl
  · rw [if_neg h, List.take_of_length_le (by omega)]

def acao : ByteArray := ⟨#[97, 99, 99, 101, 115, 115, 45, 99, 111, 110, 116, 114, 111, 108, 45, 97, 108, 108, 111, 119, 45, 111, 114, 105, 103, 105, 110]⟩
def acac : ByteArray := ⟨#[97, 99, 99, 101, 115, 115, 45, 99, 111, 110, 116, 114, 111, 108, 45, 97, 108, 108, 111, 119, 45, 99, 114, 101, 100, 101, 110, 116, 105, 97, 108, 115]⟩
def H1 (a : ByteArray) : S27 := ⟨⟨#[65, 99, 99, 101, 115, 115, 45, 67, 111, 110, 116, 114, 111, 108, 45, 65, 108, 108, 111, 119, 45, 79, 114, 105, 103, 105, 110]⟩, a⟩
def H2 (a : ByteArray) : S27 := ⟨⟨#[65, 67, 67, 69, 83, 83, 45, 67, 79, 78, 84, 82, 79, 76, 45, 65, 76, 76, 79, 87, 45, 79, 82, 73, 71, 73, 78]⟩, a⟩
theorem low1 (a : ByteArray) : ((lowBA (H1 a).f0).toList == (lowBA acao).toList) = true := by
  show ((lowBA ⟨#[65, 99, 99, 101, 115, 115, 45, 67, 111, 110, 116, 114, 111, 108, 45, 65, 108, 108, 111, 119, 45, 79, 114, 105, 103, 105, 110]⟩).toList == (lowBA acao).toList) = true
  decide +kernel
theorem low2 (a : ByteArray) : ((lowBA (H2 a).f0).toList == (lowBA acao).toList) = true := by
  show ((lowBA ⟨#[65, 67, 67, 69, 83, 83, 45, 67, 79, 78, 84, 82, 79, 76, 45, 65, 76, 76, 79, 87, 45, 79, 82, 73, 71, 73, 78]⟩).toList == (lowBA acao).toList) = true
  decide +kernel
theorem getV_two (l : List S27) (a : ByteArray) : getV acao (l ++ [H1 a, H2 a]) = getV acao l ++ [a, a] := by
  unfold getV
  rw [List.filter_append, List.map_append, List.filter_cons, if_pos (low1 a), List.filter_cons, if_pos (low2 a)]
  rfl
/-- What the program's Check says. -/
def chk (l : List S27) (a1 : ByteArray) (a2 : Int) : Bool :=
  decide (0 < (getV acao l).length) && (if a2 = 3 then decide ((getBA acao l).toList = a1.toList) && ((getBA acac l).toList == [116, 114, 117, 101]) else decide ((getBA acao l).toList = [42]) || ((getBA acao l).toList == a1.toList))
theorem check_chk (l : List S27) (a1 : ByteArray) (a2 : Int) (hs : hdrSum l ≤ 1099511627000) : cors_Check.f l a1 a2 = some (chk l a1 a2) := by
  unfold cors_Check.f
  have e1 := progGet l acao (by simp [acao, ByteArray.size]; omega)
  have e2 := progGet l acac (by simp [acac, ByteArray.size]; omega)
  unfold acao at e1
  unfold acac at e2
  rw [e1, e2]
  simp only [Option.bind_some]
  unfold chk acao acac
  by_cases hb : decide (0 < (getV ⟨#[97, 99, 99, 101, 115, 115, 45, 99, 111, 110, 116, 114, 111, 108, 45, 97, 108, 108, 111, 119, 45, 111, 114, 105, 103, 105, 110]⟩ l).length) = true
  · rw [if_pos hb, hb, Bool.true_and]
    by_cases h3 : a2 = 3
    · rw [if_pos h3, if_pos h3]
      split <;> rename_i h <;> simp [h]
    · rw [if_neg h3, if_neg h3]
      split <;> rename_i h <;> simp [h]
  · rw [if_neg hb, Bool.eq_false_iff.2 hb, Bool.false_and]
theorem hdrSum_append (l r : List S27) : hdrSum (l ++ r) = hdrSum l + hdrSum r := by simp [hdrSum]
theorem two_long (xs : List (List UInt8)) (a sep : List UInt8) : (Lib.join (xs ++ [a, a]) sep).length ≥ 2 * a.length + sep.length := by
  rw [show xs ++ [a, a] = (xs ++ [a]) ++ [a] from by simp, join_snoc, if_neg (by simp), join_snoc]
  split <;> simp only [List.length_append] <;> omega
theorem chk_two (l : List S27) (a : ByteArray) (a2 : Int) : chk (l ++ [H1 a, H2 a]) a a2 = false := by
  have hl : (getBA acao (l ++ [H1 a, H2 a])).toList.length ≥ 2 * a.toList.length + 2 := by
    unfold getBA
    rw [ByteArray.toList_mk, getV_two, List.map_append]
    have := two_long ((getV acao l).map (·.data.toList)) a.data.toList [44, 32]
    rw [ByteArray.toList_eq]
    simpa using this
  have h1 : ¬ (getBA acao (l ++ [H1 a, H2 a])).toList = a.toList := fun h => by rw [h] at hl; omega
  have h2 : ¬ (getBA acao (l ++ [H1 a, H2 a])).toList = [42] := fun h => by rw [h] at hl; simp at hl
  unfold chk
  by_cases h3 : a2 = 3
  · rw [if_pos h3]; simp [h1]
  · rw [if_neg h3]; simp [h1, h2]
theorem chk_in (l : List S27) (a : ByteArray) (a2 : Int) (h : chk l a 3 = true) : chk l a a2 = true := by
  unfold chk at h ⊢
  rw [if_pos rfl] at h
  simp only [Bool.and_eq_true, decide_eq_true_eq, beq_iff_eq] at h
  obtain ⟨h1, h2, h3⟩ := h
  by_cases h4 : a2 = 3
  · rw [if_pos h4]; simp [h1, h2, h3]
  · rw [if_neg h4]; simp [h1, h2]

theorem corsTwice_pure (x0 : List S27) (x1 : ByteArray) (x2 : Int) (hb : (fun l => (l.map sz27).sum + 1) x0 + (fun s : ByteArray => s.size + 1) x1 + (fun _ => 1) x2 ≤ 1048576) (hw0 : (fun l => ∀ x ∈ l, wf27 x) x0) (hw1 : (fun _ => True) x1) (hw2 : (fun n => (Lit.int .i64 n).wf = true) x2) : pursuivantlaw13_CorsTwice.f x0 x1 x2 = some true := by
  simp only [sz_hdrSum] at hb
  have h0 := hdrSum_take x0 30
  have hlen : (x0.take 30).length ≤ 30 := by rw [List.length_take]; omega
  have hf : pursuivantlaw13_few.f x0 = some (x0.take 30) := by unfold pursuivantlaw13_few.f; exact few_some x0
  unfold pursuivantlaw13_CorsTwice.f
  rw [hf, awake_true]
  simp only [Option.bind_some]
  generalize x0.take 30 = l at *
  have hs : hdrSum (l ++ [H1 x1, H2 x1]) ≤ 1099511627000 := by
    have h2 : hdrSum [H1 x1, H2 x1] = 27 + x1.size + 3 + (27 + x1.size + 3 + 0) := rfl
    rw [hdrSum_append, h2]
    omega
  have e : ∀ a2, cors_Check.f (l ++ [H1 x1, H2 x1]) x1 a2 = some false := fun a2 => by rw [check_chk _ _ _ hs, chk_two]
  unfold H1 H2 at e
  rw [if_pos (by simp; omega)]
  simp only [Option.bind_some, List.nil_append]
  rw [if_pos (by simp; omega)]
  simp only [Option.bind_some, if_true]
  rw [e x2, check_chk l x1 3 (by omega), check_chk l x1 1 (by omega), check_chk l x1 x2 (by omega)]
  simp only [Option.bind_some, Bool.not_false]
  by_cases h : chk l x1 3 = true
  · rw [if_pos h, if_pos (chk_in l x1 1 h), if_pos (chk_in l x1 x2 h)]; simp
  · rw [if_neg h]; simp
end Go.Proofs.Ytmnpkiehagedcaa.Hand
