/- ascii.Number and its reference: the number that digits make, at most so much. Condition: at most 2^40 bytes. -/
import Derived.Test.YtfibkgmbgdaeoaaDoorFA1
import Derived.Test.YtfibkgmbgdaeoaaDoorFA2
import Derived.Test.YtfibkgmbgdaeoaaDoorFA3
import Derived.Test.YtfibkgmbgdaeoaaDoorPlain
import Derived.Test.YtfibkgmbgdaeoaaDoorHostP
import Derived.Lib.AtoiTie
import Derived.Test.YtfibkgmbgdaeoaaDoorLib
import Derived.Lib.IndexMore
namespace Go.Proofs.YtfibkgmbgdaeoaaDoor.Hand
open Go.RowKit Go.Proofs.YtfibkgmbgdaeoaaDoorW.PrintWords Go.Proofs.YtfibkgmbgdaeoaaDoorW.PrintLast Go.Proofs.YtfibkgmbgdaeoaaDoorW.PrintMore
set_option linter.unusedVariables false
set_option linter.unusedSimpArgs false

def dig8 (c : UInt8) : Bool := decide (48 ≤ c.toNat ∧ c.toNat ≤ 57)
def valF (n : Nat) (l : List UInt8) : Nat := l.foldl (fun n c => 10 * n + (c.toNat - 48)) n
def val8 (l : List UInt8) : Nat := valF 0 l
theorem val8_snoc (l : List UInt8) (c : UInt8) : val8 (l ++ [c]) = 10 * val8 l + (c.toNat - 48) := by simp [val8, valF]
theorem valF_cons (n : Nat) (c : UInt8) (l : List UInt8) : valF n (c :: l) = valF (10 * n + (c.toNat - 48)) l := by unfold valF; rw [List.foldl_cons]
theorem valF_ge : ∀ (l : List UInt8) (n : Nat), n * 10 ^ l.length ≤ valF n l
 | [], n => by simp [valF]
 | c :: l, n => by
  rw [valF_cons]
  refine Nat.le_trans ?_ (valF_ge l _)
  rw [List.length_cons, Nat.pow_succ, Nat.mul_comm (10 ^ l.length) 10, ← Nat.mul_assoc, Nat.mul_comm n 10]
  exact Nat.mul_le_mul_right _ (by omega)
def noughts (l : List UInt8) : List UInt8 := l.dropWhile (· == 48)
theorem val8_noughts : ∀ l : List UInt8, val8 (noughts l) = val8 l
 | [] => rfl
 | c :: l => by
  unfold noughts
  rw [List.dropWhile_cons]
  split
  ·rename_i h
   obtain rfl : c = 48 := by simpa using h
   exact val8_noughts l
  ·rfl
theorem noughts_all (l : List UInt8) (h : l.all dig8 = true) : (noughts l).all dig8 = true :=
 List.all_eq_true.2 fun c hc => List.all_eq_true.1 h c ((List.dropWhile_sublist _).subset hc)
theorem noughts_ge (l : List UInt8) (h : l.all dig8 = true) (n : Nat) (hn : n < (noughts l).length) : 10 ^ n ≤ val8 l := by
 rw [← val8_noughts]
 have ha := noughts_all l h
 cases e : noughts l with
 | nil => rw [e] at hn; simp at hn
 | cons c r =>
  rw [e] at hn ha
  rw [List.all_cons, Bool.and_eq_true] at ha
  have hc : 48 ≤ c.toNat ∧ c.toNat ≤ 57 := of_decide_eq_true ha.1
  have hne : c.toNat ≠ 48 := by
   intro e48
   have := List.head?_dropWhile_not (· == (48 : UInt8)) l
   unfold noughts at e
   rw [e] at this
   simp at this
   exact this (UInt8.toNat_inj.1 (by simpa using e48))
  unfold val8
  rw [valF_cons]
  refine Nat.le_trans ?_ (valF_ge r _)
  rw [List.length_cons] at hn
  have h1 : 10 ^ n ≤ 10 ^ r.length := Nat.pow_le_pow_right (by omega) (by omega)
  refine Nat.le_trans h1 ?_
  calc 10 ^ r.length = 1 * 10 ^ r.length := by simp
   _ ≤ _ := Nat.mul_le_mul_right _ (by omega)
end Go.Proofs.YtfibkgmbgdaeoaaDoor.Hand

/- Ports: the decimal numerals from 1 to 65535, and what host.Port and its reference make of any text. Condition: at most 2^40 bytes. -/
namespace Go.Proofs.YtfibkgmbgdaeoaaDoor.Hand
open Go.RowKit Go.Proofs.YtfibkgmbgdaeoaaDoorW.PrintWords Go.Proofs.YtfibkgmbgdaeoaaDoorW.PrintLast Go.Proofs.YtfibkgmbgdaeoaaDoorW.PrintMore
set_option linter.unusedVariables false
set_option linter.unusedSimpArgs false

def port8 (l : List UInt8) : Int × Bool := if l.all dig8 = true ∧ l ≠ [] ∧ l.head? ≠ some 48 ∧ l.length ≤ 5 ∧ val8 l ≤ 65535 then (val8 l, true) else (0, false)
theorem head_app {p q : List UInt8} (h : p ≠ []) : (p ++ q).head? = p.head? := by
 cases p with
 | nil => exact absurd rfl h
 | cons c p => rfl
theorem all_one (c : UInt8) : [c].all dig8 = dig8 c := by simp
theorem val_one (c : UInt8) : val8 [c] = c.toNat - 48 := by simp [val8, valF]
theorem dig8_ofNat (d : Nat) (hd : d < 10) : dig8 (UInt8.ofNat (48 + d)) = true ∧ (UInt8.ofNat (48 + d)).toNat = 48 + d := by
 have : (UInt8.ofNat (48 + d)).toNat = 48 + d := by rw [UInt8.toNat_ofNat']; omega
 exact ⟨decide_eq_true (by omega), this⟩
theorem decDigits_spec (n : Nat) : (Lib.decDigits n).all dig8 = true ∧ val8 (Lib.decDigits n) = n ∧ Lib.decDigits n ≠ [] ∧ (1 ≤ n → (Lib.decDigits n).head? ≠ some 48) := by
 induction n using Nat.strongRecOn with
 | _ n ih =>
  rw [Lib.decDigits]
  by_cases h : n < 10
  ·rw [dif_pos h]
   obtain ⟨h1, h2⟩ := dig8_ofNat n h
   refine ⟨by rw [all_one, h1], by rw [val_one, h2]; omega, by simp, fun h3 h4 => ?_⟩
   have : UInt8.ofNat (48 + n) = 48 := Option.some.inj h4
   rw [this] at h2
   have : (48 : UInt8).toNat = 48 := rfl
   omega
  ·rw [dif_neg h]
   obtain ⟨h1, h2, h3, h4⟩ := ih (n / 10) (by omega)
   obtain ⟨d1, d2⟩ := dig8_ofNat (n % 10) (by omega)
   refine ⟨by rw [List.all_append, h1, all_one, d1]; rfl, by rw [val8_snoc, h2, d2]; omega, by simp, fun _ => ?_⟩
   rw [head_app h3]
   exact h4 (by omega)
theorem decDigits_of : ∀ (n : Nat) (l : List UInt8), l.length = n → l.all dig8 = true → l ≠ [] → l.head? ≠ some 48 → Lib.decDigits (val8 l) = l ∧ 1 ≤ val8 l := by
 intro n
 induction n with
 | zero => intro l h _ h0 _; exact absurd (List.length_eq_zero_iff.1 h) h0
 | succ n ih =>
  intro l hl ha h0 hh
  obtain ⟨p, c, rfl⟩ : ∃ p c, l = p ++ [c] := ⟨l.dropLast, l.getLast h0, (List.dropLast_concat_getLast h0).symm⟩
  rw [List.all_append, Bool.and_eq_true] at ha
  have hc : 48 ≤ c.toNat ∧ c.toNat ≤ 57 := by have := ha.2; simp only [List.all_cons, List.all_nil, Bool.and_true] at this; exact of_decide_eq_true this
  have hc' : UInt8.ofNat (48 + (c.toNat - 48)) = c := by rw [show 48 + (c.toNat - 48) = c.toNat from by omega]; simp
  rw [val8_snoc]
  by_cases hp : p = []
  ·subst hp
   have h48 : c.toNat ≠ 48 := fun e => hh (by simp; exact UInt8.toNat_inj.1 (by simpa using e))
   have : val8 [] = 0 := rfl
   rw [this, Lib.decDigits, dif_pos (by omega)]
   refine ⟨by simp [hc'], by omega⟩
  ·obtain ⟨h1, h2⟩ := ih p (by simpa using hl) ha.1 hp (by rw [head_app hp] at hh; exact hh)
   rw [Lib.decDigits, dif_neg (by omega), show (10 * val8 p + (c.toNat - 48)) / 10 = val8 p from by omega, h1, show (10 * val8 p + (c.toNat - 48)) % 10 = c.toNat - 48 from by omega, hc']
   exact ⟨rfl, by omega⟩
theorem decFrom_val : ∀ (l : List UInt8) (acc : Nat), l.all dig8 = true → Lib.decFrom acc l = some (valF acc l)
 | [], acc, _ => by simp [Lib.decFrom, valF]
 | c :: l, acc, h => by
  rw [List.all_cons, Bool.and_eq_true] at h
  have hc := of_decide_eq_true h.1
  unfold Lib.decFrom Lib.digitVal
  rw [if_pos hc, valF_cons, Nat.mul_comm 10 acc]
  exact decFrom_val l _ h.2
theorem atoiAll_val (l : List UInt8) (ha : l.all dig8 = true) (h0 : l ≠ []) (hl : l.length ≤ 5) : Lib.atoiAll l = .ok (val8 l) := by
 rw [Lib.atoiAll_short l (by omega)]
 obtain ⟨c, r, rfl⟩ : ∃ c r, l = c :: r := by cases l with | nil => exact absurd rfl h0 | cons c r => exact ⟨c, r, rfl⟩
 have hc : 48 ≤ c.toNat ∧ c.toNat ≤ 57 := by have := ha; rw [List.all_cons, Bool.and_eq_true] at this; exact of_decide_eq_true this.1
 have n45 : ¬(c == 45) = true := fun e => by
  have e : c = 45 := by simpa using e
  subst e; exact absurd hc.1 (by decide)
 have n43 : ¬(c == 43) = true := fun e => by
  have e : c = 43 := by simpa using e
  subst e; exact absurd hc.1 (by decide)
 unfold Lib.atoi Lib.decNat
 simp only
 rw [if_neg n45, if_neg n43, if_neg (by simp), decFrom_val _ 0 ha]
 rfl
theorem decDigits_len5 (n : Nat) (h : n ≤ 65535) : (Lib.decDigits n).length ≤ 5 := by
 rw [Lib.decDigits_length]
 by_cases h1 : Lib.nDigits n ≤ 5
 ·exact h1
 ·exfalso
  have := noughts_ge (Lib.decDigits n) (decDigits_spec n).1 5
  rw [(decDigits_spec n).2.1] at this
  by_cases h0 : 1 ≤ n
  ·have hh := (decDigits_spec n).2.2.2 h0
   have e : noughts (Lib.decDigits n) = Lib.decDigits n := by
    cases e : Lib.decDigits n with
    | nil => rfl
    | cons c r =>
     rw [e] at hh
     unfold noughts
     rw [List.dropWhile_cons, if_neg (by simpa using hh)]
   rw [e, Lib.decDigits_length] at this
   have := this (by omega)
   omega
  ·obtain rfl : n = 0 := by omega
   rw [Lib.nDigits_small (by omega)] at h1; omega
theorem portOf_eq (l : List UInt8) : portOf l = port8 l := by
 unfold port8
 by_cases h : l.all dig8 = true ∧ l ≠ [] ∧ l.head? ≠ some 48 ∧ l.length ≤ 5 ∧ val8 l ≤ 65535
 ·rw [if_pos h]
  obtain ⟨ha, h0, hh, hl, hv⟩ := h
  obtain ⟨hd, h1⟩ := decDigits_of _ l rfl ha h0 hh
  unfold portOf
  rw [atoiAll_val l ha h0 hl]
  simp only
  rw [if_pos ⟨by omega, by omega, by unfold Lib.itoa; rw [if_neg (by omega), Int.toNat_natCast, hd]⟩]
 ·rw [if_neg h]
  unfold portOf
  split
  ·rename_i n hn
   rw [if_neg]
   rintro ⟨h1, h2, h3⟩
   obtain ⟨m, rfl⟩ : ∃ m : Nat, n = m := ⟨n.toNat, by omega⟩
   unfold Lib.itoa at h3
   rw [if_neg (by omega), Int.toNat_natCast] at h3
   subst h3
   obtain ⟨d1, d2, d3, d4⟩ := decDigits_spec m
   exact h ⟨d1, d3, d4 (by omega), decDigits_len5 m (by omega), by rw [d2]; omega⟩
  ·rfl
theorem progPort (l : List UInt8) (h : l.length ≤ 1099511627776) : host_Port.f (ba l) = some (port8 l) := by
 unfold host_Port.f
 rw [if_pos (by (first | omega | (simp only [ba_size', List.length_append, List.length_cons, List.length_nil]; omega) | (simp; omega) | (simp; done))), ba_data, portOf_eq]
theorem progDefault (l : List UInt8) : host_Default.f (ba l) = some (if l = [104, 116, 116, 112] then 80 else if l = [104, 116, 116, 112, 115] then 443 else 0) := by
 unfold host_Default.f
 rw [ba_list]
 split
 ·rfl
 ·split <;> rfl
theorem refDefault (l : List UInt8) : pursuivantref05_Default.f (ba l) = some (if l = [104, 116, 116, 112] then 80 else if l = [104, 116, 116, 112, 115] then 443 else 0) := by
 unfold pursuivantref05_Default.f
 rw [ba_list]
 split
 ·rfl
 ·split <;> rfl
end Go.Proofs.YtfibkgmbgdaeoaaDoor.Hand

/- strings.Cut, by the text's own recursion; orders on texts. No condition. -/
namespace Go.Proofs.YtfibkgmbgdaeoaaDoor.Hand
open Go.RowKit Go.Proofs.YtfibkgmbgdaeoaaDoorW.PrintWords Go.Proofs.YtfibkgmbgdaeoaaDoorW.PrintLast Go.Proofs.YtfibkgmbgdaeoaaDoorW.PrintMore
set_option linter.unusedVariables false
set_option linter.unusedSimpArgs false

theorem split_first (d : UInt8) : ∀ l : List UInt8, d ∉ l ∨ ∃ a b, l = a ++ d :: b ∧ d ∉ a
 | [] => .inl (by simp)
 | x :: l => by
  by_cases hx : x = d
  ·subst hx; exact .inr ⟨[], l, rfl, by simp⟩
  ·rcases split_first d l with h | ⟨a, b, rfl, h⟩
   ·exact .inl (by simp [h]; exact fun e => hx e.symm)
   ·exact .inr ⟨x :: a, b, rfl, by simp [h]; exact fun e => hx e.symm⟩
theorem progCut (l e : List UInt8) (h : l.length ≤ 1099511627) : strings_Cut.f (ba l) (ba e) = some (ba (Lib.cut l e).1, ba (Lib.cut l e).2.1, (Lib.cut l e).2.2) := by
 unfold strings_Cut.f cutBA
 rw [if_pos (by (first | omega | (simp only [ba_size', List.length_append, List.length_cons, List.length_nil]; omega) | (simp; omega) | (simp; done))), ba_data, ba_data]
 rfl
theorem Ev.ite {α : Type} {g f : Nat → Option α} {r : α} {c : Prop} [Decidable c] (h : c → Ev g r) (h2 : ¬c → Ev f r) : Ev (fun k => if c then g k else f k) r := by
 by_cases hc : c
 ·exact Ev.if_pos hc (h hc)
 ·exact Ev.if_neg hc (h2 hc)
end Go.Proofs.YtfibkgmbgdaeoaaDoor.Hand
