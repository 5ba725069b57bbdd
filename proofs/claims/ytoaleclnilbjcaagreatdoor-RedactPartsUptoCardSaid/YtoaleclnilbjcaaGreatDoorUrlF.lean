/- What package url and its reference compute, over lists of bytes: what may be, and its text. Conditions: at most 2^30 bytes a part. -/
import Derived.Test.YtoaleclnilbjcaaGreatDoorFU1
import Derived.Test.YtoaleclnilbjcaaGreatDoorRefG
import Derived.Test.YtoaleclnilbjcaaGreatDoorFQ1
import Derived.Test.YtoaleclnilbjcaaGreatDoorHostF
import Derived.Test.YtoaleclnilbjcaaGreatDoorCut
import Derived.Lib.ItoaNum
namespace Go.Proofs.YtoaleclnilbjcaaGreatDoor.Hand
open Go.RowKit Go.Proofs.YtoaleclnilbjcaaGreatDoorW.PrintWords Go.Proofs.YtoaleclnilbjcaaGreatDoorW.PrintLast Go.Proofs.YtoaleclnilbjcaaGreatDoorW.PrintMore
set_option linter.unusedVariables false
set_option linter.unusedSimpArgs false

def ok8 (bad : List UInt8) (c : UInt8) : Bool := decide (33 ≤ c.toNat ∧ c.toNat ≤ 126) && !bad.contains c
abbrev bad0 : List UInt8 := [34, 60, 62, 92, 94, 96, 123, 124, 125, 47, 63, 35, 64]
abbrev bad1 : List UInt8 := [34, 60, 62, 92, 94, 96, 123, 124, 125, 63, 35]
abbrev bad2 : List UInt8 := [34, 60, 62, 92, 94, 96, 123, 124, 125, 35]
abbrev bad3 : List UInt8 := [34, 60, 62, 92, 94, 96, 123, 124, 125]
def badOf (p : Nat) : List UInt8 := if p = 0 then bad0 else if p = 1 then bad1 else if p = 2 then bad2 else bad3
theorem ixB' (a : ByteArray) (c : UInt8) : strings_IndexByte.f a (c.toNat : Int) = some (Lib.indexByte a.data.toList c) := by
 unfold strings_IndexByte.f
 rw [Int.toNat_natCast]
 congr 2
 simp [Nat.toUInt8]
theorem ix_ge (bad : List UInt8) (c : UInt8) : decide (Lib.indexByte bad c ≥ 0) = bad.contains c := by
 induction bad with
 | nil => rfl
 | cons b l ih =>
  have hge := Lib.indexByte_ge l c
  unfold Lib.indexByte
  rw [List.contains_cons]
  by_cases h : b = c
  ·subst h; simp
  ·have h1 : (b == c) = false := by simpa using h
   have h2 : (c == b) = false := by simpa using fun e : c = b => h e.symm
   rw [h1, h2, Bool.false_or, ← ih]
   by_cases h3 : Lib.indexByte l c = -1
   ·rw [h3]; simp
   ·have h4 : (Lib.indexByte l c == -1) = false := by simpa using h3
    rw [h4]
    have : Lib.indexByte l c ≥ 0 := by omega
    rw [decide_eq_true this]
    simp; omega
theorem progOk_go (bad : List UInt8) : ∀ (q p : List UInt8), p.length + q.length ≤ 1099511627776 →
  Ev (fun k => url_clean.l0 k (ba (p ++ q)) (ba bad) ((p ++ q).length : Int) (p.length : Int)) (q.all (ok8 bad)) := by
 intro q
 induction q with
 | nil =>
  intro p h
  refine Ev.step (fun k => by rw [url_clean.l0]) ?_
  refine Ev.if_neg (by (first | omega | (simp only [ba_size', List.length_append, List.length_cons, List.length_nil]; omega) | (simp; omega) | (simp; done))) ?_
  simpa using Ev.now _
 | cons c q ih =>
  intro p h
  simp only [List.length_cons] at h
  refine Ev.step (fun k => by rw [url_clean.l0]) ?_
  refine Ev.if_pos (by (first | omega | (simp only [ba_size', List.length_append, List.length_cons, List.length_nil]; omega) | (simp; omega) | (simp; done))) (Ev.if_pos (by omega) (Ev.if_pos (by (first | omega | (simp only [ba_size', List.length_append, List.length_cons, List.length_nil]; omega) | (simp; omega) | (simp; done))) ?_))
  simp only [bt_mid, wrap_nat _ (show p.length < 9223372036854775807 by omega), ixB', Option.bind_some, ba_data]
  have hn := ih (p ++ [c]) (by (first | omega | (simp only [ba_size', List.length_append, List.length_cons, List.length_nil]; omega) | (simp; omega) | (simp; done)))
  rw [List.append_assoc, List.singleton_append, show (p ++ [c]).length = p.length + 1 from by simp] at hn
  have hi := ix_ge bad c
  rw [List.all_cons]
  refine Ev.ite (fun h1 => ?_) (fun h1 => ?_)
  ·rw [show ok8 bad c = false from by unfold ok8; rw [decide_eq_false (by omega), Bool.false_and], Bool.false_and]; exact Ev.now _
  ·refine Ev.ite (fun h2 => ?_) (fun h2 => ?_)
   ·rw [show ok8 bad c = false from by unfold ok8; rw [decide_eq_false (by omega), Bool.false_and], Bool.false_and]; exact Ev.now _
   ·refine Ev.ite (fun h3 => ?_) (fun h3 => ?_)
    ·rw [show ok8 bad c = false from by unfold ok8; rw [← hi, decide_eq_true h3]; simp, Bool.false_and]; exact Ev.now _
    ·rw [show ok8 bad c = true from by unfold ok8; rw [← hi, decide_eq_false h3, decide_eq_true (by omega)]; rfl, Bool.true_and]; exact hn
theorem progOk (bad l : List UInt8) (h : l.length ≤ 1099511627776) : Ev (fun k => url_clean.f k (ba l) (ba bad)) (l.all (ok8 bad)) := by
 have := progOk_go bad l [] (by simpa using h)
 unfold url_clean.f
 rw [ba_size']
 exact this
theorem refBadC (c : UInt8) (p : Nat) (hp : p < 4) : Ev (fun k => pursuivantref06_bad.f k (c.toNat : Int) (p : Int)) (!ok8 (badOf p) c) := by
 have h : ∀ p : Nat, p < 4 → ∀ c : UInt8, pursuivantref06_bad.f 2 (c.toNat : Int) (p : Int) = some (!ok8 (badOf p) c) := by
  intro p hp c
  have := u8_all (P := fun c => (List.range 4).all fun p => decide (pursuivantref06_bad.f 2 (c.toNat : Int) (p : Int) = some (!ok8 (badOf p) c))) (by decide +kernel) c
  exact of_decide_eq_true (List.all_eq_true.1 this p (List.mem_range.2 hp))
 exact Ev.of (k := 2) (pursuivantref06_bad.mono _ _) (h p hp c)
theorem refOk_go (p0 : Nat) (hp : p0 < 4) : ∀ (q p : List UInt8), p.length + q.length ≤ 1099511627776 →
  Ev (fun k => pursuivantref06_clean.l0 k (ba (p ++ q)) (p0 : Int) (p.length : Int)) (q.all (ok8 (badOf p0))) := by
 intro q
 induction q with
 | nil =>
  intro p h
  refine Ev.step (fun k => by rw [pursuivantref06_clean.l0]) ?_
  refine Ev.if_neg (by (first | omega | (simp only [ba_size', List.length_append, List.length_cons, List.length_nil]; omega) | (simp; omega) | (simp; done))) ?_
  simpa using Ev.now _
 | cons c q ih =>
  intro p h
  simp only [List.length_cons] at h
  refine Ev.step (fun k => by rw [pursuivantref06_clean.l0]) ?_
  refine Ev.if_pos (by (first | omega | (simp only [ba_size', List.length_append, List.length_cons, List.length_nil]; omega) | (simp; omega) | (simp; done))) (Ev.if_pos (by omega) ?_)
  simp only [bt_mid, wrap_nat _ (show p.length < 9223372036854775807 by omega)]
  have hn := ih (p ++ [c]) (by (first | omega | (simp only [ba_size', List.length_append, List.length_cons, List.length_nil]; omega) | (simp; omega) | (simp; done)))
  rw [List.append_assoc, List.singleton_append, show (p ++ [c]).length = p.length + 1 from by simp] at hn
  refine Ev.bind (refBadC c p0 hp) ?_
  rw [List.all_cons]
  refine Ev.ite (fun h1 => ?_) (fun h1 => ?_)
  ·rw [show ok8 (badOf p0) c = false from by simpa using h1, Bool.false_and]; exact Ev.now _
  ·rw [show ok8 (badOf p0) c = true from by simpa using h1, Bool.true_and]; exact hn
theorem refOk (p0 : Nat) (hp : p0 < 4) (l : List UInt8) (h : l.length ≤ 1099511627776) : Ev (fun k => pursuivantref06_clean.f k (ba l) (p0 : Int)) (l.all (ok8 (badOf p0))) := by
 have := refOk_go p0 hp l [] (by simpa using h)
 unfold pursuivantref06_clean.f
 exact this
theorem itoa_nat (n : Nat) : Lib.itoa (n : Int) = Lib.decDigits n := by unfold Lib.itoa; rw [if_neg (by omega), Int.toNat_natCast]
theorem decDigits_small (n : Nat) (h : n < 10) : Lib.decDigits n = [UInt8.ofNat (48 + n)] := by
 rw [Lib.decDigits]; simp [h]
theorem decDigits_big (n : Nat) (h : ¬n < 10) : Lib.decDigits n = Lib.decDigits (n / 10) ++ [UInt8.ofNat (48 + n % 10)] := by
 rw [Lib.decDigits]; simp [h]
theorem byteNum (d : Nat) (hd : d < 10) : strOfNums [(wrap64 (48 + (d : Int))) % 256] = ba [UInt8.ofNat (48 + d)] := by
 rw [wrap_ok _ (by omega) (by omega), ← strOfNums_bytes]
 simp only [List.map_cons, List.map_nil]
 have : ((UInt8.ofNat (48 + d)).toNat : Int) = (48 + (d : Int)) % 256 := by rw [UInt8.toNat_ofNat']; omega
 rw [this]
theorem decDigits_len (n : Nat) : (Lib.decDigits n).length ≤ n + 1 := by
 induction n using Nat.strongRecOn with
 | ind n ih =>
  by_cases h : n < 10
  ·rw [decDigits_small n h]; simp
  ·rw [decDigits_big n h]
   have := ih (n / 10) (by omega)
   simp; omega
theorem refDigits (n : Nat) (hn : n ≤ 1099511627776) : Ev (fun k => pursuivantref06_Digits.f k (n : Int)) (ba (Lib.decDigits n)) := by
 induction n using Nat.strongRecOn with
 | ind n ih =>
  refine Ev.step (fun k => by rw [pursuivantref06_Digits.f]) ?_
  by_cases h : n < 10
  ·refine Ev.if_pos (by omega) ?_
   rw [byteNum n h, decDigits_small n h]
   exact Ev.now _
  ·refine Ev.if_neg (by omega) ?_
   have e1 : wrap64 (Int.tdiv (n : Int) 10) = ((n / 10 : Nat) : Int) := by
    rw [show Int.tdiv (n : Int) 10 = ((n / 10 : Nat) : Int) from rfl, wrap_ok] <;> omega
   have e2 : Int.tmod (n : Int) 10 = ((n % 10 : Nat) : Int) := rfl
   rw [e1, e2]
   refine Ev.bind (ih (n / 10) (by omega) (by omega)) ?_
   simp only [Option.bind_some]
   rw [byteNum (n % 10) (by omega), decDigits_big n h]
   have hl := decDigits_len (n / 10)
   refine Ev.if_pos (by (first | omega | (simp only [ba_size', List.length_append, List.length_cons, List.length_nil]; omega) | (simp; omega) | (simp; done))) ?_
   rw [ba_app]
   exact Ev.now _

structure U8 where
 (sc us ho : List UInt8) (po : Int) (pa : List UInt8) (hq : Bool) (qu : List UInt8) (hf : Bool) (fr : List UInt8)
def portT (po : Int) : List UInt8 := if po = 0 then [] else 58 :: Lib.itoa po
def U8.text (u : U8) : List UInt8 := u.sc ++ [58, 47, 47] ++ (if u.us = [] then [] else u.us ++ [64]) ++ u.ho ++ portT u.po ++ u.pa ++ (if u.hq = true then 63 :: u.qu else []) ++ (if u.hf = true then 35 :: u.fr else [])
def def8 (l : List UInt8) : Int := if l = [104, 116, 116, 112] then 80 else if l = [104, 116, 116, 112, 115] then 443 else 0
structure U8.Small (u : U8) : Prop where
 sc : u.sc.length ≤ 1099511627
 us : u.us.length ≤ 1099511627
 ho : u.ho.length ≤ 1099511627
 pa : u.pa.length ≤ 1099511627
 qu : u.qu.length ≤ 1099511627
 fr : u.fr.length ≤ 1099511627
theorem itoa_len (p : Int) (h : -9223372036854775808 ≤ p) (h2 : p ≤ 9223372036854775807) : (Lib.itoa p).length ≤ 100 := by
 have hd : ∀ (d n : Nat), n < 10 ^ (d + 1) → (Lib.decDigits n).length ≤ d + 1 := by
  intro d
  induction d with
  | zero => intro n hn; rw [decDigits_small n (by omega)]; simp
  | succ d ih =>
   intro n hn
   by_cases h : n < 10
   ·rw [decDigits_small n h]; simp
   ·rw [decDigits_big n h]
    have := ih (n / 10) (by rw [Nat.pow_succ] at hn; omega)
    simp; omega
 unfold Lib.itoa
 split
 ·have := hd 19 p.natAbs (by omega)
  simp; omega
 ·have := hd 19 p.toNat (by omega)
  omega
theorem progText (u : U8) (hs : u.Small) (hp : -9223372036854775808 ≤ u.po ∧ u.po ≤ 9223372036854775807) :
  Ev (fun k => url_text.f k (ba u.sc) (ba u.us) (ba u.ho) u.po (ba u.pa) u.hq (ba u.qu) u.hf (ba u.fr)) (ba u.text) := by
 obtain ⟨sc, us, ho, po, pa, hq, qu, hf, fr⟩ := u
 obtain ⟨h1, h2, h3, h4, h5, h6⟩ := hs
 simp only at h1 h2 h3 h4 h5 h6 hp ⊢
 have hit := itoa_len po hp.1 hp.2
 have l1 : (⟨#[58, 47, 47]⟩ : ByteArray) = ba [58, 47, 47] := rfl
 have l2 : (⟨#[64]⟩ : ByteArray) = ba [64] := rfl
 have l3 : (⟨#[58]⟩ : ByteArray) = ba [58] := rfl
 have l4 : (⟨#[63]⟩ : ByteArray) = ba [63] := rfl
 have l5 : (⟨#[35]⟩ : ByteArray) = ba [35] := rfl
 have j1 : ∀ (x : List UInt8), x.length ≤ 5497558138000 → Ev (fun k => url_text.j1 k (ba x) (ba sc) (ba us) (ba ho) po (ba pa) hq (ba qu) hf (ba fr)) (ba (x ++ pa ++ (if hq = true then 63 :: qu else []) ++ (if hf = true then 35 :: fr else []))) := by
  intro x hx
  refine Ev.step (fun k => by rw [url_text.j1]) ?_
  simp only [l1, l2, l3, l4, l5, ba_app, ba_size']
  refine Ev.if_pos (by (first | omega | (simp only [ba_size', List.length_append, List.length_cons, List.length_nil]; omega) | (simp; omega) | (simp; done))) ?_
  refine Ev.ite (fun c1 => ?_) (fun c1 => ?_)
  ·refine Ev.if_pos (by (first | omega | (simp only [ba_size', List.length_append, List.length_cons, List.length_nil]; omega) | (simp; omega) | (simp; done))) (Ev.if_pos (by (first | omega | (simp only [ba_size', List.length_append, List.length_cons, List.length_nil]; omega) | (simp; omega) | (simp; done))) ?_)
   refine Ev.ite (fun c2 => ?_) (fun c2 => ?_)
   ·refine Ev.if_pos (by (first | omega | (simp only [ba_size', List.length_append, List.length_cons, List.length_nil]; omega) | (simp; omega) | (simp; done))) (Ev.if_pos (by (first | omega | (simp only [ba_size', List.length_append, List.length_cons, List.length_nil]; omega) | (simp; omega) | (simp; done))) ?_)
    rw [if_pos c1, if_pos c2]; simpa using Ev.now _
   ·rw [if_pos c1, if_neg c2]; simpa using Ev.now _
  ·refine Ev.ite (fun c2 => ?_) (fun c2 => ?_)
   ·refine Ev.if_pos (by (first | omega | (simp only [ba_size', List.length_append, List.length_cons, List.length_nil]; omega) | (simp; omega) | (simp; done))) (Ev.if_pos (by (first | omega | (simp only [ba_size', List.length_append, List.length_cons, List.length_nil]; omega) | (simp; omega) | (simp; done))) ?_)
    rw [if_neg c1, if_pos c2]; simpa using Ev.now _
   ·rw [if_neg c1, if_neg c2]; simpa using Ev.now _
 have j0 : ∀ (x : List UInt8), x.length ≤ 3298534883000 → Ev (fun k => url_text.j0 k (ba x) (ba sc) (ba us) (ba ho) po (ba pa) hq (ba qu) hf (ba fr)) (ba (x ++ ho ++ portT po ++ pa ++ (if hq = true then 63 :: qu else []) ++ (if hf = true then 35 :: fr else []))) := by
  intro x hx
  refine Ev.step (fun k => by rw [url_text.j0]) ?_
  simp only [l1, l2, l3, l4, l5, ba_app, ba_size']
  refine Ev.if_pos (by (first | omega | (simp only [ba_size', List.length_append, List.length_cons, List.length_nil]; omega) | (simp; omega) | (simp; done))) (Ev.ite (fun c1 => ?_) (fun c1 => ?_))
  ·have := j1 (x ++ ho) (by (first | omega | (simp only [ba_size', List.length_append, List.length_cons, List.length_nil]; omega) | (simp; omega) | (simp; done)))
   unfold portT
   rw [if_pos c1, List.append_nil]
   exact this
  ·have hI : strconv_Itoa.f po = some (ba (Lib.itoa po)) := by unfold strconv_Itoa.f; rw [if_pos hp]; rfl
   refine Ev.some_bind (fun _ => hI) ?_
   simp only [ba_app, ba_size']
   refine Ev.if_pos (by omega) (Ev.if_pos (by (first | omega | (simp only [ba_size', List.length_append, List.length_cons, List.length_nil]; omega) | (simp; omega) | (simp; done))) ?_)
   have := j1 (x ++ ho ++ ([58] ++ Lib.itoa po)) (by (first | omega | (simp only [ba_size', List.length_append, List.length_cons, List.length_nil]; omega) | (simp; omega) | (simp; done)))
   unfold portT
   rw [if_neg c1]
   exact this
 unfold url_text.f U8.text
 simp only [l1, l2, l3, l4, l5, ba_app, ba_size', ba_list]
 refine Ev.if_pos (by omega) (Ev.ite (fun c => ?_) (fun c => ?_))
 ·have := j0 (sc ++ [58, 47, 47]) (by (first | omega | (simp only [ba_size', List.length_append, List.length_cons, List.length_nil]; omega) | (simp; omega) | (simp; done)))
  rw [if_pos c, List.append_nil]
  exact this
 ·refine Ev.if_pos (by omega) (Ev.if_pos (by (first | omega | (simp only [ba_size', List.length_append, List.length_cons, List.length_nil]; omega) | (simp; omega) | (simp; done))) ?_)
  have := j0 (sc ++ [58, 47, 47] ++ (us ++ [64])) (by (first | omega | (simp only [ba_size', List.length_append, List.length_cons, List.length_nil]; omega) | (simp; omega) | (simp; done)))
  rw [if_neg c]
  exact this
end Go.Proofs.YtoaleclnilbjcaaGreatDoor.Hand
