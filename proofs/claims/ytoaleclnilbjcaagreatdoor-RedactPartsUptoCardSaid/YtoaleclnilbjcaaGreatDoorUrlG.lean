/- What package url and its reference compute, over lists of bytes: whether a URL may be, its text, its port, the URL of a text. Conditions: at most 2^30 bytes a part. -/
import Derived.Test.YtoaleclnilbjcaaGreatDoorUrlF
namespace Go.Proofs.YtoaleclnilbjcaaGreatDoor.Hand
open Go.RowKit Go.Proofs.YtoaleclnilbjcaaGreatDoorW.PrintWords Go.Proofs.YtoaleclnilbjcaaGreatDoorW.PrintLast Go.Proofs.YtoaleclnilbjcaaGreatDoorW.PrintMore
set_option linter.unusedVariables false
set_option linter.unusedSimpArgs false

def U8.bare (u : U8) : U8 := { u with us := [] }
def U8.good (u : U8) : Bool := decide (def8 u.sc ≠ 0 ∧ 0 ≤ u.po ∧ u.po ≤ 65535 ∧ u.po ≠ def8 u.sc) && (host8 u.ho && (u.us.all (ok8 bad0) && (decide (u.pa.head? = some 47) && (u.pa.all (ok8 bad1) && (u.qu.all (ok8 bad2) && (u.fr.all (ok8 bad3) && (decide (u.hq = true ∨ u.qu = []) && (decide (u.hf = true ∨ u.fr = []) && (decide (u.us.length ≤ 128) && decide (u.bare.text.length ≤ 1024))))))))))
theorem progDef (l : List UInt8) : host_Default.f (ba l) = some (def8 l) := progDefault l
theorem refDef (l : List UInt8) : pursuivantref05_Default.f (ba l) = some (def8 l) := refDefault l
theorem pre_head (l : List UInt8) : Lib.hasPrefix l [47] = decide (l.head? = some 47) := by
 unfold Lib.hasPrefix
 cases l with
 | nil => rfl
 | cons c r =>
  rw [Bool.eq_iff_iff]
  simp
  exact eq_comm
theorem U8.bare_small {u : U8} (hs : u.Small) : u.bare.Small := ⟨hs.sc, by simp [U8.bare], hs.ho, hs.pa, hs.qu, hs.fr⟩
theorem progGood (u : U8) (hs : u.Small) : Ev (fun k => url_Good.f k (ba u.sc) (ba u.us) (ba u.ho) u.po (ba u.pa) u.hq (ba u.qu) u.hf (ba u.fr)) u.good := by
 have hsm := hs
 obtain ⟨h1, h2, h3, h4, h5, h6⟩ := hs
 have l1 : (⟨#[34, 60, 62, 92, 94, 96, 123, 124, 125, 47, 63, 35, 64]⟩ : ByteArray) = ba bad0 := rfl
 have l2 : (⟨#[34, 60, 62, 92, 94, 96, 123, 124, 125, 63, 35]⟩ : ByteArray) = ba bad1 := rfl
 have l3 : (⟨#[34, 60, 62, 92, 94, 96, 123, 124, 125, 35]⟩ : ByteArray) = ba bad2 := rfl
 have l4 : (⟨#[34, 60, 62, 92, 94, 96, 123, 124, 125]⟩ : ByteArray) = ba bad3 := rfl
 have l5 : (⟨#[]⟩ : ByteArray) = ba [] := rfl
 have j2t : ∀ r, r = false → Ev (fun k => url_Good.j2 k true (ba u.sc) (ba u.us) (ba u.ho) u.po (ba u.pa) u.hq (ba u.qu) u.hf (ba u.fr)) r := by
  rintro r rfl
  refine Ev.step (fun k => by rw [url_Good.j2]) ?_
  exact Ev.if_pos rfl (Ev.now _)
 have fin : (0 ≤ u.po ∧ u.po ≤ 65535) → Ev (fun k => if ((ba u.us).size : Int) ≤ 128 then ((url_text.f k (ba u.sc) (⟨#[]⟩ : ByteArray) (ba u.ho) u.po (ba u.pa) u.hq (ba u.qu) u.hf (ba u.fr)).bind fun t => some (decide ((t.size : Int) ≤ 1024))) else some false) (decide (u.us.length ≤ 128) && decide (u.bare.text.length ≤ 1024)) := by
  intro hp
  rw [l5, ba_size']
  refine Ev.ite (fun c => ?_) (fun c => ?_)
  ·rw [decide_eq_true (by omega), Bool.true_and]
   have ht := progText u.bare (U8.bare_small hsm) (by simp only [U8.bare]; omega)
   refine Ev.bind ht ?_
   rw [ba_size']
   have : decide ((u.bare.text.length : Int) ≤ 1024) = decide (u.bare.text.length ≤ 1024) := by
    rw [Bool.eq_iff_iff, decide_eq_true_iff, decide_eq_true_iff]; omega
   rw [this]; exact Ev.now _
  ·rw [decide_eq_false (by omega), Bool.false_and]; exact Ev.now _
 have j2f : (0 ≤ u.po ∧ u.po ≤ 65535) → Ev (fun k => url_Good.j2 k false (ba u.sc) (ba u.us) (ba u.ho) u.po (ba u.pa) u.hq (ba u.qu) u.hf (ba u.fr)) (decide (u.hf = true ∨ u.fr = []) && (decide (u.us.length ≤ 128) && decide (u.bare.text.length ≤ 1024))) := by
  intro hp
  refine Ev.step (fun k => by rw [url_Good.j2]) ?_
  refine Ev.if_neg (by simp) (Ev.ite (fun c => ?_) (fun c => ?_))
  ·rw [decide_eq_true (.inl c), Bool.true_and]; exact fin hp
  ·rw [ba_list]
   refine Ev.ite (fun c2 => ?_) (fun c2 => ?_)
   ·rw [decide_eq_true (.inr c2), Bool.true_and]; exact fin hp
   ·rw [decide_eq_false (fun h => h.elim c c2), Bool.false_and]; exact Ev.now _
 have j1t : ∀ r, r = false → Ev (fun k => url_Good.j1 k true (ba u.sc) (ba u.us) (ba u.ho) u.po (ba u.pa) u.hq (ba u.qu) u.hf (ba u.fr)) r := by
  rintro r rfl
  refine Ev.step (fun k => by rw [url_Good.j1]) ?_
  exact Ev.if_pos rfl (Ev.now _)
 have j1f : (0 ≤ u.po ∧ u.po ≤ 65535) → Ev (fun k => url_Good.j1 k false (ba u.sc) (ba u.us) (ba u.ho) u.po (ba u.pa) u.hq (ba u.qu) u.hf (ba u.fr)) (u.qu.all (ok8 bad2) && (u.fr.all (ok8 bad3) && (decide (u.hq = true ∨ u.qu = []) && (decide (u.hf = true ∨ u.fr = []) && (decide (u.us.length ≤ 128) && decide (u.bare.text.length ≤ 1024)))))) := by
  intro hp
  refine Ev.step (fun k => by rw [url_Good.j1]) ?_
  rw [l3, l4]
  refine Ev.if_neg (by simp) (Ev.bind (progOk bad2 u.qu (by omega)) (Ev.ite (fun c => ?_) (fun c => ?_)))
  ·rw [c, Bool.true_and]
   refine Ev.bind (progOk bad3 u.fr (by omega)) (Ev.ite (fun c => ?_) (fun c => ?_))
   ·rw [c, Bool.true_and]
    refine Ev.ite (fun c => ?_) (fun c => ?_)
    ·rw [decide_eq_true (.inl c), Bool.true_and]; exact j2f hp
    ·rw [ba_list]
     by_cases c2 : u.qu = []
     ·rw [decide_eq_true (.inr c2), Bool.true_and, show (u.qu != ([] : List UInt8)) = false from by simp [c2]]; exact j2f hp
     ·rw [decide_eq_false (fun h => h.elim c c2), Bool.false_and, show (u.qu != ([] : List UInt8)) = true from by simpa using c2]; exact j2t _ rfl
   ·rw [show u.fr.all (ok8 bad3) = false from by simpa using c, Bool.false_and]; exact Ev.now _
  ·rw [show u.qu.all (ok8 bad2) = false from by simpa using c, Bool.false_and]; exact Ev.now _
 have j0t : ∀ r, r = false → Ev (fun k => url_Good.j0 k true (ba u.sc) (ba u.us) (ba u.ho) u.po (ba u.pa) u.hq (ba u.qu) u.hf (ba u.fr)) r := by
  rintro r rfl
  refine Ev.step (fun k => by rw [url_Good.j0]) ?_
  exact Ev.if_pos rfl (Ev.now _)
 have j0f : (0 ≤ u.po ∧ u.po ≤ 65535) → Ev (fun k => url_Good.j0 k false (ba u.sc) (ba u.us) (ba u.ho) u.po (ba u.pa) u.hq (ba u.qu) u.hf (ba u.fr)) (host8 u.ho && (u.us.all (ok8 bad0) && (decide (u.pa.head? = some 47) && (u.pa.all (ok8 bad1) && (u.qu.all (ok8 bad2) && (u.fr.all (ok8 bad3) && (decide (u.hq = true ∨ u.qu = []) && (decide (u.hf = true ∨ u.fr = []) && (decide (u.us.length ≤ 128) && decide (u.bare.text.length ≤ 1024)))))))))) := by
  intro hp
  refine Ev.step (fun k => by rw [url_Good.j0]) ?_
  rw [l1, l2]
  refine Ev.if_neg (by simp) (Ev.bind (progHost u.ho (by omega)) (Ev.ite (fun c => ?_) (fun c => ?_)))
  ·rw [c, Bool.true_and]
   refine Ev.bind (progOk bad0 u.us (by omega)) (Ev.ite (fun c => ?_) (fun c => ?_))
   ·rw [c, Bool.true_and]
    refine Ev.some_bind (fun _ => rfl) ?_
    rw [ba_data, show (⟨#[47]⟩ : ByteArray).data.toList = [47] from rfl, pre_head]
    refine Ev.ite (fun c => ?_) (fun c => ?_)
    ·rw [c, Bool.true_and]
     refine Ev.bind (progOk bad1 u.pa (by omega)) ?_
     by_cases c2 : u.pa.all (ok8 bad1) = true
     ·rw [c2, Bool.true_and]; exact j1f hp
     ·rw [show u.pa.all (ok8 bad1) = false from by simpa using c2, Bool.false_and]; exact j1t _ rfl
    ·rw [show decide (u.pa.head? = some 47) = false from by simpa using c, Bool.false_and]; exact j1t _ rfl
   ·rw [show u.us.all (ok8 bad0) = false from by simpa using c, Bool.false_and]; exact j1t _ rfl
  ·rw [show host8 u.ho = false from by simpa using c, Bool.false_and]; exact j1t _ rfl
 unfold url_Good.f U8.good
 rw [progDef]
 simp only [Option.bind_some]
 refine Ev.ite (fun c => ?_) (fun c => ?_)
 ·rw [show (def8 u.sc == 0) = true from by simpa using c]
  exact j0t _ (by rw [decide_eq_false (fun h => h.1 c), Bool.false_and])
 ·refine Ev.ite (fun c2 => ?_) (fun c2 => ?_)
  ·rw [decide_eq_true c2]; exact j0t _ (by rw [decide_eq_false (fun h => by omega), Bool.false_and])
  ·refine Ev.ite (fun c3 => ?_) (fun c3 => ?_)
   ·rw [decide_eq_true c3]; exact j0t _ (by rw [decide_eq_false (fun h => by omega), Bool.false_and])
   ·by_cases c4 : u.po = def8 u.sc
    ·rw [show (u.po == def8 u.sc) = true from by simpa using c4]
     exact j0t _ (by rw [decide_eq_false (fun h => h.2.2.2 c4), Bool.false_and])
    ·rw [show (u.po == def8 u.sc) = false from by simpa using c4, decide_eq_true ⟨c, by omega, by omega, c4⟩, Bool.true_and]
     exact j0f ⟨by omega, by omega⟩
def U8.port (u : U8) : Int := if u.po = 0 then def8 u.sc else u.po
theorem portT_nat (n : Nat) (h : (n : Int) ≠ 0) : portT (n : Int) = 58 :: Lib.decDigits n := by unfold portT; rw [if_neg h, itoa_nat]
theorem refWhole (u : U8) (hs : u.Small) (hp : 0 ≤ u.po ∧ u.po ≤ 65535) :
  Ev (fun k => pursuivantref06_whole.f k (ba u.sc) (ba u.us) (ba u.ho) u.po (ba u.pa) u.hq (ba u.qu) u.hf (ba u.fr)) (ba u.text) := by
 obtain ⟨sc, us, ho, po, pa, hq, qu, hf, fr⟩ := u
 obtain ⟨h1, h2, h3, h4, h5, h6⟩ := hs
 simp only at h1 h2 h3 h4 h5 h6 hp ⊢
 obtain ⟨n, rfl⟩ : ∃ n : Nat, po = n := ⟨po.toNat, by omega⟩
 have hit := itoa_len (n : Int) (by omega) (by omega)
 rw [itoa_nat] at hit
 have l1 : (⟨#[58, 47, 47]⟩ : ByteArray) = ba [58, 47, 47] := rfl
 have l2 : (⟨#[64]⟩ : ByteArray) = ba [64] := rfl
 have l3 : (⟨#[58]⟩ : ByteArray) = ba [58] := rfl
 have l4 : (⟨#[63]⟩ : ByteArray) = ba [63] := rfl
 have l5 : (⟨#[35]⟩ : ByteArray) = ba [35] := rfl
 have j1 : ∀ (x : List UInt8), x.length ≤ 5497558138000 → Ev (fun k => pursuivantref06_whole.j1 k (ba x) (ba sc) (ba us) (ba ho) (n : Int) (ba pa) hq (ba qu) hf (ba fr)) (ba (x ++ pa ++ (if hq = true then 63 :: qu else []) ++ (if hf = true then 35 :: fr else []))) := by
  intro x hx
  refine Ev.step (fun k => by rw [pursuivantref06_whole.j1]) ?_
  simp only [l1, l2, l3, l4, l5, ba_app, ba_size']
  refine Ev.if_pos (by (first | omega | (simp only [ba_size', List.length_append, List.length_cons, List.length_nil]; omega) | (simp; omega) | (simp; done))) ?_
  refine Ev.ite (fun c1 => ?_) (fun c1 => ?_)
  ·refine Ev.if_pos (by (first | omega | (simp only [ba_size', List.length_append, List.length_cons, List.length_nil]; omega) | (simp; omega) | (simp; done))) (Ev.if_pos (by (first | omega | (simp only [ba_size', List.length_append, List.length_cons, List.length_nil]; omega) | (simp; omega) | (simp; done))) ?_)
   refine Ev.ite (fun c2 => ?_) (fun c2 => ?_)
   ·refine Ev.if_pos (by (first | omega | (simp only [ba_size', List.length_append, List.length_cons, List.length_nil]; omega) | (simp; omega) | (simp; done))) (Ev.if_pos (by (first | omega | (simp only [ba_size', List.length_append, List.length_cons, List.length_nil]; omega) | (simp; omega) | (simp; done))) ?_)
    rw [if_pos c1, if_pos c2]; simpa using Ev.now _
   ·rw [if_pos c1, if_neg c2]; simpa using Ev.now _
  ·refine Ev.ite (fun c2 => ?_) (fun c2 => ?_)
   ·refine Ev.if_pos (by (first | omega | (simp only [ba_size', List.length_append, List.length_cons, List.length_nil]; omega) | (simp; omega) | (simp; done))) (Ev.if_pos (by (first | omega | (simp only [ba_size', List.length_append, List.length_cons, List.length_nil]; omega) | (simp; omega) | (simp; done))) ?_)
    rw [if_neg c1, if_pos c2]; simpa using Ev.now _
   ·rw [if_neg c1, if_neg c2]; simpa using Ev.now _
 have j0 : ∀ (x : List UInt8), x.length ≤ 3298534883000 → Ev (fun k => pursuivantref06_whole.j0 k (ba x) (ba sc) (ba us) (ba ho) (n : Int) (ba pa) hq (ba qu) hf (ba fr)) (ba (x ++ ho ++ portT n ++ pa ++ (if hq = true then 63 :: qu else []) ++ (if hf = true then 35 :: fr else []))) := by
  intro x hx
  refine Ev.step (fun k => by rw [pursuivantref06_whole.j0]) ?_
  simp only [l1, l2, l3, l4, l5, ba_app, ba_size']
  refine Ev.if_pos (by (first | omega | (simp only [ba_size', List.length_append, List.length_cons, List.length_nil]; omega) | (simp; omega) | (simp; done))) (Ev.ite (fun c1 => ?_) (fun c1 => ?_))
  ·refine Ev.bind (refDigits n (by omega)) ?_
   simp only [ba_app, ba_size']
   refine Ev.if_pos (by omega) (Ev.if_pos (by (first | omega | (simp only [ba_size', List.length_append, List.length_cons, List.length_nil]; omega) | (simp; omega) | (simp; done))) ?_)
   have := j1 (x ++ ho ++ ([58] ++ Lib.decDigits n)) (by (first | omega | (simp only [ba_size', List.length_append, List.length_cons, List.length_nil]; omega) | (simp; omega) | (simp; done)))
   rw [portT_nat n (by omega)]
   exact this
  ·have := j1 (x ++ ho) (by (first | omega | (simp only [ba_size', List.length_append, List.length_cons, List.length_nil]; omega) | (simp; omega) | (simp; done)))
   unfold portT
   rw [if_pos (by omega), List.append_nil]
   exact this
 unfold pursuivantref06_whole.f U8.text
 simp only [l1, l2, l3, l4, l5, ba_app, ba_size', ba_list]
 refine Ev.if_pos (by omega) (Ev.ite (fun c => ?_) (fun c => ?_))
 ·have := j0 (sc ++ [58, 47, 47]) (by (first | omega | (simp only [ba_size', List.length_append, List.length_cons, List.length_nil]; omega) | (simp; omega) | (simp; done)))
  rw [if_pos c, List.append_nil]
  exact this
 ·refine Ev.if_pos (by omega) (Ev.if_pos (by (first | omega | (simp only [ba_size', List.length_append, List.length_cons, List.length_nil]; omega) | (simp; omega) | (simp; done))) ?_)
  have := j0 (sc ++ [58, 47, 47] ++ (us ++ [64])) (by (first | omega | (simp only [ba_size', List.length_append, List.length_cons, List.length_nil]; omega) | (simp; omega) | (simp; done)))
  rw [if_neg c]
  exact this
theorem bare_length (u : U8) : u.text.length = u.bare.text.length + (if u.us = [] then 0 else u.us.length + 1) := by
 unfold U8.text U8.bare
 by_cases c : u.us = []
 ·rw [c]; simp
 ·simp [c]; omega
theorem text_small {u : U8} (hs : u.Small) (hp : 0 ≤ u.po ∧ u.po ≤ 65535) : u.text.length ≤ 10995116280 := by
 obtain ⟨h1, h2, h3, h4, h5, h6⟩ := hs
 have hit := itoa_len u.po (by omega) (by omega)
 unfold U8.text portT
 simp only [List.length_append, List.length_cons, List.length_nil]
 split <;> split <;> split <;> split <;> simp <;> omega
theorem refGoodU (u : U8) (hs : u.Small) : Ev (fun k => pursuivantref06_Good.f k (ba u.sc) (ba u.us) (ba u.ho) u.po (ba u.pa) u.hq (ba u.qu) u.hf (ba u.fr)) u.good := by
 have hsm := hs
 obtain ⟨h1, h2, h3, h4, h5, h6⟩ := hs
 have wh : (0 ≤ u.po ∧ u.po ≤ 65535) → Ev (fun k => if ((ba u.us).size : Int) ≤ 128 then refG.wh k (ba u.sc) (ba u.us) (ba u.ho) u.po (ba u.pa) u.hq (ba u.qu) u.hf (ba u.fr) else some false) (decide (u.us.length ≤ 128) && decide (u.bare.text.length ≤ 1024)) := by
  intro hp
  rw [ba_size']
  refine Ev.ite (fun c => ?_) (fun c => ?_)
  ·rw [decide_eq_true (by omega), Bool.true_and]
   unfold refG.wh
   have hl := bare_length u
   have hts := text_small hsm hp
   refine Ev.bind (refWhole u hsm hp) ?_
   rw [ba_list, ba_size', ba_size']
   refine Ev.ite (fun c2 => ?_) (fun c2 => ?_)
   ·rw [if_pos c2] at hl
    have : decide ((u.text.length : Int) ≤ 1024) = decide (u.bare.text.length ≤ 1024) := by
     rw [Bool.eq_iff_iff, decide_eq_true_iff, decide_eq_true_iff]; omega
    rw [this]; exact Ev.now _
   ·rw [if_neg c2] at hl
    have : decide (wrap64 (wrap64 ((u.text.length : Int) - (u.us.length : Int)) - 1) ≤ 1024) = decide (u.bare.text.length ≤ 1024) := by
     rw [wrap_ok ((u.text.length : Int) - (u.us.length : Int)) (by omega) (by omega), wrap_ok _ (by omega) (by omega), Bool.eq_iff_iff, decide_eq_true_iff, decide_eq_true_iff]; omega
    rw [this]; exact Ev.now _
  ·rw [decide_eq_false (by omega), Bool.false_and]; exact Ev.now _
 unfold pursuivantref06_Good.f U8.good
 rw [refDef]
 simp only [Option.bind_some]
 refine Ev.ite (fun c => ?_) (fun c => ?_)
 ·rw [decide_eq_false (fun h => h.1 c), Bool.false_and]; exact Ev.now _
 ·refine Ev.ite (fun c2 => ?_) (fun c2 => ?_)
  ·rw [decide_eq_false (fun h => by omega), Bool.false_and]; exact Ev.now _
  ·refine Ev.ite (fun c3 => ?_) (fun c3 => ?_)
   ·rw [decide_eq_false (fun h => by omega), Bool.false_and]; exact Ev.now _
   ·refine Ev.ite (fun c4 => ?_) (fun c4 => ?_)
    ·rw [decide_eq_false (fun h => h.2.2.2 c4), Bool.false_and]; exact Ev.now _
    ·rw [decide_eq_true ⟨c, by omega, by omega, c4⟩, Bool.true_and]
     have hp : 0 ≤ u.po ∧ u.po ≤ 65535 := ⟨by omega, by omega⟩
     refine Ev.bind (refHost u.ho (by omega)) (Ev.ite (fun c5 => ?_) (fun c5 => ?_))
     ·rw [c5, Bool.true_and]
      -- the parts
      have b0 := refOk 0 (by omega) u.us (by omega)
      have b1 := refOk 1 (by omega) u.pa (by omega)
      have b2 := refOk 2 (by omega) u.qu (by omega)
      have b3 := refOk 3 (by omega) u.fr (by omega)
      have cl : Ev (fun k => refG.cl k (ba u.sc) (ba u.us) (ba u.ho) u.po (ba u.pa) u.hq (ba u.qu) u.hf (ba u.fr)) (u.us.all (ok8 bad0) && (u.pa.all (ok8 bad1) && (u.qu.all (ok8 bad2) && (u.fr.all (ok8 bad3) && (decide (u.us.length ≤ 128) && decide (u.bare.text.length ≤ 1024)))))) := by
       unfold refG.cl
       refine Ev.bind b0 (Ev.ite (fun d => ?_) (fun d => ?_))
       ·rw [show u.us.all (ok8 bad0) = true from d, Bool.true_and]
        refine Ev.bind b1 (Ev.ite (fun d => ?_) (fun d => ?_))
        ·rw [show u.pa.all (ok8 bad1) = true from d, Bool.true_and]
         refine Ev.bind b2 (Ev.ite (fun d => ?_) (fun d => ?_))
         ·rw [show u.qu.all (ok8 bad2) = true from d, Bool.true_and]
          refine Ev.bind b3 (Ev.ite (fun d => ?_) (fun d => ?_))
          ·rw [show u.fr.all (ok8 bad3) = true from d, Bool.true_and]; exact wh hp
          ·rw [show u.fr.all (ok8 bad3) = false from Bool.not_eq_true _ ▸ d, Bool.false_and]; exact Ev.now _
         ·rw [show u.qu.all (ok8 bad2) = false from Bool.not_eq_true _ ▸ d, Bool.false_and]; exact Ev.now _
        ·rw [show u.pa.all (ok8 bad1) = false from Bool.not_eq_true _ ▸ d, Bool.false_and]; exact Ev.now _
       ·rw [show u.us.all (ok8 bad0) = false from Bool.not_eq_true _ ▸ d, Bool.false_and]; exact Ev.now _
      unfold refG.pa
      rw [ba_list, ba_list, ba_list]
      refine Ev.ite (fun d => ?_) (fun d => ?_)
      ·rw [d]; simpa using Ev.now _
      ·obtain ⟨x, r, hx⟩ : ∃ x r, u.pa = x :: r := List.exists_cons_of_ne_nil d
       have hb : bt (ba u.pa) 0 = (x.toNat : Int) := by rw [hx]; exact bt_zero x r
       rw [hb]
       refine Ev.ite (fun e => ?_) (fun e => ?_)
       ·have : x = 47 := (c_eq x 47 (by omega)).1 e
        have hh : decide (u.pa.head? = some 47) = true := by rw [hx, this]; rfl
        rw [hh, Bool.true_and]
        refine Ev.ite (fun f => ?_) (fun f => ?_)
        ·rw [show decide (u.hq = true ∨ u.qu = []) = false from decide_eq_false (fun g => g.elim (fun g => by rw [f.1] at g; cases g) f.2)]
         simpa using Ev.now _
        ·rw [show decide (u.hq = true ∨ u.qu = []) = true from decide_eq_true (by
          by_cases g : u.hq = true
          ·exact .inl g
          ·exact .inr (Classical.byContradiction fun g2 => f ⟨by simpa using g, g2⟩)), Bool.true_and]
         refine Ev.ite (fun f => ?_) (fun f => ?_)
         ·rw [show decide (u.hf = true ∨ u.fr = []) = false from decide_eq_false (fun g => g.elim (fun g => by rw [f.1] at g; cases g) f.2)]
          simpa using Ev.now _
         ·rw [show decide (u.hf = true ∨ u.fr = []) = true from decide_eq_true (by
           by_cases g : u.hf = true
           ·exact .inl g
           ·exact .inr (Classical.byContradiction fun g2 => f ⟨by simpa using g, g2⟩)), Bool.true_and]
          exact cl
       ·have hh : decide (u.pa.head? = some 47) = false := by
         rw [hx]; exact decide_eq_false (fun g => e (by simp at g; rw [g]; rfl))
        rw [hh]
        simpa using Ev.now _
     ·rw [show host8 u.ho = false from by simpa using c5, Bool.false_and]; exact Ev.now _
end Go.Proofs.YtoaleclnilbjcaaGreatDoor.Hand
