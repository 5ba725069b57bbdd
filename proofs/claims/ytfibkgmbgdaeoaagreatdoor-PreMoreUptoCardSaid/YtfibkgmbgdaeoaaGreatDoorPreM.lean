/- The law PreMore in plain Lean: what is let with credentials is let without; fewer names are let where more are; what needs no question is let. Condition: at most 2^20 bytes of bulk. -/
import Derived.Test.YtfibkgmbgdaeoaaGreatDoorPreQ
import Derived.Test.YtfibkgmbgdaeoaaGreatDoorFYR1
namespace Go.Proofs.YtfibkgmbgdaeoaaGreatDoor.Hand
open Go.RowKit Go.Proofs.YtfibkgmbgdaeoaaGreatDoorW.PrintWords Go.Proofs.YtfibkgmbgdaeoaaGreatDoorW.PrintLast Go.Proofs.YtfibkgmbgdaeoaaGreatDoorW.PrintMore
set_option linter.unusedVariables false
set_option linter.unusedSimpArgs false

theorem preMore_j0 (st : Int) (l : List Hd) (frm : ByteArray) (cred : Int) (hs : hdrSum l ≤ 1048576) (m : Tx) (l3 : List Hd) (hl : hdrSum l3 ≤ 1048576) (ok : readOk st l frm cred = true) :
  Ev (fun k => pursuivantlaw14_PreMore.j0 k (ba m) l3 cred ((sortS (badL (l3.take 30))).map ba) false (readB st l frm cred).1 (readB st l frm cred).2.1 (readB st l frm cred).2.2.1) true := by
 obtain ⟨r1, r2⟩ := readB_len st l frm cred hs
 obtain ⟨f1, f2, f3⟩ := few_facts l3 hl
 have ha : 0 ≤ (readB st l frm cred).2.2.1 ∧ (readB st l frm cred).2.2.1 ≤ 86400 := by
  unfold readB
  rw [if_pos ok]
  exact ageOf_le _
 refine Ev.step (fun k => by rw [pursuivantlaw14_PreMore.j0]) ?_
 refine Ev.if_neg (by simp) (Ev.bind awake14 (Ev.if_pos rfl (Ev.some_bind (fun _ => few14 _) (Ev.bind (progNeeds m _ (by omega) f2) ?_))))
 have hend : Ev (fun k : Nat => if (readB st l frm cred).2.2.1 ≥ 0 then some (decide ((readB st l frm cred).2.2.1 ≤ 86400)) else some false) true := by
  refine Ev.if_pos ha.1 ?_
  rw [decide_eq_true ha.2]
  exact Ev.now _
 by_cases hn : needsB m (l3.take 30) = true
 ·exact Ev.if_pos hn hend
 ·refine Ev.if_neg hn (Ev.some_bind (fun _ => progLets _ _ _ _ _ _ r1 r2) (Ev.if_pos ?_ hend))
  have hn' := Bool.eq_false_iff.2 hn
  unfold needsB at hn'
  rw [Bool.or_eq_false_iff] at hn'
  have he : sortS (badL (l3.take 30)) = [] := by
   cases e : sortS (badL (l3.take 30)) with
   | nil => rfl
   | cons x r =>
    have := (badL_ne (l3.take 30)).1 (by rw [e]; simp)
    rw [hn'.1] at this
    cases this
  rw [he]
  refine lets_none _ _ _ _ ?_
  rw [simpleB_8]
  simpa using hn'.2
theorem preMore_true (st : Int) (l : List Hd) (body frm : ByteArray) (cred : Int) (hs : hdrSum l ≤ 1048576) (m : Tx) (l3 : List Hd) (hl : hdrSum l3 ≤ 1048576) : Ev (fun k => pursuivantlaw14_PreMore.f k st l body frm (ba m) l3 cred) true := by
 have hs' : hdrSum (l.take 30) ≤ 1048576 := Nat.le_trans (hdrSum_take l 30) hs
 obtain ⟨r1, r2⟩ := readB_len st (l.take 30) frm cred hs'
 obtain ⟨f1, f2, f3⟩ := few_facts l3 hl
 unfold pursuivantlaw14_PreMore.f
 refine Ev.some_bind (fun _ => few14 _) (Ev.some_bind (fun _ => progRead _ _ _ _ _ hs') ?_)
 by_cases ok : readOk st (l.take 30) frm cred = true
 ·have hj := preMore_j0 st (l.take 30) frm cred hs' m l3 hl ok
  have e4 : (readB st (l.take 30) frm cred).2.2.2 = true := by unfold readB; rw [if_pos ok]
  refine Ev.if_pos e4 (Ev.some_bind (fun _ => few14 _) (Ev.bind (refUnsafe _ (by omega) f2) ?_))
  generalize (sortS (badL (l3.take 30))).map ba = xs at *
  generalize readB st (l.take 30) frm cred = b at *
  have hL : ∀ (k : Nat) n c, pre_Answer_Lets.f b.1 b.2.1 b.2.2.1 (ba m) n c = some (letsB b.1 b.2.1 (ba m) n c) := fun _ n c => progLets _ _ _ _ _ _ r1 r2
  have hrest : Ev (fun k => (pre_Answer_Lets.f b.1 b.2.1 b.2.2.1 (ba m) xs cred).bind fun t128 => (if t128 = true then ((pre_Answer_Lets.f b.1 b.2.1 b.2.2.1 (ba m) ([] : List ByteArray) cred).bind fun t129 => (if t129 = true then (if (xs.length : Int) > 0 then (if 1 ≤ (xs.length : Int) then ((pre_Answer_Lets.f b.1 b.2.1 b.2.2.1 (ba m) (xs.drop 1) cred).bind fun t135 => (pursuivantlaw14_PreMore.j0 k (ba m) l3 cred xs (!t135) b.1 b.2.1 b.2.2.1)) else (none)) else (pursuivantlaw14_PreMore.j0 k (ba m) l3 cred xs false b.1 b.2.1 b.2.2.1)) else (pursuivantlaw14_PreMore.j0 k (ba m) l3 cred xs true b.1 b.2.1 b.2.2.1))) else (pursuivantlaw14_PreMore.j0 k (ba m) l3 cred xs false b.1 b.2.1 b.2.2.1))) true := by
   refine Ev.some_bind (fun k => hL k _ _) ?_
   by_cases c1 : letsB b.1 b.2.1 (ba m) xs cred = true
   ·refine Ev.if_pos c1 (Ev.some_bind (fun k => hL k _ _) (Ev.if_pos (lets_sub _ _ _ xs [] cred (fun _ h => by cases h) c1) ?_))
    by_cases c2 : (xs.length : Int) > 0
    ·refine Ev.if_pos c2 (Ev.if_pos (by omega) (Ev.some_bind (fun k => hL k _ _) ?_))
     rw [lets_sub _ _ _ xs (xs.drop 1) cred (fun x hx => List.mem_of_mem_drop hx) c1]
     exact hj
    ·exact Ev.if_neg c2 hj
   ·exact Ev.if_neg c1 hj
  refine Ev.some_bind (fun k => hL k _ _) ?_
  by_cases c3 : letsB b.1 b.2.1 (ba m) xs 3 = true
  ·refine Ev.if_pos c3 (Ev.some_bind (fun k => hL k _ _) (Ev.if_pos (lets_any _ _ _ _ _ c3) hrest))
  ·exact Ev.if_neg c3 hrest
 ·have e4 : readB st (l.take 30) frm cred = ([], [], 0, false) := by unfold readB; rw [if_neg ok]
  rw [e4]
  exact Ev.if_neg (by simp) (Ev.bind awake14 (Ev.if_pos rfl (Ev.of_all (fun _ => by decide +kernel))))
theorem preMore_pure (x0 : S30) (x1 : ByteArray) (x2 : ByteArray) (x3 : List S45) (x4 : Int) (hb : sz30 x0 + (fun s : ByteArray => s.size + 1) x1 + (fun s : ByteArray => s.size + 1) x2 + (fun l => (l.map sz45).sum + 1) x3 + (fun _ => 1) x4 ≤ 1048576) (hw0 : wf30 x0) (hw1 : (fun _ => True) x1) (hw2 : (fun _ => True) x2) (hw3 : (fun l => ∀ x ∈ l, wf45 x) x3) (hw4 : (fun n => (Lit.int .i64 n).wf = true) x4) : ∃ k, pursuivantlaw14_PreMore.f k x0.f0 x0.f1 x0.f2 x1 x2 x3 x4 = some true := by
 obtain ⟨m, rfl⟩ := ba_of x2
 simp only [sz30, hdrSum_sz] at hb
 exact (preMore_true x0.f0 x0.f1 x0.f2 x1 x4 (by omega) m x3 (by omega)).rounds
end Go.Proofs.YtfibkgmbgdaeoaaGreatDoor.Hand
