/- The law RedactParts in plain Lean: package redact and its reference agree on any text, headers, event and input. Conditions: at most 2^20 bytes of bulk. -/
import Derived.Test.YtoaleclnilbjcaaGreatDoorRdQ
import Derived.Test.YtoaleclnilbjcaaGreatDoorFL1
import Derived.Test.YtoaleclnilbjcaaGreatDoorOpens
namespace Go.Proofs.YtoaleclnilbjcaaGreatDoor.Hand
open Go.RowKit Go.Proofs.YtoaleclnilbjcaaGreatDoorW.PrintWords Go.Proofs.YtoaleclnilbjcaaGreatDoorW.PrintLast Go.Proofs.YtoaleclnilbjcaaGreatDoorW.PrintMore
set_option linter.unusedVariables false
set_option linter.unusedSimpArgs false

def shortB (s : ByteArray) : ByteArray := if (s.size : Int) > 2100 then s.extract 0 2100 else s
def fewL (l : List S58) : List S58 := if (l.length : Int) > 30 then l.take 30 else l
theorem short27 (s : ByteArray) : pursuivantlaw27_short.f s = some (shortB s) := by
 unfold pursuivantlaw27_short.f shortB
 by_cases c : (s.size : Int) > 2100
 ·rw [if_pos c, if_pos c, if_pos (by omega), if_pos (by omega)]
 ·rw [if_neg c, if_neg c]
theorem few27 (l : List S58) : pursuivantlaw27_few.f l = some (fewL l) := by
 unfold pursuivantlaw27_few.f fewL
 by_cases c : (l.length : Int) > 30
 ·rw [if_pos c, if_pos c, if_pos (by omega)]
 ·rw [if_neg c, if_neg c]
theorem shortB_size (s : ByteArray) : (shortB s).size ≤ 1099511627776 := by
 unfold shortB
 split
 ·rw [ByteArray.size_extract]; omega
 ·omega
theorem fewL_length (l : List S58) : (fewL l).length ≤ 1099511627776 := by
 unfold fewL
 split
 ·rw [List.length_take]; omega
 ·omega
theorem fewL_mem {l : List S58} {x : S58} (h : x ∈ fewL l) : x ∈ l := by
 unfold fewL at h
 split at h
 ·exact List.mem_of_mem_take h
 ·exact h
theorem hdr_small (l : List S58) (n : Nat) (hn : n ≤ 1099511627776) (h : (l.map sz58).sum ≤ n) : ∀ x ∈ l, x.f0.size ≤ 1099511627776 ∧ x.f1.size ≤ 1099511627776 := by
 induction l with
 | nil => intro x hx; cases hx
 | cons y l ih =>
  rw [List.map_cons, List.sum_cons] at h
  have hy : y.f0.size ≤ 1099511627776 ∧ y.f1.size ≤ 1099511627776 := by
   unfold sz58 at h
   simp only at h
   omega
  intro x hx
  rcases List.mem_cons.1 hx with rfl | hx
  ·exact hy
  ·exact ih (by omega) x hx
theorem few_small {l : List S58} (h : ∀ x ∈ l, x.f0.size ≤ 1099511627776 ∧ x.f1.size ≤ 1099511627776) : ∀ x ∈ fewL l, x.f0.size ≤ 1099511627776 ∧ x.f1.size ≤ 1099511627776 := fun x hx => h x (fewL_mem hx)
theorem sameEv (k0 k1 k2 : Int) (m u : ByteArray) (hs : List S58) (hl : hs.length ≤ 1099511627776) (b : ByteArray) (s c : Int) (cr : Bool) (nn : ByteArray) (n : Int) :
  Ev (fun k => pursuivantref18_SameEvent.f k k0 k1 k2 m u hs b s c cr nn n k0 k1 k2 m u hs b s c cr nn n) true := by
 unfold pursuivantref18_SameEvent.f
 refine Ev.if_pos rfl (Ev.if_pos rfl (Ev.if_pos rfl (Ev.if_pos rfl (Ev.if_pos rfl (Ev.bind (refSame9 hs hl) (Ev.if_pos rfl (Ev.if_pos rfl (Ev.if_pos rfl (Ev.if_pos rfl (Ev.if_pos (by simp) (Ev.if_pos rfl ?_)))))))))))
 rw [beq_self_eq_true]
 exact Ev.now _
theorem sameIn (k0 k1 : Int) (m u : ByteArray) (a b c d : Int) (nn : ByteArray) (hs : List S58) (hl : hs.length ≤ 1099511627776) (bo : ByteArray) (st : Int) (hr : List S58) (hrl : hr.length ≤ 1099511627776) (rb : ByteArray) (n : Int) :
  Ev (fun k => pursuivantref21_SameInput.f k k0 k1 m u a b c d nn hs bo st hr rb n k0 k1 m u a b c d nn hs bo st hr rb n) true := by
 unfold pursuivantref21_SameInput.f
 refine Ev.if_pos rfl (Ev.if_pos rfl (Ev.if_pos rfl (Ev.if_pos rfl (Ev.if_pos rfl (Ev.if_pos rfl (Ev.if_pos rfl (Ev.if_pos rfl (Ev.bind (refSame9 hs hl) (Ev.if_pos rfl (Ev.if_pos rfl (Ev.if_pos rfl (Ev.if_pos rfl (Ev.if_pos rfl (Ev.if_pos rfl (Ev.bind (refSame9 hr hrl) ?_)))))))))))))))
 exact Ev.now _
theorem redH_ba (n v : List UInt8) : redH ⟨ba n, ba v⟩ = ⟨ba n, if ((n.map low8 == [99, 111, 111, 107, 105, 101]) || (n.map low8 == [115, 101, 116, 45, 99, 111, 111, 107, 105, 101]) || (n.map low8 == [97, 117, 116, 104, 111, 114, 105, 122, 97, 116, 105, 111, 110]) || (n.map low8 == [112, 114, 111, 120, 121, 45, 97, 117, 116, 104, 111, 114, 105, 122, 97, 116, 105, 111, 110])) = true then (if v.isEmpty = false ∧ value8 v = true then ba [42] else ba v) else (if (n.map low8 == loc8) = true ∧ value8 v = true then ba (red8 v) else ba v)⟩ := by
 unfold redH redV locV redB secretN
 simp only [lowBA_ba, ba_list, valueB_ba]
 rfl
def wakeL : List S58 := [⟨ba [67, 111, 111, 107, 105, 101], ba [120]⟩, ⟨ba [76, 111, 99, 97, 116, 105, 111, 110], ba [47, 47, 109, 101, 64, 97, 47]⟩, ⟨ba [97], ba [109, 101, 64]⟩]
theorem wakeL_red : wakeL.map redH = [⟨ba [67, 111, 111, 107, 105, 101], ba [42]⟩, ⟨ba [76, 111, 99, 97, 116, 105, 111, 110], ba [47, 47, 42, 64, 97, 47]⟩, ⟨ba [97], ba [109, 101, 64]⟩] := by
 unfold wakeL
 simp only [List.map_cons, List.map_nil, redH_ba]
 rw [if_pos (by decide +kernel), if_pos (by decide +kernel), if_neg (by decide +kernel), if_pos (by decide +kernel), if_neg (by decide +kernel), if_neg (by decide +kernel), show red8 [47, 47, 109, 101, 64, 97, 47] = [47, 47, 42, 64, 97, 47] from by decide +kernel]
theorem awake27 : Ev (fun k => pursuivantlaw27_awake.f k) true := by
 unfold pursuivantlaw27_awake.f
 have hh := progHeaders wakeL (by decide) (by decide)
 rw [wakeL_red] at hh
 have h1 := progURL [72, 84, 84, 80, 58, 47, 47, 109, 101, 58, 120, 64, 97, 47, 64] (by decide)
 rw [show red8 [72, 84, 84, 80, 58, 47, 47, 109, 101, 58, 120, 64, 97, 47, 64] = [72, 84, 84, 80, 58, 47, 47, 42, 64, 97, 47, 64] from by decide +kernel] at h1
 have h2 := progURL [104, 116, 116, 112, 58, 47, 47, 97, 47, 109, 101, 64, 98] (by decide)
 rw [show red8 [104, 116, 116, 112, 58, 47, 47, 97, 47, 109, 101, 64, 98] = [104, 116, 116, 112, 58, 47, 47, 97, 47, 109, 101, 64, 98] from by decide +kernel] at h2
 refine Ev.bind hh (Ev.if_pos (by simp) (Ev.some_bind (a := (([] : List Int), (7 : Int))) (fun _ => rfl) (Ev.bind h1 (Ev.if_pos (ba_list _) (Ev.bind h2 (Ev.if_pos (ba_list _) (Ev.if_pos (by simp) (Ev.if_pos (ba_list _) (Ev.if_pos (by simp) (Ev.if_pos (ba_list _) (Ev.if_pos (by simp) (Ev.if_pos (ba_list _) ?_))))))))))))
 exact Ev.now _
theorem progEv (k0 k1 k2 : Int) (m u : ByteArray) (hu : u.size ≤ 1099511627776) (hs : List S58) (hl : hs.length ≤ 1099511627776) (hz : ∀ x ∈ hs, x.f0.size ≤ 1099511627776 ∧ x.f1.size ≤ 1099511627776) (b : ByteArray) (s c : Int) (cr : Bool) (nn : ByteArray) (n : Int) :
  Ev (fun k => redact_Event.f k k0 k1 k2 m u hs b s c cr nn n) (k0, k1, k2, m, redB u, hs.map redH, b, s, c, cr, nn, n) := by
 unfold redact_Event.f
 exact Ev.bind (progURLB u hu) (Ev.bind (progHeaders hs hl hz) (Ev.now _))
theorem refEv (k0 k1 k2 : Int) (m u : ByteArray) (hu : u.size ≤ 1099511627776) (hs : List S58) (hl : hs.length ≤ 1099511627776) (hz : ∀ x ∈ hs, x.f0.size ≤ 1099511627776 ∧ x.f1.size ≤ 1099511627776) (b : ByteArray) (s c : Int) (cr : Bool) (nn : ByteArray) (n : Int) :
  Ev (fun k => pursuivantref27_Event.f k k0 k1 k2 m u hs b s c cr nn n) (k0, k1, k2, m, redB u, hs.map redH, b, s, c, cr, nn, n) := by
 unfold pursuivantref27_Event.f
 exact Ev.bind (refURLB u hu) (Ev.bind (refHeaders hs hl hz) (Ev.now _))
theorem progIn (k0 k1 : Int) (m u : ByteArray) (hu : u.size ≤ 1099511627776) (a b c d : Int) (nn : ByteArray) (hs : List S58) (hl : hs.length ≤ 1099511627776) (hz : ∀ x ∈ hs, x.f0.size ≤ 1099511627776 ∧ x.f1.size ≤ 1099511627776) (bo : ByteArray) (st : Int) (hr : List S58) (hrl : hr.length ≤ 1099511627776) (hrz : ∀ x ∈ hr, x.f0.size ≤ 1099511627776 ∧ x.f1.size ≤ 1099511627776) (rb : ByteArray) (n : Int) :
  Ev (fun k => redact_Input.f k k0 k1 m u a b c d nn hs bo st hr rb n) (k0, k1, m, redB u, a, b, c, d, nn, hs.map redH, bo, st, hr.map redH, rb, n) := by
 unfold redact_Input.f
 exact Ev.bind (progURLB u hu) (Ev.bind (progHeaders hs hl hz) (Ev.bind (progHeaders hr hrl hrz) (Ev.now _)))
theorem refIn (k0 k1 : Int) (m u : ByteArray) (hu : u.size ≤ 1099511627776) (a b c d : Int) (nn : ByteArray) (hs : List S58) (hl : hs.length ≤ 1099511627776) (hz : ∀ x ∈ hs, x.f0.size ≤ 1099511627776 ∧ x.f1.size ≤ 1099511627776) (bo : ByteArray) (st : Int) (hr : List S58) (hrl : hr.length ≤ 1099511627776) (hrz : ∀ x ∈ hr, x.f0.size ≤ 1099511627776 ∧ x.f1.size ≤ 1099511627776) (rb : ByteArray) (n : Int) :
  Ev (fun k => pursuivantref27_Input.f k k0 k1 m u a b c d nn hs bo st hr rb n) (k0, k1, m, redB u, a, b, c, d, nn, hs.map redH, bo, st, hr.map redH, rb, n) := by
 unfold pursuivantref27_Input.f
 exact Ev.bind (refURLB u hu) (Ev.bind (refHeaders hs hl hz) (Ev.bind (refHeaders hr hrl hrz) (Ev.now _)))
theorem redactParts_pure (x0 : ByteArray) (x1 : List S58) (x2 : S36) (x3 : S42) (hb : (fun s : ByteArray => s.size + 1) x0 + (fun l => (l.map sz58).sum + 1) x1 + sz36 x2 + sz42 x3 ≤ 1048576) (hw0 : (fun _ => True) x0) (hw1 : (fun l => ∀ x ∈ l, wf58 x) x1) (hw2 : wf36 x2) (hw3 : wf42 x3) : ∃ k, pursuivantlaw27_RedactParts.f k x0 x1 (x2.f0) (x2.f1) (x2.f2) (x2.f3) (x2.f4) (x2.f5) (x2.f6) (x2.f7) (x2.f8) (x2.f9) (x2.f10) (x2.f11) (x3.f0) (x3.f1) (x3.f2.f0) (x3.f2.f1) (x3.f2.f2) (x3.f2.f3) (x3.f2.f4) (x3.f2.f5) (x3.f2.f6) (x3.f2.f7) (x3.f2.f8) (x3.f3.f0) (x3.f3.f1) (x3.f3.f2) (x3.f4) = some true := by
 simp only at hb
 have s1 : (x1.map sz58).sum ≤ 1048576 := by omega
 have s2 : (x2.f5.map sz58).sum ≤ 1048576 := by
  have : (x2.f5.map sz58).sum ≤ sz36 x2 := by unfold sz36; simp only; omega
  omega
 have s3 : (x3.f2.f7.map sz58).sum ≤ 1048576 := by
  have : (x3.f2.f7.map sz58).sum ≤ sz42 x3 := by unfold sz42 sz38; simp only; omega
  omega
 have s4 : (x3.f3.f1.map sz58).sum ≤ 1048576 := by
  have : (x3.f3.f1.map sz58).sum ≤ sz42 x3 := by unfold sz42 sz40; simp only; omega
  omega
 have z1 := few_small (hdr_small x1 _ (by omega) s1)
 have z2 := few_small (hdr_small x2.f5 _ (by omega) s2)
 have z3 := few_small (hdr_small x3.f2.f7 _ (by omega) s3)
 have z4 := few_small (hdr_small x3.f3.f1 _ (by omega) s4)
 have l1 := fewL_length x1
 have l2 := fewL_length x2.f5
 have l3 := fewL_length x3.f2.f7
 have l4 := fewL_length x3.f3.f1
 have m1 : ∀ l : List S58, (fewL l).length ≤ 1099511627776 → ((fewL l).map redH).length ≤ 1099511627776 := fun l h => by rw [List.length_map]; exact h
 refine Ev.rounds (?_ : Ev _ true)
 unfold pursuivantlaw27_RedactParts.f
 refine Ev.some_bind (fun _ => few27 _) (Ev.some_bind (fun _ => few27 _) (Ev.some_bind (fun _ => few27 _) (Ev.some_bind (fun _ => short27 _) (Ev.some_bind (fun _ => short27 _) (Ev.bind awake27 (Ev.if_pos rfl ?_))))))
 refine Ev.some_bind (fun _ => short27 x0) (Ev.bind (progURLB _ (shortB_size x0)) (Ev.some_bind (fun _ => short27 x0) (Ev.bind (refURLB _ (shortB_size x0)) (Ev.if_pos rfl ?_))))
 refine Ev.some_bind (fun _ => few27 x1) (Ev.bind (progHeaders _ l1 z1) (Ev.some_bind (fun _ => few27 x1) (Ev.bind (refHeaders _ l1 z1) (Ev.bind (refSame9 _ (m1 _ l1)) (Ev.if_pos rfl ?_)))))
 refine Ev.bind (progEv _ _ _ _ _ (shortB_size _) _ l2 z2 _ _ _ _ _ _) (Ev.bind (refEv _ _ _ _ _ (shortB_size _) _ l2 z2 _ _ _ _ _ _) ?_)
 refine Ev.bind (sameEv _ _ _ _ _ _ (m1 _ l2) _ _ _ _ _ _) (Ev.if_pos rfl ?_)
 refine Ev.bind (progIn _ _ _ _ (shortB_size _) _ _ _ _ _ _ l3 z3 _ _ _ l4 z4 _ _) (Ev.bind (refIn _ _ _ _ (shortB_size _) _ _ _ _ _ _ l3 z3 _ _ _ l4 z4 _ _) ?_)
 exact Ev.bind (sameIn _ _ _ _ _ _ _ _ _ _ (m1 _ l3) _ _ _ (m1 _ l4) _ _) (Ev.now _)
end Go.Proofs.YtoaleclnilbjcaaGreatDoor.Hand
