/- Law 14 in plain Lean: what Needs and Ask say, by the program and by the document; the law PreAsks. Condition: at most 2^20 bytes of bulk. -/
import Derived.Test.YtfibkgmbgdaeoaaGreatDoorPreF
import Derived.Test.YtfibkgmbgdaeoaaGreatDoorFYP1
namespace Go.Proofs.YtfibkgmbgdaeoaaGreatDoor.Hand
open Go.RowKit Go.Proofs.YtfibkgmbgdaeoaaGreatDoorW.PrintWords Go.Proofs.YtfibkgmbgdaeoaaGreatDoorW.PrintLast Go.Proofs.YtfibkgmbgdaeoaaGreatDoorW.PrintMore
set_option linter.unusedVariables false
set_option linter.unusedSimpArgs false

theorem few14 (l : List Hd) : pursuivantlaw14_few.f l = some (l.take 30) := by
 unfold pursuivantlaw14_few.f
 exact few_some l
def needsB (m : Tx) (l : List Hd) : Bool := l.any (fun h => !anyw h) || !simple8 m
theorem badL_ne (l : List Hd) : (0 < (sortS (badL l)).length) ↔ l.any (fun h => !anyw h) = true := by
 rw [List.length_pos_iff_exists_mem]
 constructor
 ·rintro ⟨x, hx⟩
  rw [mem_sortS] at hx
  unfold badL at hx
  obtain ⟨h, hh, _⟩ := List.mem_map.1 hx
  rw [List.mem_filter] at hh
  exact List.any_eq_true.2 ⟨h, hh.1, hh.2⟩
 ·intro h
  obtain ⟨x, hx, hn⟩ := List.any_eq_true.1 h
  refine ⟨(nameL x).map low8, ?_⟩
  rw [mem_sortS]
  unfold badL
  exact List.mem_map.2 ⟨x, List.mem_filter.2 ⟨hx, hn⟩, rfl⟩
theorem progNeeds (m : Tx) (l : List Hd) (hl : l.length ≤ 1099511627776) (hs : ∀ h ∈ l, small h) : Ev (fun k => pre_Needs.f k (ba m) l) (needsB m l) := by
 unfold pre_Needs.f
 refine Ev.some_bind (fun _ => progSimple m) ?_
 by_cases h : simple8 m = true
 ·refine Ev.if_pos h (Ev.bind (progUnsafe l hl hs) ?_)
  have e : needsB m l = decide (((((sortS (badL l)).map ba).length : Nat) : Int) > 0) := by
   unfold needsB
   rw [h, List.length_map, Bool.not_true, Bool.or_false, Bool.eq_iff_iff, ← badL_ne, decide_eq_true_iff]
   omega
  rw [e]
  exact Ev.now _
 ·refine Ev.if_neg h ?_
  have e : needsB m l = true := by unfold needsB; rw [Bool.eq_false_iff.2 h]; simp
  rw [e]
  exact Ev.now _
def hAcc : Hd := ⟨(⟨#[65, 99, 99, 101, 112, 116]⟩ : ByteArray), (⟨#[42, 47, 42]⟩ : ByteArray)⟩
def hMet (m : ByteArray) : Hd := ⟨(⟨#[65, 99, 99, 101, 115, 115, 45, 67, 111, 110, 116, 114, 111, 108, 45, 82, 101, 113, 117, 101, 115, 116, 45, 77, 101, 116, 104, 111, 100]⟩ : ByteArray), m⟩
def hNam (s : ByteArray) : Hd := ⟨(⟨#[65, 99, 99, 101, 115, 115, 45, 67, 111, 110, 116, 114, 111, 108, 45, 82, 101, 113, 117, 101, 115, 116, 45, 72, 101, 97, 100, 101, 114, 115]⟩ : ByteArray), s⟩
def hOri (f : ByteArray) : Hd := ⟨(⟨#[79, 114, 105, 103, 105, 110]⟩ : ByteArray), f⟩
def askL (f m : ByteArray) (xs : List Tx) : List Hd := [hAcc, hMet m] ++ (if 0 < xs.length then [hNam (ba (Lib.join xs [44]))] else []) ++ [hOri f]
theorem map_data (xs : List Tx) : (xs.map ba).map (·.data.toList) = xs := by
 rw [List.map_map]
 conv => rhs; rw [← List.map_id xs]
 exact List.map_congr_left fun x _ => by simp
theorem progAsk (f m : ByteArray) (l : List Hd) (hl : l.length ≤ 1048576) (hs : ∀ h ∈ l, small h) (hj : (Lib.join (sortS (badL l)) [44]).length ≤ 140737488355328) :
  Ev (fun k => pre_Ask.f k f m l) (askL f m (sortS (badL l))) := by
 have hn := Nat.le_trans (sortS_length (badL l)) (badL_length l)
 unfold pre_Ask.f
 refine Ev.some_bind (fun _ => rfl) (Ev.bind (progUnsafe l (by omega) hs) ?_)
 generalize sortS (badL l) = xs at *
 unfold askL
 by_cases h : 0 < xs.length
 ·rw [if_pos h]
  refine Ev.if_pos (by rw [List.length_map]; omega) ?_
  have e : strings_Join.f (xs.map ba) (⟨#[44]⟩ : ByteArray) = some (ba (Lib.join xs [44])) := by
   unfold strings_Join.f
   rw [map_data, List.length_map, if_pos ⟨h, by omega, hj⟩]
   rfl
  refine Ev.some_bind (fun _ => e) (Ev.if_pos (by simp) (Ev.some_bind (fun _ => rfl) (Ev.if_pos (by simp) ?_)))
  have ec : ∀ y : List Hd, y.length ≤ 4398046511104 → slices_ClipH.f y = some y := fun y hy => if_pos hy
  refine Ev.some_bind (fun _ => ec _ (by simp)) (Ev.now _)
 ·rw [if_neg h]
  refine Ev.if_neg (by rw [List.length_map]; omega) (Ev.if_pos (by simp) ?_)
  have ec : ∀ y : List Hd, y.length ≤ 4398046511104 → slices_ClipH.f y = some y := fun y hy => if_pos hy
  refine Ev.some_bind (fun _ => ec _ (by simp)) (Ev.now _)
theorem awakeAsk : Ev (fun k => pre_Ask.f k (⟨#[104, 116, 116, 112, 58, 47, 47, 97]⟩ : ByteArray) (⟨#[80, 85, 84]⟩ : ByteArray) [(⟨(⟨#[88, 45, 66]⟩ : ByteArray), (⟨#[]⟩ : ByteArray)⟩ : Hd), ⟨(⟨#[88, 45, 65]⟩ : ByteArray), (⟨#[]⟩ : ByteArray)⟩]) (askL (⟨#[104, 116, 116, 112, 58, 47, 47, 97]⟩ : ByteArray) (⟨#[80, 85, 84]⟩ : ByteArray) [[120, 45, 97], [120, 45, 98]]) := by
 have e : sortS (badL [(⟨(⟨#[88, 45, 66]⟩ : ByteArray), (⟨#[]⟩ : ByteArray)⟩ : Hd), ⟨(⟨#[88, 45, 65]⟩ : ByteArray), (⟨#[]⟩ : ByteArray)⟩]) = [[120, 45, 97], [120, 45, 98]] :=
  strict_unique _ _ (sortS_strict _) (by decide +kernel) (fun x => by
   rw [mem_sortS]
   have : badL [(⟨(⟨#[88, 45, 66]⟩ : ByteArray), (⟨#[]⟩ : ByteArray)⟩ : Hd), ⟨(⟨#[88, 45, 65]⟩ : ByteArray), (⟨#[]⟩ : ByteArray)⟩] = [[120, 45, 98], [120, 45, 97]] := by decide +kernel
   rw [this]
   simp only [List.mem_cons, List.not_mem_nil, or_false]
   constructor
   ·rintro (h | h) <;> simp [h]
   ·rintro (h | h) <;> simp [h])
 have := progAsk (⟨#[104, 116, 116, 112, 58, 47, 47, 97]⟩ : ByteArray) (⟨#[80, 85, 84]⟩ : ByteArray) [(⟨(⟨#[88, 45, 66]⟩ : ByteArray), (⟨#[]⟩ : ByteArray)⟩ : Hd), ⟨(⟨#[88, 45, 65]⟩ : ByteArray), (⟨#[]⟩ : ByteArray)⟩] (by decide) (fun h hh => by
  simp only [List.mem_cons, List.not_mem_nil, or_false] at hh
  rcases hh with rfl | rfl <;> exact ⟨by decide, by decide⟩) (by rw [e]; decide)
 rw [e] at this
 exact this
theorem awake14 : Ev (fun k => pursuivantlaw14_awake.f k) true := by
 unfold pursuivantlaw14_awake.f
 refine Ev.bind awakeAsk ?_
 refine Ev.some_bind (a := ([ba [80, 85, 84], ba [80, 65, 84, 67, 72]], [], 60, true)) (fun _ => by decide +kernel) ?_
 refine Ev.if_pos (by decide +kernel) (Ev.if_pos (by decide +kernel) (Ev.if_pos (by decide +kernel) (Ev.if_pos (by decide +kernel) (Ev.if_pos (by decide +kernel) (Ev.if_pos rfl (Ev.if_pos rfl ?_))))))
 refine Ev.some_bind (a := true) (fun _ => by decide +kernel) (Ev.if_pos rfl ?_)
 refine Ev.some_bind (a := false) (fun _ => by decide +kernel) (Ev.if_neg (by simp) ?_)
 refine Ev.some_bind (a := false) (fun _ => by decide +kernel) (Ev.if_neg (by simp) ?_)
 have h1 := progNeeds [80, 85, 84] [] (by decide) (fun _ h => by cases h)
 have h2 := progNeeds [71, 69, 84] [] (by decide) (fun _ h => by cases h)
 rw [show needsB [80, 85, 84] [] = true by decide +kernel] at h1
 rw [show needsB [71, 69, 84] [] = false by decide +kernel] at h2
 exact Ev.bind h1 (Ev.if_pos rfl (Ev.bind h2 (Ev.now _)))
end Go.Proofs.YtfibkgmbgdaeoaaGreatDoor.Hand
