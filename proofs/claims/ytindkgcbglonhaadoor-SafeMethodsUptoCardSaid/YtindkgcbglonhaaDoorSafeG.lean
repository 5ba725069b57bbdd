/- What the rest of package safe and its reference compute, over lists of bytes: headers, forbidden names, the sorted names of those that may not go anywhere. Conditions: at most 2^30 bytes. -/
import Derived.Test.YtindkgcbglonhaaDoorSafeF
namespace Go.Proofs.YtindkgcbglonhaaDoor.Hand
open Go.RowKit Go.Proofs.YtindkgcbglonhaaDoorW.PrintWords Go.Proofs.YtindkgcbglonhaaDoorW.PrintLast Go.Proofs.YtindkgcbglonhaaDoorW.PrintMore
set_option linter.unusedVariables false
set_option linter.unusedSimpArgs false

/-! ### Forbidden -/
def forbL : List (List UInt8) := [[97, 99, 99, 101, 112, 116, 45, 99, 104, 97, 114, 115, 101, 116], [97, 99, 99, 101, 112, 116, 45, 101, 110, 99, 111, 100, 105, 110, 103], [97, 99, 99, 101, 115, 115, 45, 99, 111, 110, 116, 114, 111, 108, 45, 114, 101, 113, 117, 101, 115, 116, 45, 104, 101, 97, 100, 101, 114, 115], [97, 99, 99, 101, 115, 115, 45, 99, 111, 110, 116, 114, 111, 108, 45, 114, 101, 113, 117, 101, 115, 116, 45, 109, 101, 116, 104, 111, 100], [99, 111, 110, 110, 101, 99, 116, 105, 111, 110], [99, 111, 110, 116, 101, 110, 116, 45, 108, 101, 110, 103, 116, 104], [99, 111, 111, 107, 105, 101], [99, 111, 111, 107, 105, 101, 50], [100, 97, 116, 101], [100, 110, 116], [101, 120, 112, 101, 99, 116], [104, 111, 115, 116], [107, 101, 101, 112, 45, 97, 108, 105, 118, 101], [111, 114, 105, 103, 105, 110], [114, 101, 102, 101, 114, 101, 114], [115, 101, 116, 45, 99, 111, 111, 107, 105, 101], [116, 101], [116, 114, 97, 105, 108, 101, 114], [116, 114, 97, 110, 115, 102, 101, 114, 45, 101, 110, 99, 111, 100, 105, 110, 103], [117, 112, 103, 114, 97, 100, 101], [118, 105, 97]]
def forb8 (n : List UInt8) : Bool := decide (n.map low8 ∈ forbL) || (Lib.hasPrefix (n.map low8) [112, 114, 111, 120, 121, 45] || Lib.hasPrefix (n.map low8) [115, 101, 99, 45])
theorem progForb (n : List UInt8) (h : n.length ≤ 1099511627776) : Ev (fun k => safe_Forbidden.f k (ba n)) (forb8 n) := by
  unfold safe_Forbidden.f forb8
  rw [progLower n h]
  simp only [Option.bind_some, ba_list]
  generalize n.map low8 = m
  have hj2 : Ev (fun k => safe_Forbidden.j2 k (ba m) false) (Lib.hasPrefix m [112, 114, 111, 120, 121, 45] || Lib.hasPrefix m [115, 101, 99, 45]) := by
    refine Ev.step (fun k => by rw [safe_Forbidden.j2]) ?_
    refine Ev.if_neg (by simp) (Ev.some_bind (fun _ => rfl) (Ev.ite (fun h => ?_) (fun h => ?_)))
    · rw [ba_data] at h
      rw [show Lib.hasPrefix m [112, 114, 111, 120, 121, 45] = true from h, Bool.true_or]; exact Ev.now _
    · rw [ba_data] at h
      rw [show Lib.hasPrefix m [112, 114, 111, 120, 121, 45] = false from by simpa using h, Bool.false_or]
      refine Ev.some_bind (fun _ => rfl) ?_
      rw [ba_data]; exact Ev.now _
  have t2 : ∀ r, r = true → Ev (fun k => safe_Forbidden.j2 k (ba m) true) r := by
    rintro r rfl
    refine Ev.step (fun k => by rw [safe_Forbidden.j2]) ?_
    exact Ev.if_pos rfl (Ev.now _)
  have t1 : ∀ r, r = true → Ev (fun k => safe_Forbidden.j1 k (ba m) (ba m) true) r := by
    rintro r rfl
    refine Ev.step (fun k => by rw [safe_Forbidden.j1]) ?_
    exact Ev.if_pos rfl (Ev.now _)
  have t0 : ∀ r, r = true → Ev (fun k => safe_Forbidden.j0 k (ba m) (ba m) true) r := by
    rintro r rfl
    refine Ev.step (fun k => by rw [safe_Forbidden.j0]) ?_
    exact Ev.if_pos rfl (Ev.now _)
  have s1 : ∀ (x : List UInt8) (r : Bool) (f : Nat → Option Bool), (m = x → r = true) → (m ≠ x → Ev f r) → Ev (fun k => if m = x then safe_Forbidden.j1 k (ba m) (ba m) (m == x) else f k) r := fun x r f h1 h2 => by
    refine Ev.ite (fun e => ?_) h2
    rw [show (m == x) = true from by simpa using e]; exact t1 r (h1 e)
  have s0 : ∀ (x : List UInt8) (r : Bool) (f : Nat → Option Bool), (m = x → r = true) → (m ≠ x → Ev f r) → Ev (fun k => if m = x then safe_Forbidden.j0 k (ba m) (ba m) (m == x) else f k) r := fun x r f h1 h2 => by
    refine Ev.ite (fun e => ?_) h2
    rw [show (m == x) = true from by simpa using e]; exact t0 r (h1 e)
  have s2 : ∀ (x : List UInt8) (r : Bool) (f : Nat → Option Bool), (m = x → r = true) → (m ≠ x → Ev f r) → Ev (fun k => if m = x then safe_Forbidden.j2 k (ba m) (m == x) else f k) r := fun x r f h1 h2 => by
    refine Ev.ite (fun e => ?_) h2
    rw [show (m == x) = true from by simpa using e]; exact t2 r (h1 e)
  have yes : ∀ x ∈ forbL, m = x → (decide (m ∈ forbL) || (Lib.hasPrefix m [112, 114, 111, 120, 121, 45] || Lib.hasPrefix m [115, 101, 99, 45])) = true := fun x hx e => by
    subst e; simp [hx]
  refine s0 _ _ _ (yes _ (by decide)) (fun n1 => s0 _ _ _ (yes _ (by decide)) (fun n2 => s0 _ _ _ (yes _ (by decide)) (fun n3 => ?_)))
  have f0 : ∀ x, (m = x → False) → (m == x) = false := fun x h => by simpa using h
  by_cases n4 : m = [97, 99, 99, 101, 115, 115, 45, 99, 111, 110, 116, 114, 111, 108, 45, 114, 101, 113, 117, 101, 115, 116, 45, 109, 101, 116, 104, 111, 100]
  · rw [show (m == _) = true from by simpa using n4]; exact t0 _ (yes _ (by decide) n4)
  rw [f0 _ n4]
  refine Ev.step (fun k => by rw [safe_Forbidden.j0]) ?_
  refine Ev.if_neg (by simp) ?_
  simp only [ba_list]
  refine s1 _ _ _ (yes _ (by decide)) (fun n5 => s1 _ _ _ (yes _ (by decide)) (fun n6 => s1 _ _ _ (yes _ (by decide)) (fun n7 => s1 _ _ _ (yes _ (by decide)) (fun n8 => s1 _ _ _ (yes _ (by decide)) (fun n9 => s1 _ _ _ (yes _ (by decide)) (fun n10 => s1 _ _ _ (yes _ (by decide)) (fun n11 => s1 _ _ _ (yes _ (by decide)) (fun n12 => s1 _ _ _ (yes _ (by decide)) (fun n13 => ?_)))))))))
  by_cases n14 : m = [111, 114, 105, 103, 105, 110]
  · rw [show (m == _) = true from by simpa using n14]; exact t1 _ (yes _ (by decide) n14)
  rw [f0 _ n14]
  refine Ev.step (fun k => by rw [safe_Forbidden.j1]) ?_
  refine Ev.if_neg (by simp) ?_
  simp only [ba_list]
  refine s2 _ _ _ (yes _ (by decide)) (fun n15 => s2 _ _ _ (yes _ (by decide)) (fun n16 => s2 _ _ _ (yes _ (by decide)) (fun n17 => s2 _ _ _ (yes _ (by decide)) (fun n18 => s2 _ _ _ (yes _ (by decide)) (fun n19 => s2 _ _ _ (yes _ (by decide)) (fun n20 => ?_))))))
  by_cases n21 : m = [118, 105, 97]
  · rw [show (m == _) = true from by simpa using n21]; exact t2 _ (yes _ (by decide) n21)
  rw [f0 _ n21]
  have no : decide (m ∈ forbL) = false := by
    apply decide_eq_false
    unfold forbL
    simp only [List.mem_cons, List.not_mem_nil, or_false, not_or]
    exact ⟨n1, n2, n3, n4, n5, n6, n7, n8, n9, n10, n11, n12, n13, n14, n15, n16, n17, n18, n19, n20, n21⟩
  rw [no, Bool.false_or]
  exact hj2
end Go.Proofs.YtindkgcbglonhaaDoor.Hand
