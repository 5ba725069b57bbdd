/- Steps of a region that draws its order, each in one short row: what the printed texts say at length stands here as default proofs. No condition. -/
import Derived.Test.YtfibkgmbgdaeoaaGreatDoorWTab
import Derived.Test.YtfibkgmbgdaeoaaGreatDoorWMore
import Derived.Tactics
import Derived.WalkKit
import Derived.KernelRfl
import Derived.Test.YtfibkgmbgdaeoaaGreatDoorProg
import Derived.Below
import Derived.Shelf.Vars
import Derived.Lib.LaidTab
import Derived.LaidSub
import Derived.Test.YtfibkgmbgdaeoaaGreatDoorWWords
import Derived.Test.YtfibkgmbgdaeoaaGreatDoorK
namespace Go.Proofs.YtfibkgmbgdaeoaaGreatDoor.Hand
open Go.RowKit Go.Proofs.YtfibkgmbgdaeoaaGreatDoorW.PrintWords Go.Proofs.YtfibkgmbgdaeoaaGreatDoorW.PrintLast Go.Proofs.YtfibkgmbgdaeoaaGreatDoorW.PrintMore
set_option linter.unusedVariables false

def tb_ (n m : Nat) : Array Bool := ⟨(List.range n).map fun i => m.testBit i⟩
section
variable {P : Program} {ops : Array Oper} {Q : Exit → Act → World → Prop} {md : Region.Mode} {S S1 S2 S3 S4 : World → Prop} {ds : List Nat} {oi : Oper} {v : Value} {fuel : Nat} {l : Array Bool} {a a' : Act} {w : World} {T : Bool × List (List Nat × List Nat)} {B : List Nat}
theorem pz_ (i n : Nat) (l' : Array Bool) (hT : rtab md ops = T) (h : wpAnyLast P md ops Q S ds fuel l' a' w) (hi : ops[i]? = some oi := by rfl) (hN : oi.dst = some n := by rfl) (hc : anyT T l.toList l'.toList i = true := by kernel_rfl) (hQ : ∀ c a w, Q (.panic c) (a.put oi.dst v) w → Q (.panic c) a w := by exact fun _ _ _ h => h)
  (hy : Yields P ops oi v a := by refine Or.inl ⟨by rfl, ?_⟩; intro w'; go_simp; with_reducible rfl) (ha : a.put (some n) v = a' := by simp only [Act.put, List.setIfInBounds_toArray, List.set_cons_zero, List.set_cons_succ, i64_w, i32_w]; rfl) : wpAnyLast P md ops Q S ds (fuel + 1) l a w :=
 pure_ l' hi hN (any_of hT hc) hQ hy ha h
end
end Go.Proofs.YtfibkgmbgdaeoaaGreatDoor.Hand

/- What every contract of this seat takes of the world: of the library's own variables, what the code reads of them. It stays through draws, new blocks and whatever leaves the old blocks alone. No condition. -/
namespace Go.Proofs.YtfibkgmbgdaeoaaGreatDoor.Hand
open Go.RowKit Go.Proofs.YtfibkgmbgdaeoaaGreatDoorW.PrintWords
theorem nil_bne (l : List UInt8) : (l != []) = !l.isEmpty := by cases l <;> rfl
theorem nil_beq (l : List UInt8) : (l == []) = l.isEmpty := by cases l <;> rfl
structure GW (w : World) : Prop where
 maxLen : ∃ m, w.cell? ⟨0, 0, none⟩ = some (.int .i64 m)
 ok : True
theorem GW.below {w w' : World} (h : GW w) (hb : Below w.heap.size w w') : GW w' where
 maxLen := by
  obtain ⟨m, hm⟩ := h.maxLen
  exact ⟨m, pw_cell_below hb hm⟩
 ok := trivial
theorem GW.drewN {w : World} (h : GW w) {n : Nat} : GW (w.drewN n) := h.below (pw_below_drewN (Below.refl _ _) n)
theorem GW.drew {w : World} (h : GW w) : GW w.drew := h.below (below_drew (Below.refl _ _))
theorem GW.shaped {w : World} (h : w.ShapedOpen Tryz.prog) : GW w where
 maxLen := cell_of_shapedOpen_int (zero := #[.int .i64 0]) h (by decide) (by kernel_rfl) rfl (by kernel_rfl) (by kernel_rfl) Tryz.underlying3
 ok := trivial
end Go.Proofs.YtfibkgmbgdaeoaaGreatDoor.Hand

/- slices.Clip at each element type: the same slice, its capacity its length. Condition: lengths below 2^63. -/
namespace Go.Proofs.YtfibkgmbgdaeoaaGreatDoor.Hand
open Go.RowKit Go.Proofs.YtfibkgmbgdaeoaaGreatDoorW.PrintWords Go.Proofs.YtfibkgmbgdaeoaaGreatDoorW.PrintLast Go.Proofs.YtfibkgmbgdaeoaaGreatDoorW.PrintMore
set_option linter.unusedVariables false
set_option linter.unusedSimpArgs false
theorem clipS (A : Option Addr) (n c : Nat) (w : World) (hn : n ≤ c) (hc : n ≤ 9223372036854775807) :
  Calls Tryz.prog 43 #[.slice A n c] w fun e w' => e = .returned (.slice A n n) ∧ w = w' := by
 go_enter Tryz.func43, Tryz.ntmps43
 go_wp2
 go_ret
 exact ⟨rfl, rfl⟩
theorem clipH (A : Option Addr) (n c : Nat) (w : World) (hn : n ≤ c) (hc : n ≤ 9223372036854775807) :
  Calls Tryz.prog 24 #[.slice A n c] w fun e w' => e = .returned (.slice A n n) ∧ w = w' := by
 go_enter Tryz.func24, Tryz.ntmps24
 go_wp2
 go_ret
 exact ⟨rfl, rfl⟩
theorem clipV {α : Type} {d : Kd α} {e : Nat} {W : World} {base : Nat} {ok : Nat → Prop} {A : Option Addr} {c : Nat} {xs : List α} (h : Kd.V d e W base ok (.slice A xs.length c) xs) : Kd.V d e W base ok (.slice A xs.length xs.length) xs := by
 obtain ⟨A', c', hv, hl, hf⟩ := h
 injection hv with h1 h2 h3
 subst h1
 exact ⟨A, xs.length, rfl, Nat.le_refl _, hf⟩
end Go.Proofs.YtfibkgmbgdaeoaaGreatDoor.Hand
