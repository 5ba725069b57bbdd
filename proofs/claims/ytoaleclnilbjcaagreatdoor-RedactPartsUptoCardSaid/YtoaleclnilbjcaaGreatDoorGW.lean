/- What every contract of this seat takes of the world: of the library's own variables, what the code reads of them. It stays through draws, new blocks and whatever leaves the old blocks alone. No condition. -/
import Derived.Test.YtoaleclnilbjcaaGreatDoorProg
import Derived.Below
import Derived.KernelRfl
import Derived.Shelf.Vars
import Derived.Lib.LaidTab
import Derived.LaidSub
import Derived.Lib.ItoaNum
import Derived.Test.YtoaleclnilbjcaaGreatDoorWWords
namespace Go.Proofs.YtoaleclnilbjcaaGreatDoor.Hand
open Go.RowKit Go.Proofs.YtoaleclnilbjcaaGreatDoorW.PrintWords
theorem nil_bne (l : List UInt8) : (l != []) = !l.isEmpty := by cases l <;> rfl
theorem nil_beq (l : List UInt8) : (l == []) = l.isEmpty := by cases l <;> rfl
theorem laid_mem {P : Program} {w : World} {n : String} {d : DataW Unit} : ∀ {l : List (String × DataW Unit)} {ps : List MemPlace}, DataW.LaidVars P w l ps → (n, d) ∈ l →
  ∃ g t cs fuel p, P.globalNamed n = some g ∧ (P.globals[g]?).map (·.type) = some t ∧ w.var? P n = some cs ∧ DataW.trod (fun _ => ()) P w 0 (fun _ => true) false fuel t cs.toList = some (d, p)
 | [], _, _, h => by cases h
 | (m, e) :: r, _, ⟨g, t, cs, fuel, p, q, h1, h2, h3, h4, hr, _⟩, h => by
  rcases List.mem_cons.1 h with h | h
  ·injection h with e1 e2
   subst e1; subst e2
   exact ⟨g, t, cs, fuel, p, h1, h2, h3, h4⟩
  ·exact laid_mem hr h
theorem laidH_mem {P : Program} {w : World} {l : List (String × DataW Unit)} {n : String} {d : DataW Unit} (h : laidMetH P l w) (hm : (n, d) ∈ l) (hd : d.handleName? = none) :
  ∃ g t cs fuel p, P.globalNamed n = some g ∧ (P.globals[g]?).map (·.type) = some t ∧ w.var? P n = some cs ∧ DataW.trod (fun _ => ()) P w 0 (fun _ => true) false fuel t cs.toList = some (d, p) := by
 obtain ⟨⟨ps, hl, _⟩, _⟩ := laidMetH_iff.1 h
 exact laid_mem hl (List.mem_filter.2 ⟨hm, by simp [hd]⟩)
theorem tabIs_of_laid {P : Program} {W : World} {name : String} {k : IntKind} {zs : List Int} {l : List (String × DataW Unit)} {g : Nat} {t e : TypeId} {n : Nat}
  (hg : P.globalNamed name = some g) (hty : (P.globals[g]?).map (·.type) = some t) (ht : P.underlying t = some (.array n e)) (he : P.underlying e = some (.int k)) (hce : P.cellsOf e = 1) (hct : P.cellsOf t = n)
  (h : laidMetH P l W) (hm : (name, Lib.tabData k zs) ∈ l) : Lib.TabIs P W name k zs := by
 obtain ⟨g', t', cs, fuel, p, hg', ht', hvar, hd⟩ := laidH_mem h hm rfl
 obtain rfl := Option.some.inj (hg.symm.trans hg')
 obtain rfl := Option.some.inj (hty.symm.trans ht')
 unfold Lib.TabIs
 rw [hvar, ← Lib.cells_of_tab ht he hce hct hd]
theorem tab_below {P : Program} {w w' : World} {name : String} {k : IntKind} {zs : List Int} (h : Lib.TabIs P w name k zs) (hb : Below w.heap.size w w') : Lib.TabIs P w' name k zs := by
 unfold Lib.TabIs at *
 rw [← h]
 unfold World.var?
 cases hg : P.globalNamed name with
 | none => rfl
 | some g =>
  simp only [Option.bind_some]
  rcases Nat.lt_or_ge g w.heap.size with hl | hl
  ·rw [hb.block g hl]
  ·exfalso
   unfold World.var? at h
   rw [hg] at h
   simp only [Option.bind_some] at h
   rw [Array.getElem?_eq_none (by omega)] at h
   cases h
structure GW (w : World) : Prop where
 maxLen : ∃ m, w.cell? ⟨0, 0, none⟩ = some (.int .i64 m)
 pow : Lib.TabIs Tryz.prog w "internal/strconv.uint64pow10" .u64 Lib.pow10Tab
 ok : True
theorem GW.below {w w' : World} (h : GW w) (hb : Below w.heap.size w w') : GW w' where
 maxLen := by
  obtain ⟨m, hm⟩ := h.maxLen
  exact ⟨m, pw_cell_below hb hm⟩
 pow := tab_below h.pow hb
 ok := trivial
theorem GW.drewN {w : World} (h : GW w) {n : Nat} : GW (w.drewN n) := h.below (pw_below_drewN (Below.refl _ _) n)
theorem GW.drew {w : World} (h : GW w) : GW w.drew := h.below (below_drew (Below.refl _ _))
structure LaidGW (l : List (String × DataW Unit)) : Prop where
 pow : ("internal/strconv.uint64pow10", (Lib.tabData .u64 Lib.pow10Tab : DataW Unit)) ∈ l
theorem GW.laid {w : World} {l : List (String × DataW Unit)} (h : w.ShapedOpen Tryz.prog) (hL : laidMetH Tryz.prog l w) (hl : LaidGW l) : GW w where
 maxLen := cell_of_shapedOpen_int (zero := #[.int .i64 0]) h (by decide) (by kernel_rfl) rfl (by kernel_rfl) (by kernel_rfl) Tryz.underlying3
 pow := tabIs_of_laid (g := 3) (n := 20) (by kernel_rfl) (t := 235) (by kernel_rfl) (by kernel_rfl) Tryz.underlying34 (by kernel_rfl) (by kernel_rfl) hL hl.pow
 ok := trivial
end Go.Proofs.YtoaleclnilbjcaaGreatDoor.Hand
