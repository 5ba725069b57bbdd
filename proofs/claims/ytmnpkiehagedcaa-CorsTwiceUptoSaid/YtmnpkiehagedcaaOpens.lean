/- How the laws' arguments open: each type's kind, size and well-formedness. No condition. -/
import Derived.Test.YtmnpkiehagedcaaOpen
import Derived.Test.YtmnpkiehagedcaaK
import Derived.KernelRfl
namespace Go.Proofs.Ytmnpkiehagedcaa.Hand
open Go.RowKit Go.Proofs.YtmnpkiehagedcaaW.PrintWords
set_option linter.unusedVariables false
theorem opens9 : Opens Try.prog 9 Kd.string (fun s : ByteArray => s.size + 1) (fun _ => True) := Opens.string Try.underlying9 (by kernel_rfl)
def sz27 (x : S27) : Nat := ((fun s : ByteArray => s.size + 1) x.f0 + (fun s : ByteArray => s.size + 1) x.f1) + 1
def wf27 (x : S27) : Prop := ((fun _ => True) x.f0 ∧ (fun _ => True) x.f1)
theorem opens27 : Opens Try.prog 27 k27 sz27 wf27 := Opens.struct Try.underlying27 (by kernel_rfl) (OpensF.cons rfl opens9 (OpensF.one rfl opens9)) (fun x : S27 => (x.f0, x.f1)) (fun p => ⟨p.1, p.2⟩) (fun _ => rfl)
theorem opens22 : Opens Try.prog 22 (Kd.slice 27 k27) (fun l => (l.map sz27).sum + 1) (fun l => ∀ x ∈ l, wf27 x) := Opens.slice Try.underlying22 (by kernel_rfl) opens27
theorem opens3 : Opens Try.prog 3 (Kd.int .i64) (fun _ => 1) (fun n => (Lit.int .i64 n).wf = true) := Opens.int Try.underlying3 (by kernel_rfl)
end Go.Proofs.Ytmnpkiehagedcaa.Hand
