/- How the laws' arguments open: each type's kind, size and well-formedness. No condition. -/
import Derived.Test.YtmnpkiehagedcaaDoorOpen
import Derived.Test.YtmnpkiehagedcaaDoorK
import Derived.KernelRfl
namespace Go.Proofs.YtmnpkiehagedcaaDoor.Hand
open Go.RowKit Go.Proofs.YtmnpkiehagedcaaDoorW.PrintWords
set_option linter.unusedVariables false
theorem opens9 : Opens Tryd.prog 9 Kd.string (fun s : ByteArray => s.size + 1) (fun _ => True) := Opens.string Tryd.underlying9 (by kernel_rfl)
def sz29 (x : S29) : Nat := ((fun s : ByteArray => s.size + 1) x.f0 + (fun s : ByteArray => s.size + 1) x.f1) + 1
def wf29 (x : S29) : Prop := ((fun _ => True) x.f0 ∧ (fun _ => True) x.f1)
theorem opens29 : Opens Tryd.prog 29 k29 sz29 wf29 := Opens.struct Tryd.underlying29 (by kernel_rfl) (OpensF.cons rfl opens9 (OpensF.one rfl opens9)) (fun x : S29 => (x.f0, x.f1)) (fun p => ⟨p.1, p.2⟩) (fun _ => rfl)
theorem opens22 : Opens Tryd.prog 22 (Kd.slice 29 k29) (fun l => (l.map sz29).sum + 1) (fun l => ∀ x ∈ l, wf29 x) := Opens.slice Tryd.underlying22 (by kernel_rfl) opens29
theorem opens30 : Opens Tryd.prog 30 (Kd.slice 9 Kd.string) (fun l => (l.map (fun s : ByteArray => s.size + 1)).sum + 1) (fun l => ∀ x ∈ l, (fun _ => True) x) := Opens.slice Tryd.underlying30 (by kernel_rfl) opens9
end Go.Proofs.YtmnpkiehagedcaaDoor.Hand
