/- How the laws' arguments open: each type's kind, size and well-formedness. No condition. -/
import Derived.Test.YtindkgcbglonhaaDoorOpen
import Derived.Test.YtindkgcbglonhaaDoorK
import Derived.KernelRfl
namespace Go.Proofs.YtindkgcbglonhaaDoor.Hand
open Go.RowKit Go.Proofs.YtindkgcbglonhaaDoorW.PrintWords
set_option linter.unusedVariables false
theorem opens9 : Opens Tryd.prog 9 Kd.string (fun s : ByteArray => s.size + 1) (fun _ => True) := Opens.string Tryd.underlying9 (by kernel_rfl)
def sz31 (x : S31) : Nat := ((fun s : ByteArray => s.size + 1) x.f0 + (fun s : ByteArray => s.size + 1) x.f1) + 1
def wf31 (x : S31) : Prop := ((fun _ => True) x.f0 ∧ (fun _ => True) x.f1)
theorem opens31 : Opens Tryd.prog 31 k31 sz31 wf31 := Opens.struct Tryd.underlying31 (by kernel_rfl) (OpensF.cons rfl opens9 (OpensF.one rfl opens9)) (fun x : S31 => (x.f0, x.f1)) (fun p => ⟨p.1, p.2⟩) (fun _ => rfl)
theorem opens33 : Opens Tryd.prog 33 (Kd.slice 31 k31) (fun l => (l.map sz31).sum + 1) (fun l => ∀ x ∈ l, wf31 x) := Opens.slice Tryd.underlying33 (by kernel_rfl) opens31
end Go.Proofs.YtindkgcbglonhaaDoor.Hand
