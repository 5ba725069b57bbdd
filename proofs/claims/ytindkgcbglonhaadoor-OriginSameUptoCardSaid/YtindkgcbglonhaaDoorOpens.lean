/- How the laws' arguments open: each type's kind, size and well-formedness. No condition. -/
import Derived.Test.YtindkgcbglonhaaDoorOpen
import Derived.Test.YtindkgcbglonhaaDoorK
import Derived.KernelRfl
namespace Go.Proofs.YtindkgcbglonhaaDoor.Hand
open Go.RowKit Go.Proofs.YtindkgcbglonhaaDoorW.PrintWords
set_option linter.unusedVariables false
theorem opens9 : Opens Tryd.prog 9 Kd.string (fun s : ByteArray => s.size + 1) (fun _ => True) := Opens.string Tryd.underlying9 (by kernel_rfl)
theorem opens3 : Opens Tryd.prog 3 (Kd.int .i64) (fun _ => 1) (fun n => (Lit.int .i64 n).wf = true) := Opens.int Tryd.underlying3 (by kernel_rfl)
theorem opens4 : Opens Tryd.prog 4 Kd.bool (fun _ => 1) (fun _ => True) := Opens.bool Tryd.underlying4 (by kernel_rfl)
def sz39 (x : S39) : Nat := ((fun s : ByteArray => s.size + 1) x.f0 + ((fun s : ByteArray => s.size + 1) x.f1 + ((fun s : ByteArray => s.size + 1) x.f2 + ((fun _ => 1) x.f3 + ((fun s : ByteArray => s.size + 1) x.f4 + ((fun _ => 1) x.f5 + ((fun s : ByteArray => s.size + 1) x.f6 + ((fun _ => 1) x.f7 + (fun s : ByteArray => s.size + 1) x.f8)))))))) + 1
def wf39 (x : S39) : Prop := ((fun _ => True) x.f0 ∧ ((fun _ => True) x.f1 ∧ ((fun _ => True) x.f2 ∧ ((fun n => (Lit.int .i64 n).wf = true) x.f3 ∧ ((fun _ => True) x.f4 ∧ ((fun _ => True) x.f5 ∧ ((fun _ => True) x.f6 ∧ ((fun _ => True) x.f7 ∧ (fun _ => True) x.f8))))))))
theorem opens39 : Opens Tryd.prog 39 k39 sz39 wf39 := Opens.struct Tryd.underlying39 (by kernel_rfl) (OpensF.cons rfl opens9 (OpensF.cons rfl opens9 (OpensF.cons rfl opens9 (OpensF.cons rfl opens3 (OpensF.cons rfl opens9 (OpensF.cons rfl opens4 (OpensF.cons rfl opens9 (OpensF.cons rfl opens4 (OpensF.one rfl opens9))))))))) (fun x : S39 => (x.f0, x.f1, x.f2, x.f3, x.f4, x.f5, x.f6, x.f7, x.f8)) (fun p => ⟨p.1, p.2.1, p.2.2.1, p.2.2.2.1, p.2.2.2.2.1, p.2.2.2.2.2.1, p.2.2.2.2.2.2.1, p.2.2.2.2.2.2.2.1, p.2.2.2.2.2.2.2.2⟩) (fun _ => rfl)
def sz50 (x : S50) : Nat := ((fun s : ByteArray => s.size + 1) x.f0 + ((fun s : ByteArray => s.size + 1) x.f1 + (fun _ => 1) x.f2)) + 1
def wf50 (x : S50) : Prop := ((fun _ => True) x.f0 ∧ ((fun _ => True) x.f1 ∧ (fun n => (Lit.int .i64 n).wf = true) x.f2))
theorem opens50 : Opens Tryd.prog 50 k50 sz50 wf50 := Opens.struct Tryd.underlying50 (by kernel_rfl) (OpensF.cons rfl opens9 (OpensF.cons rfl opens9 (OpensF.one rfl opens3))) (fun x : S50 => (x.f0, x.f1, x.f2)) (fun p => ⟨p.1, p.2.1, p.2.2⟩) (fun _ => rfl)
end Go.Proofs.YtindkgcbglonhaaDoor.Hand
