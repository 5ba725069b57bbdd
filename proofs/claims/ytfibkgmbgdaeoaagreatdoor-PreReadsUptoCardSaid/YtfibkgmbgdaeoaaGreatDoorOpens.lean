/- How the laws' arguments open: each type's kind, size and well-formedness. No condition. -/
import Derived.Test.YtfibkgmbgdaeoaaGreatDoorOpen
import Derived.Test.YtfibkgmbgdaeoaaGreatDoorK
import Derived.KernelRfl
namespace Go.Proofs.YtfibkgmbgdaeoaaGreatDoor.Hand
open Go.RowKit Go.Proofs.YtfibkgmbgdaeoaaGreatDoorW.PrintWords
set_option linter.unusedVariables false
theorem opens9 : Opens Tryz.prog 9 Kd.string (fun s : ByteArray => s.size + 1) (fun _ => True) := Opens.string Tryz.underlying9 (by kernel_rfl)
def sz45 (x : S45) : Nat := ((fun s : ByteArray => s.size + 1) x.f0 + (fun s : ByteArray => s.size + 1) x.f1) + 1
def wf45 (x : S45) : Prop := ((fun _ => True) x.f0 ∧ (fun _ => True) x.f1)
theorem opens45 : Opens Tryz.prog 45 k45 sz45 wf45 := Opens.struct Tryz.underlying45 (by kernel_rfl) (OpensF.cons rfl opens9 (OpensF.one rfl opens9)) (fun x : S45 => (x.f0, x.f1)) (fun p => ⟨p.1, p.2⟩) (fun _ => rfl)
theorem opens22 : Opens Tryz.prog 22 (Kd.slice 45 k45) (fun l => (l.map sz45).sum + 1) (fun l => ∀ x ∈ l, wf45 x) := Opens.slice Tryz.underlying22 (by kernel_rfl) opens45
theorem opens3 : Opens Tryz.prog 3 (Kd.int .i64) (fun _ => 1) (fun n => (Lit.int .i64 n).wf = true) := Opens.int Tryz.underlying3 (by kernel_rfl)
def sz30 (x : S30) : Nat := ((fun _ => 1) x.f0 + ((fun l => (l.map sz45).sum + 1) x.f1 + (fun s : ByteArray => s.size + 1) x.f2)) + 1
def wf30 (x : S30) : Prop := ((fun n => (Lit.int .i64 n).wf = true) x.f0 ∧ ((fun l => ∀ x ∈ l, wf45 x) x.f1 ∧ (fun _ => True) x.f2))
theorem opens30 : Opens Tryz.prog 30 k30 sz30 wf30 := Opens.struct Tryz.underlying30 (by kernel_rfl) (OpensF.cons rfl opens3 (OpensF.cons rfl opens22 (OpensF.one rfl opens9))) (fun x : S30 => (x.f0, x.f1, x.f2)) (fun p => ⟨p.1, p.2.1, p.2.2⟩) (fun _ => rfl)
theorem opens31 : Opens Tryz.prog 31 (Kd.slice 9 Kd.string) (fun l => (l.map (fun s : ByteArray => s.size + 1)).sum + 1) (fun l => ∀ x ∈ l, (fun _ => True) x) := Opens.slice Tryz.underlying31 (by kernel_rfl) opens9
end Go.Proofs.YtfibkgmbgdaeoaaGreatDoor.Hand
