/- How the laws' arguments open: each type's kind, size and well-formedness. No condition. -/
import Derived.Test.YtoaleclnilbjcaaGreatDoorOpen
import Derived.Test.YtoaleclnilbjcaaGreatDoorK
import Derived.KernelRfl
namespace Go.Proofs.YtoaleclnilbjcaaGreatDoor.Hand
open Go.RowKit Go.Proofs.YtoaleclnilbjcaaGreatDoorW.PrintWords
set_option linter.unusedVariables false
theorem opens9 : Opens Tryz.prog 9 Kd.string (fun s : ByteArray => s.size + 1) (fun _ => True) := Opens.string Tryz.underlying9 (by kernel_rfl)
def sz58 (x : S58) : Nat := ((fun s : ByteArray => s.size + 1) x.f0 + (fun s : ByteArray => s.size + 1) x.f1) + 1
def wf58 (x : S58) : Prop := ((fun _ => True) x.f0 ∧ (fun _ => True) x.f1)
theorem opens58 : Opens Tryz.prog 58 k58 sz58 wf58 := Opens.struct Tryz.underlying58 (by kernel_rfl) (OpensF.cons rfl opens9 (OpensF.one rfl opens9)) (fun x : S58 => (x.f0, x.f1)) (fun p => ⟨p.1, p.2⟩) (fun _ => rfl)
theorem opens33 : Opens Tryz.prog 33 (Kd.slice 58 k58) (fun l => (l.map sz58).sum + 1) (fun l => ∀ x ∈ l, wf58 x) := Opens.slice Tryz.underlying33 (by kernel_rfl) opens58
theorem opens3 : Opens Tryz.prog 3 (Kd.int .i64) (fun _ => 1) (fun n => (Lit.int .i64 n).wf = true) := Opens.int Tryz.underlying3 (by kernel_rfl)
theorem opens4 : Opens Tryz.prog 4 Kd.bool (fun _ => 1) (fun _ => True) := Opens.bool Tryz.underlying4 (by kernel_rfl)
theorem opens34 : Opens Tryz.prog 34 (Kd.int .u64) (fun _ => 1) (fun n => (Lit.int .u64 n).wf = true) := Opens.int Tryz.underlying34 (by kernel_rfl)
def sz36 (x : S36) : Nat := ((fun _ => 1) x.f0 + ((fun _ => 1) x.f1 + ((fun _ => 1) x.f2 + ((fun s : ByteArray => s.size + 1) x.f3 + ((fun s : ByteArray => s.size + 1) x.f4 + ((fun l => (l.map sz58).sum + 1) x.f5 + ((fun s : ByteArray => s.size + 1) x.f6 + ((fun _ => 1) x.f7 + ((fun _ => 1) x.f8 + ((fun _ => 1) x.f9 + ((fun s : ByteArray => s.size + 1) x.f10 + (fun _ => 1) x.f11))))))))))) + 1
def wf36 (x : S36) : Prop := ((fun n => (Lit.int .i64 n).wf = true) x.f0 ∧ ((fun n => (Lit.int .i64 n).wf = true) x.f1 ∧ ((fun n => (Lit.int .i64 n).wf = true) x.f2 ∧ ((fun _ => True) x.f3 ∧ ((fun _ => True) x.f4 ∧ ((fun l => ∀ x ∈ l, wf58 x) x.f5 ∧ ((fun _ => True) x.f6 ∧ ((fun n => (Lit.int .i64 n).wf = true) x.f7 ∧ ((fun n => (Lit.int .i64 n).wf = true) x.f8 ∧ ((fun _ => True) x.f9 ∧ ((fun _ => True) x.f10 ∧ (fun n => (Lit.int .u64 n).wf = true) x.f11)))))))))))
theorem opens36 : Opens Tryz.prog 36 k36 sz36 wf36 := Opens.struct Tryz.underlying36 (by kernel_rfl) (OpensF.cons rfl opens3 (OpensF.cons rfl opens3 (OpensF.cons rfl opens3 (OpensF.cons rfl opens9 (OpensF.cons rfl opens9 (OpensF.cons rfl opens33 (OpensF.cons rfl opens9 (OpensF.cons rfl opens3 (OpensF.cons rfl opens3 (OpensF.cons rfl opens4 (OpensF.cons rfl opens9 (OpensF.one rfl opens34)))))))))))) (fun x : S36 => (x.f0, x.f1, x.f2, x.f3, x.f4, x.f5, x.f6, x.f7, x.f8, x.f9, x.f10, x.f11)) (fun p => ⟨p.1, p.2.1, p.2.2.1, p.2.2.2.1, p.2.2.2.2.1, p.2.2.2.2.2.1, p.2.2.2.2.2.2.1, p.2.2.2.2.2.2.2.1, p.2.2.2.2.2.2.2.2.1, p.2.2.2.2.2.2.2.2.2.1, p.2.2.2.2.2.2.2.2.2.2.1, p.2.2.2.2.2.2.2.2.2.2.2⟩) (fun _ => rfl)
def sz38 (x : S38) : Nat := ((fun s : ByteArray => s.size + 1) x.f0 + ((fun s : ByteArray => s.size + 1) x.f1 + ((fun _ => 1) x.f2 + ((fun _ => 1) x.f3 + ((fun _ => 1) x.f4 + ((fun _ => 1) x.f5 + ((fun s : ByteArray => s.size + 1) x.f6 + ((fun l => (l.map sz58).sum + 1) x.f7 + (fun s : ByteArray => s.size + 1) x.f8)))))))) + 1
def wf38 (x : S38) : Prop := ((fun _ => True) x.f0 ∧ ((fun _ => True) x.f1 ∧ ((fun n => (Lit.int .i64 n).wf = true) x.f2 ∧ ((fun n => (Lit.int .i64 n).wf = true) x.f3 ∧ ((fun n => (Lit.int .i64 n).wf = true) x.f4 ∧ ((fun n => (Lit.int .i64 n).wf = true) x.f5 ∧ ((fun _ => True) x.f6 ∧ ((fun l => ∀ x ∈ l, wf58 x) x.f7 ∧ (fun _ => True) x.f8))))))))
theorem opens38 : Opens Tryz.prog 38 k38 sz38 wf38 := Opens.struct Tryz.underlying38 (by kernel_rfl) (OpensF.cons rfl opens9 (OpensF.cons rfl opens9 (OpensF.cons rfl opens3 (OpensF.cons rfl opens3 (OpensF.cons rfl opens3 (OpensF.cons rfl opens3 (OpensF.cons rfl opens9 (OpensF.cons rfl opens33 (OpensF.one rfl opens9))))))))) (fun x : S38 => (x.f0, x.f1, x.f2, x.f3, x.f4, x.f5, x.f6, x.f7, x.f8)) (fun p => ⟨p.1, p.2.1, p.2.2.1, p.2.2.2.1, p.2.2.2.2.1, p.2.2.2.2.2.1, p.2.2.2.2.2.2.1, p.2.2.2.2.2.2.2.1, p.2.2.2.2.2.2.2.2⟩) (fun _ => rfl)
def sz40 (x : S40) : Nat := ((fun _ => 1) x.f0 + ((fun l => (l.map sz58).sum + 1) x.f1 + (fun s : ByteArray => s.size + 1) x.f2)) + 1
def wf40 (x : S40) : Prop := ((fun n => (Lit.int .i64 n).wf = true) x.f0 ∧ ((fun l => ∀ x ∈ l, wf58 x) x.f1 ∧ (fun _ => True) x.f2))
theorem opens40 : Opens Tryz.prog 40 k40 sz40 wf40 := Opens.struct Tryz.underlying40 (by kernel_rfl) (OpensF.cons rfl opens3 (OpensF.cons rfl opens33 (OpensF.one rfl opens9))) (fun x : S40 => (x.f0, x.f1, x.f2)) (fun p => ⟨p.1, p.2.1, p.2.2⟩) (fun _ => rfl)
def sz42 (x : S42) : Nat := ((fun _ => 1) x.f0 + ((fun _ => 1) x.f1 + (sz38 x.f2 + (sz40 x.f3 + (fun _ => 1) x.f4)))) + 1
def wf42 (x : S42) : Prop := ((fun n => (Lit.int .i64 n).wf = true) x.f0 ∧ ((fun n => (Lit.int .i64 n).wf = true) x.f1 ∧ (wf38 x.f2 ∧ (wf40 x.f3 ∧ (fun n => (Lit.int .u64 n).wf = true) x.f4))))
theorem opens42 : Opens Tryz.prog 42 k42 sz42 wf42 := Opens.struct Tryz.underlying42 (by kernel_rfl) (OpensF.cons rfl opens3 (OpensF.cons rfl opens3 (OpensF.cons rfl opens38 (OpensF.cons rfl opens40 (OpensF.one rfl opens34))))) (fun x : S42 => (x.f0, x.f1, x.f2, x.f3, x.f4)) (fun p => ⟨p.1, p.2.1, p.2.2.1, p.2.2.2.1, p.2.2.2.2⟩) (fun _ => rfl)
end Go.Proofs.YtoaleclnilbjcaaGreatDoor.Hand
