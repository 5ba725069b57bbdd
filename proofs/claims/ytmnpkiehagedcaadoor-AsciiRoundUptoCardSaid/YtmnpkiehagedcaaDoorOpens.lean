/- How the laws' arguments open: each type's kind, size and well-formedness. No condition. -/
import Derived.Test.YtmnpkiehagedcaaDoorOpen
import Derived.Test.YtmnpkiehagedcaaDoorK
import Derived.KernelRfl
namespace Go.Proofs.YtmnpkiehagedcaaDoor.Hand
open Go.RowKit Go.Proofs.YtmnpkiehagedcaaDoorW.PrintWords
set_option linter.unusedVariables false
theorem opens9 : Opens Tryd.prog 9 Kd.string (fun s : ByteArray => s.size + 1) (fun _ => True) := Opens.string Tryd.underlying9 (by kernel_rfl)
theorem opens3 : Opens Tryd.prog 3 (Kd.int .i64) (fun _ => 1) (fun n => (Lit.int .i64 n).wf = true) := Opens.int Tryd.underlying3 (by kernel_rfl)
end Go.Proofs.YtmnpkiehagedcaaDoor.Hand
