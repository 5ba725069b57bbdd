/- The plain laws of host. -/
import Derived.Test.YtindkgcbglonhaaDoorFH1
import Derived.Test.YtindkgcbglonhaaDoorFA1
import Derived.Test.YtindkgcbglonhaaDoorFA2
import Derived.Test.YtindkgcbglonhaaDoorPlain
import Derived.Test.YtindkgcbglonhaaDoorTurned
import Derived.Test.YtindkgcbglonhaaDoorGW
import Derived.Test.YtindkgcbglonhaaDoorLib
import Derived.Lib.SplitLaws
import Derived.Deep.LoopGhost
import Derived.Lib.SlTrimSet
import Derived.Test.YtindkgcbglonhaaDoorHostG
import Derived.Test.YtindkgcbglonhaaDoorHostP
import Derived.Test.YtindkgcbglonhaaDoorHostN
import Derived.Test.YtindkgcbglonhaaDoorOpens
namespace Go.Proofs.YtindkgcbglonhaaDoor.Hand
open Go.RowKit Go.Proofs.YtindkgcbglonhaaDoorW.PrintWords Go.Proofs.YtindkgcbglonhaaDoorW.PrintLast Go.Proofs.YtindkgcbglonhaaDoorW.PrintMore
set_option linter.unusedVariables false
set_option linter.unusedSimpArgs false

theorem awake5 : Ev (fun k => pursuivantlaw05_awake.f k) true := by
  refine Ev.of (k := 60) pursuivantlaw05_awake.mono ?_
  have p1 : host_Port.f (⟨#[56, 48, 56, 48]⟩ : ByteArray) = some (8080, true) := (progPort [56, 48, 56, 48] (by decide)).trans (by decide +kernel)
  have p2 : host_Port.f (⟨#[48, 56, 48]⟩ : ByteArray) = some (0, false) := (progPort [48, 56, 48] (by decide)).trans (by decide +kernel)
  unfold pursuivantlaw05_awake.f
  rw [p1, p2]
  decide +kernel
theorem hostPorts_pure (x0 : ByteArray) (x1 : ByteArray) (hb : (fun s : ByteArray => s.size + 1) x0 + (fun s : ByteArray => s.size + 1) x1 ≤ 1048576) (hw0 : (fun _ => True) x0) (hw1 : (fun _ => True) x1) : ∃ k, pursuivantlaw05_HostPorts.f k x0 x1 = some true := by
  obtain ⟨s, rfl⟩ := ba_of x0
  obtain ⟨t, rfl⟩ := ba_of x1
  have hs : s.length ≤ 1099511627776 := by simp at hb; omega
  apply Ev.rounds
  unfold pursuivantlaw05_HostPorts.f
  refine Ev.some_bind (fun _ => progPort s hs) (Ev.bind (refPort s hs) (Ev.bind awake5 (Ev.if_pos rfl (Ev.if_pos rfl (Ev.if_pos (by simp) ?_)))))
  refine Ev.some_bind (fun _ => progDefault t) (Ev.some_bind (fun _ => refDefault t) ?_)
  simpa using Ev.now _
end Go.Proofs.YtindkgcbglonhaaDoor.Hand
