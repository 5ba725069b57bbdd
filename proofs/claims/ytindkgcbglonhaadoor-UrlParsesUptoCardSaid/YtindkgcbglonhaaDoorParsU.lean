/- How the laws' arguments open: each type's kind, size and well-formedness. No condition. -/
import Derived.Test.YtindkgcbglonhaaDoorOpen
import Derived.Test.YtindkgcbglonhaaDoorK
import Derived.KernelRfl
import Derived.Test.YtindkgcbglonhaaDoorUrlS
import Derived.Test.YtindkgcbglonhaaDoorFV3
import Derived.Test.YtindkgcbglonhaaDoorUrlQ
import Derived.Test.YtindkgcbglonhaaDoorFX2
namespace Go.Proofs.YtindkgcbglonhaaDoor.Hand
open Go.RowKit Go.Proofs.YtindkgcbglonhaaDoorW.PrintWords
set_option linter.unusedVariables false
theorem opens9 : Opens Tryd.prog 9 Kd.string (fun s : ByteArray => s.size + 1) (fun _ => True) := Opens.string Tryd.underlying9 (by kernel_rfl)
end Go.Proofs.YtindkgcbglonhaaDoor.Hand

/- The law UrlTexts in plain Lean: the two packages agree on what may be, on its text and its port. Conditions: at most 2^20 bytes of bulk. -/
namespace Go.Proofs.YtindkgcbglonhaaDoor.Hand
open Go.RowKit Go.Proofs.YtindkgcbglonhaaDoorW.PrintWords Go.Proofs.YtindkgcbglonhaaDoorW.PrintLast Go.Proofs.YtindkgcbglonhaaDoorW.PrintMore
set_option linter.unusedVariables false
set_option linter.unusedSimpArgs false

deriving instance DecidableEq for U8
def wake6 : List UInt8 := [72, 84, 84, 80, 58, 47, 47, 109, 101, 64, 65, 46, 101, 120, 97, 109, 112, 108, 101, 58, 56, 48, 63, 120, 35, 121]
def wake6u : U8 := ⟨[104, 116, 116, 112], [109, 101], [97, 46, 101, 120, 97, 109, 112, 108, 101], 0, [47], true, [120], true, [121]⟩
theorem wake6_parse : parse8 wake6 = (wake6u, 0) := by decide +kernel
theorem wake6_ftp : parse8 [102, 116, 112, 58, 47, 47, 97, 47] = (U8.none, 3) := by decide +kernel
theorem wake6_good : wake6u.good = true := by decide +kernel
theorem wake6_text : wake6u.textG = [104, 116, 116, 112, 58, 47, 47, 109, 101, 64, 97, 46, 101, 120, 97, 109, 112, 108, 101, 47, 63, 120, 35, 121] := by decide +kernel
theorem wake6_small : wake6u.Small := ⟨by decide, by decide, by decide, by decide, by decide, by decide⟩
theorem Ev.get' {α : Type} {g : Nat → Option α} {r : α} (h : Ev g r) : ∃ k, g k = some r := by obtain ⟨k, hk⟩ := h; exact ⟨k, hk k (Nat.le_refl k)⟩
theorem awake6 : Ev (fun k => pursuivantlaw06_awake.f k) true := by
 unfold pursuivantlaw06_awake.f
 have h1 := progParse wake6 (by decide)
 rw [wake6_parse] at h1
 have h2 := progParse [102, 116, 112, 58, 47, 47, 97, 47] (by decide)
 rw [wake6_ftp] at h2
 refine Ev.bind h1 (Ev.bind h2 (Ev.if_pos rfl ?_))
 refine Ev.bind (progTextG wake6u wake6_small) ?_
 rw [wake6_text]
 refine Ev.if_pos (by rw [ba_list]) (Ev.some_bind (fun _ => progPortU wake6u) (Ev.if_pos rfl (Ev.if_pos (ba_list _) (Ev.if_pos rfl ?_))))
 refine Ev.bind (progGood wake6u wake6_small) ?_
 rw [wake6_good]
 exact Ev.now _
end Go.Proofs.YtindkgcbglonhaaDoor.Hand

/- The law UrlParses in plain Lean: the package reads texts as the reference does. Conditions: at most 2^20 bytes of bulk. -/
namespace Go.Proofs.YtindkgcbglonhaaDoor.Hand
open Go.RowKit Go.Proofs.YtindkgcbglonhaaDoorW.PrintWords Go.Proofs.YtindkgcbglonhaaDoorW.PrintLast Go.Proofs.YtindkgcbglonhaaDoorW.PrintMore
set_option linter.unusedVariables false
set_option linter.unusedSimpArgs false

theorem urlParses_pure (x0 : ByteArray) (hb : (fun s : ByteArray => s.size + 1) x0 ≤ 1048576) (hw0 : (fun _ => True) x0) : ∃ k, pursuivantlaw06_UrlParses.f k x0 = some true := by
 obtain ⟨s, rfl⟩ := ba_of x0
 have hs : s.length ≤ 109951162 := by simp at hb; omega
 refine Ev.get' (?_ : Ev (fun k => pursuivantlaw06_UrlParses.f k (ba s)) true)
 unfold pursuivantlaw06_UrlParses.f
 refine Ev.bind (progParse s hs) (Ev.bind (refParse s hs) (Ev.bind awake6 (Ev.if_pos rfl (Ev.if_pos (by simp) ?_))))
 simpa using Ev.now _
end Go.Proofs.YtindkgcbglonhaaDoor.Hand
