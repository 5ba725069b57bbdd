/- The law UrlTexts in plain Lean: the two packages agree on what may be, on its text and its port. Conditions: at most 2^20 bytes of bulk. -/
import Derived.Test.YtindkgcbglonhaaDoorUrlS
import Derived.Test.YtindkgcbglonhaaDoorFV3
import Derived.Test.YtindkgcbglonhaaDoorOpens
namespace Go.Proofs.YtindkgcbglonhaaDoor.Hand
open Go.RowKit Go.Proofs.YtindkgcbglonhaaDoorW.PrintWords Go.Proofs.YtindkgcbglonhaaDoorW.PrintLast Go.Proofs.YtindkgcbglonhaaDoorW.PrintMore
set_option linter.unusedVariables false
set_option linter.unusedSimpArgs false

deriving instance DecidableEq for U8
def wake6 : List UInt8 := [72, 84, 84, 80, 58, 47, 47, 109, 101, 64, 65, 46, 101, 120, 97, 109, 112, 108, 101, 58, 56, 48, 63, 120, 35, 121]
def wake6u : U8 := ⟨[104, 116, 116, 112], [109, 101], [97, 46, 101, 120, 97, 109, 112, 108, 101], 0, [47], true, [120], true, [121]⟩
theorem wake6_parse : parse8 wake6 = (wake6u, 0) := by decide +kernel
theorem wake6_ftp : parse8 [102, 116, 112, 58, 47, 47, 97, 47] = (U8.none, 3) := by decide +kernel
theorem wake6_good : wake6u.good = true := by decide +kernel
theorem wake6_text : wake6u.textG = [104, 116, 116, 112, 58, 47, 47, 109, 101, 64, 97, 46, 101, 120, 97, 109, 112, 108, 101, 47, 63, 120, 35, 121] := by decide +kernel
theorem wake6_small : wake6u.Small := ⟨by decide, by decide, by decide, by decide, by decide, by decide⟩
theorem Ev.get' {α : Type} {g : Nat → Option α} {r : α} (h : Ev g r) : ∃ k, g k = some r := by obtain ⟨k, hk⟩ := h; exact ⟨k, hk k (Nat.le_refl k)⟩
theorem awake6 : Ev (fun k => pursuivantlaw06_awake.f k) true := by
  unfold pursuivantlaw06_awake.f
  have h1 := progParse wake6 (by decide)
  rw [wake6_parse] at h1
  have h2 := progParse [102, 116, 112, 58, 47, 47, 97, 47] (by decide)
  rw [wake6_ftp] at h2
  refine Ev.bind h1 (Ev.bind h2 (Ev.if_pos rfl ?_))
  refine Ev.bind (progTextG wake6u wake6_small) ?_
  rw [wake6_text]
  refine Ev.if_pos (by rw [ba_list]) (Ev.some_bind (fun _ => progPortU wake6u) (Ev.if_pos rfl (Ev.if_pos (ba_list _) (Ev.if_pos rfl ?_))))
  refine Ev.bind (progGood wake6u wake6_small) ?_
  rw [wake6_good]
  exact Ev.now _
/-- A URL of the model over lists. -/
def u8of (x : S39) : U8 := ⟨x.f0.toList, x.f1.toList, x.f2.toList, x.f3, x.f4.toList, x.f5, x.f6.toList, x.f7, x.f8.toList⟩
theorem ba_toList (x : ByteArray) : ba x.toList = x := toList_inj'.1 (ba_list _)
theorem size_toList (x : ByteArray) : x.toList.length = x.size := by rw [← ba_size', ba_toList]
theorem u8of_small (x : S39) (n : Nat) (hn : n ≤ 1099511627) (h : x.f0.size ≤ n ∧ x.f1.size ≤ n ∧ x.f2.size ≤ n ∧ x.f4.size ≤ n ∧ x.f6.size ≤ n ∧ x.f8.size ≤ n) : (u8of x).Small := by
  obtain ⟨h0, h1, h2, h4, h6, h8⟩ := h
  constructor <;> simp only [u8of, size_toList] <;> omega
theorem urlTexts_pure (x0 : S39) (hb : sz39 x0 ≤ 1048576) (hw0 : wf39 x0) : ∃ k, pursuivantlaw06_UrlTexts.f k x0.f0 x0.f1 x0.f2 x0.f3 x0.f4 x0.f5 x0.f6 x0.f7 x0.f8 = some true := by
  have hs : (u8of x0).Small := u8of_small x0 1048576 (by omega) (by simp only [sz39] at hb; omega)
  refine Ev.get' (?_ : Ev (fun k => pursuivantlaw06_UrlTexts.f k x0.f0 x0.f1 x0.f2 x0.f3 x0.f4 x0.f5 x0.f6 x0.f7 x0.f8) true)
  have g1 := progGood (u8of x0) hs
  have g2 := refGoodU (u8of x0) hs
  have t1 := progTextG (u8of x0) hs
  have t2 := refTextG (u8of x0) hs
  have p1 := progPortU (u8of x0)
  have p2 := refPortU (u8of x0)
  simp only [u8of, ba_toList] at g1 g2 t1 t2 p1 p2
  unfold pursuivantlaw06_UrlTexts.f
  refine Ev.bind awake6 (Ev.if_pos rfl (Ev.bind g1 (Ev.bind g2 (Ev.if_pos (by simp) (Ev.bind t1 (Ev.bind t2 (Ev.if_pos rfl ?_)))))))
  refine Ev.some_bind (fun _ => p1) (Ev.some_bind (fun _ => p2) ?_)
  simpa using Ev.now _
end Go.Proofs.YtindkgcbglonhaaDoor.Hand
