/- The row of SourceMatches. Condition: the arguments are of bulk at most 1048576 (the statement's second form). -/
import Derived.Test.YteemgpciheheoaaGreatDoorRRRFMT1
import Derived.Test.YteemgpciheheoaaGreatDoorRRRSrcY
import Derived.Test.YteemgpciheheoaaGreatDoorRRRUrlL
import Derived.Test.YteemgpciheheoaaGreatDoorRRRCards
import Derived.Test.YteemgpciheheoaaGreatDoorRRRTie
import Derived.WalkKit
import Derived.ProofKit
import Derived.OpenShut
import Derived.ShutString
import Derived.ChangeOld
import Derived.JoinedCond
import Derived.Deep.DeepHandedRow
import Derived.Lib.LaidTab
namespace Go.Proofs.YteemgpciheheoaaGreatDoorRRR.Hand
open Go.ChangeShapes Go.WideShapes Go.ChangeAt Go.RowKit Go.Proofs.YteemgpciheheoaaGreatDoorRRRW.PrintWords
open Go.ChangeMaps (open_string shut_string)
set_option linter.unusedVariables false
set_option linter.unusedSimpArgs false
namespace RSourceMatches
theorem own : ownKnob Tryz.prog.godebug = none := by kernel_rfl
theorem laidOut : laidOutB Tryz.prog = true := by kernel_rfl
set_option maxRecDepth 100000 in
theorem contract (H : Type) (enc : TypeId × Value → H) (W : World) (base : Nat) (args : Array Value) (ds gs : List (DataW H)) (before : List MemPlace)
    (hval : ∀ (j : Nat) t v, Tryz.f4.params[j]? = some t → args[j]? = some v → Value.okWide Tryz.prog W .any base t v)
    (hW : DataW.Whole enc Tryz.prog Tryz.f4.params.toList Rows.sourceMatchesSpec.vars false W args.toList ds gs before) (hk : Rows.uptoSmall H (ds ++ gs) = true) (hL : laidMetH Tryz.prog Rows.sourceMatchesUptoRow.laid W) (hsh : W.ShapedOpen Tryz.prog) :
    Calls Tryz.prog 4 args W fun e W' => ∃ v, e = .returned v ∧ Rows.sourceMatchesSpec.post enc Tryz.prog Tryz.f4 false true false false W args v W' := by
  have hW' := hW
  obtain ⟨p, q, hA0, hV, rfl, hfz, hnd⟩ := hW
  have hA : DataW.TrodAll enc Tryz.prog W 0 (fun _ => true) true Tryz.f4.params.toList args.toList ds p := hA0
  rw [Tryz.params4] at hA hval
  obtain ⟨v0, vs0, d0, ds0, p0, q0, hargs, rfl, rfl, h0, r0⟩ := trodAll_cons hA
  obtain ⟨v1, vs1, d1, ds1, p1, q1, rfl, rfl, rfl, h1, r1⟩ := trodAll_cons r0
  obtain ⟨v2, vs2, d2, ds2, p2, q2, rfl, rfl, rfl, h2, r2⟩ := trodAll_cons r1
  obtain ⟨v3, vs3, d3, ds3, p3, q3, rfl, rfl, rfl, h3, r3⟩ := trodAll_cons r2
  obtain ⟨rfl, rfl, rfl⟩ := trodAll_nil r3
  obtain rfl : args = #[v0, v1, v2, v3] := by cases args; simp_all
  obtain ⟨rfl, rfl⟩ := trodVars_none hV
  have k0 := h0
  have lt0 : ∀ x ∈ p0, x.block < W.heap.size := by obtain ⟨m, hm⟩ := k0; exact DataW.trod_lt m _ _ _ hm
  obtain ⟨cs0, rfl, _⟩ := okWide_struct Tryz.underlying23 (hval 0 23 v0 rfl rfl)
  obtain ⟨fuel0, hf0⟩ := h0
  obtain ⟨x0, hK0, hB0, hw0⟩ := opens23.op hf0
  have hcs0 := k23_open hK0
  obtain ⟨l0_⟩ := cs0
  simp [Value.cells] at hcs0
  subst hcs0
  have k1 := h1
  have lt1 : ∀ x ∈ p1, x.block < W.heap.size := by obtain ⟨m, hm⟩ := k1; exact DataW.trod_lt m _ _ _ hm
  obtain ⟨cs1, rfl, _⟩ := okWide_struct Tryz.underlying30 (hval 1 30 v1 rfl rfl)
  obtain ⟨fuel1, hf1⟩ := h1
  obtain ⟨x1, hK1, hB1, hw1⟩ := opens30.op hf1
  have hcs1 := k30_open hK1
  obtain ⟨l1_⟩ := cs1
  simp [Value.cells] at hcs1
  subst hcs1
  have k2 := h2
  have lt2 : ∀ x ∈ p2, x.block < W.heap.size := by obtain ⟨m, hm⟩ := k2; exact DataW.trod_lt m _ _ _ hm
  obtain ⟨cs2, rfl, _⟩ := okWide_struct Tryz.underlying32 (hval 2 32 v2 rfl rfl)
  obtain ⟨fuel2, hf2⟩ := h2
  obtain ⟨x2, hK2, hB2, hw2⟩ := opens32.op hf2
  have hcs2 := k32_open hK2
  obtain ⟨l2_⟩ := cs2
  simp [Value.cells] at hcs2
  subst hcs2
  have k3 := h3
  have lt3 : ∀ x ∈ p3, x.block < W.heap.size := by obtain ⟨m, hm⟩ := k3; exact DataW.trod_lt m _ _ _ hm
  obtain ⟨x3, rfl, _, _⟩ := open_bool Tryz.underlying4 (hval 3 4 v3 rfl rfl) h3
  have kk3 := k3
  obtain ⟨fuel3, hf3⟩ := kk3
  obtain ⟨y3, hy3, hB3, hw3⟩ := opens4.op hf3
  obtain rfl : x3 = y3 := by have := List.head_eq_of_cons_eq hy3; injection this
  have hsum : Rows.uptoBulk d0 + Rows.uptoBulk d1 + Rows.uptoBulk d2 + Rows.uptoBulk d3 ≤ 1048576 := by
    have h := of_decide_eq_true hk
    simp only [List.cons_append, List.nil_append, List.append_nil, Rows.uptoBulkAll] at h
    omega
  have hbulk : sz23 x0 + sz30 x1 + sz32 x2 + (fun _ => 1) x3 ≤ 1048576 := Nat.le_trans (Nat.add_le_add (Nat.add_le_add (Nat.add_le_add hB0 hB1) hB2) hB3) hsum
  obtain ⟨k, e⟩ := sourceMatches_pure x0 x1 x2 x3 hbulk hw0 hw1 hw2 hw3
  clear hA0 hk hbulk
  refine (pursuivantlaw11_SourceMatches.calls k (x0.f0) (x0.f1) (x0.f2) (x0.f3) (x0.f4) (x0.f5) (x0.f6) (x1.f0) (x1.f1) (x1.f2) (x1.f3) (x1.f4) (x1.f5) (x1.f6) (x1.f7) (x1.f8) (x2.f0) (x2.f1) (x2.f2) x3 true W (GW.laid hsh hL ⟨⟨_, _, List.mem_of_getElem? (show Rows.sourceMatchesUptoRow.laid[5]? = some (_, DataW.iface _ _) from rfl), rfl⟩, ⟨_, _, List.mem_of_getElem? (show Rows.sourceMatchesUptoRow.laid[4]? = some (_, DataW.iface _ _) from rfl), rfl⟩, List.mem_of_getElem? (show Rows.sourceMatchesUptoRow.laid[2]? = some (_, Lib.tabData .u64 Lib.pow10Tab) from rfl)⟩)  e rfl).mono fun e W' ⟨he, bel⟩ => ?_
  subst he
  exact ⟨_, rfl, _, _, _, [], _, [], hW', trodAll_mk1 (shut_bool Tryz.underlying4 _), (trodAll_cons_mk (Below.trod laidOut (by kernel_rfl) (of_decide_eq_true (by kernel_rfl)) k0 bel lt0) (trodAll_cons_mk (Below.trod laidOut (by kernel_rfl) (of_decide_eq_true (by kernel_rfl)) k1 bel lt1) (trodAll_cons_mk (Below.trod laidOut (by kernel_rfl) (of_decide_eq_true (by kernel_rfl)) k2 bel lt2) (trodAll_cons_mk (Below.trod laidOut (by kernel_rfl) (of_decide_eq_true (by kernel_rfl)) k3 bel lt3) trodAll_mk0)))), rfl, bel.frame _, fun h => by cases h⟩
def cells_laid_math_bits_deBruijn32tab : Array Value := #[.int .u8 0, .int .u8 1, .int .u8 28, .int .u8 2, .int .u8 29, .int .u8 14, .int .u8 24, .int .u8 3, .int .u8 30, .int .u8 22, .int .u8 20, .int .u8 15, .int .u8 25, .int .u8 17, .int .u8 4, .int .u8 8, .int .u8 31, .int .u8 27, .int .u8 13, .int .u8 23, .int .u8 21, .int .u8 19, .int .u8 16, .int .u8 7, .int .u8 26, .int .u8 12, .int .u8 18, .int .u8 6, .int .u8 11, .int .u8 5, .int .u8 10, .int .u8 9]
def cells_laid_math_bits_deBruijn64tab : Array Value := #[.int .u8 0, .int .u8 1, .int .u8 56, .int .u8 2, .int .u8 57, .int .u8 49, .int .u8 28, .int .u8 3, .int .u8 61, .int .u8 58, .int .u8 42, .int .u8 50, .int .u8 38, .int .u8 29, .int .u8 17, .int .u8 4, .int .u8 62, .int .u8 47, .int .u8 59, .int .u8 36, .int .u8 45, .int .u8 43, .int .u8 51, .int .u8 22, .int .u8 53, .int .u8 39, .int .u8 33, .int .u8 30, .int .u8 24, .int .u8 18, .int .u8 12, .int .u8 5, .int .u8 63, .int .u8 55, .int .u8 48, .int .u8 27, .int .u8 60, .int .u8 41, .int .u8 37, .int .u8 16, .int .u8 46, .int .u8 35, .int .u8 44, .int .u8 21, .int .u8 52, .int .u8 32, .int .u8 23, .int .u8 11, .int .u8 54, .int .u8 26, .int .u8 40, .int .u8 15, .int .u8 34, .int .u8 20, .int .u8 31, .int .u8 10, .int .u8 25, .int .u8 14, .int .u8 19, .int .u8 9, .int .u8 13, .int .u8 8, .int .u8 7, .int .u8 6]
def cells_laid_internal_strconv_uint64pow10 : Array Value := #[.int .u64 1, .int .u64 10, .int .u64 100, .int .u64 1000, .int .u64 10000, .int .u64 100000, .int .u64 1000000, .int .u64 10000000, .int .u64 100000000, .int .u64 1000000000, .int .u64 10000000000, .int .u64 100000000000, .int .u64 1000000000000, .int .u64 10000000000000, .int .u64 100000000000000, .int .u64 1000000000000000, .int .u64 10000000000000000, .int .u64 100000000000000000, .int .u64 1000000000000000000, .int .u64 10000000000000000000]
def cells_laid_unicode_utf8_acceptRanges : Array Value := #[.int .u8 128, .int .u8 191, .int .u8 160, .int .u8 191, .int .u8 128, .int .u8 159, .int .u8 144, .int .u8 191, .int .u8 128, .int .u8 143, .int .u8 0, .int .u8 0, .int .u8 0, .int .u8 0, .int .u8 0, .int .u8 0, .int .u8 0, .int .u8 0, .int .u8 0, .int .u8 0, .int .u8 0, .int .u8 0, .int .u8 0, .int .u8 0, .int .u8 0, .int .u8 0, .int .u8 0, .int .u8 0, .int .u8 0, .int .u8 0, .int .u8 0, .int .u8 0]
def cells_laid_strconv_ErrRange (n : Nat) : Array Value := #[.iface 182 (.pointer (some ⟨n, 0, none⟩))]
def cells_laid_strconv_ErrSyntax (n : Nat) : Array Value := #[.iface 182 (.pointer (some ⟨n, 0, none⟩))]
def cells_laid_unicode_utf8_first : Array Value := (Go.Pinned.utf8FirstZ.map fun (x : Nat) => Value.int .u8 x).toArray
noncomputable def laidWorld (os : Os) : World :=
  let w0 : World := World.holding Tryz.prog os ⟨#[], #[], []⟩
  { w0 with heap := (((((((((w0.heap).modify 6 (fun
      | .cells _ t frozen => .cells cells_laid_math_bits_deBruijn32tab t frozen
      | o => o)).modify 7 (fun
      | .cells _ t frozen => .cells cells_laid_math_bits_deBruijn64tab t frozen
      | o => o)).modify 1 (fun
      | .cells _ t frozen => .cells cells_laid_internal_strconv_uint64pow10 t frozen
      | o => o)).modify 5 (fun
      | .cells _ t frozen => .cells cells_laid_unicode_utf8_acceptRanges t frozen
      | o => o)).modify 3 (fun
      | .cells _ t frozen => .cells (cells_laid_strconv_ErrRange (w0.heap.size + 0)) t frozen
      | o => o)).modify 2 (fun
      | .cells _ t frozen => .cells (cells_laid_strconv_ErrSyntax (w0.heap.size + 1)) t frozen
      | o => o)).modify 4 (fun
      | .cells _ t frozen => .cells cells_laid_unicode_utf8_first t frozen
      | o => o)).push (.cells #[.string ⟨#[118, 97, 108, 117, 101, 32, 111, 117, 116, 32, 111, 102, 32, 114, 97, 110, 103, 101]⟩] 184 (0, 0))).push (.cells #[.string ⟨#[105, 110, 118, 97, 108, 105, 100, 32, 115, 121, 110, 116, 97, 120]⟩] 184 (0, 0)) }
set_option maxRecDepth 100000 in
theorem laid_met (os : Os) : laidMet Tryz.prog Rows.sourceMatchesUptoRow.laid ((laidWorld os).forCall (fun _ _ => 0) ⟨#[], #[.agg #[.int .i64 0, .string ByteArray.empty, .bool false, .string ByteArray.empty, .int .i64 0, .string ByteArray.empty, .string ByteArray.empty], .agg #[.string ByteArray.empty, .string ByteArray.empty, .string ByteArray.empty, .int .i64 0, .string ByteArray.empty, .bool false, .string ByteArray.empty, .bool false, .string ByteArray.empty], .agg #[.string ByteArray.empty, .string ByteArray.empty, .int .i64 0], .bool false], []⟩).memory :=
  laidMet_of_run' 8 (by kernel_rfl) (by kernel_rfl)
theorem reads (os : Os) {H : Type} (enc : TypeId × Value → H) : ∃ places, DataW.whole enc Tryz.prog ((laidWorld os).forCall (fun _ _ => 0) ⟨#[], #[.agg #[.int .i64 0, .string ByteArray.empty, .bool false, .string ByteArray.empty, .int .i64 0, .string ByteArray.empty, .string ByteArray.empty], .agg #[.string ByteArray.empty, .string ByteArray.empty, .string ByteArray.empty, .int .i64 0, .string ByteArray.empty, .bool false, .string ByteArray.empty, .bool false, .string ByteArray.empty], .agg #[.string ByteArray.empty, .string ByteArray.empty, .int .i64 0], .bool false], []⟩).memory Tryz.f4.params.toList Rows.sourceMatchesSpec.vars false (#[.agg #[.int .i64 0, .string ByteArray.empty, .bool false, .string ByteArray.empty, .int .i64 0, .string ByteArray.empty, .string ByteArray.empty], .agg #[.string ByteArray.empty, .string ByteArray.empty, .string ByteArray.empty, .int .i64 0, .string ByteArray.empty, .bool false, .string ByteArray.empty, .bool false, .string ByteArray.empty], .agg #[.string ByteArray.empty, .string ByteArray.empty, .int .i64 0], .bool false] : Array Value).toList 8 = some ([.agg [.lit (.int .i64 0), .lit (.string []), .lit (.bool false), .lit (.string []), .lit (.int .i64 0), .lit (.string []), .lit (.string [])], .agg [.lit (.string []), .lit (.string []), .lit (.string []), .lit (.int .i64 0), .lit (.string []), .lit (.bool false), .lit (.string []), .lit (.bool false), .lit (.string [])], .agg [.lit (.string []), .lit (.string []), .lit (.int .i64 0)], .lit (.bool false)], [], places) :=
  ⟨[], by kernel_rfl⟩
set_option maxRecDepth 100000 in
theorem lifted (os : Os) (started : os.Started) (H : Type) (enc : TypeId × Value → H) (F : Stop.Interp) :
    ReturnsInHanded {} Tryz.checked os 4 .any ((Rows.OpenSpec.upto Rows.sourceMatchesSpec).preRow enc Tryz.prog Tryz.f4 Rows.sourceMatchesUptoRow.domain false Rows.sourceMatchesUptoRow.laid) (((Rows.OpenSpec.upto Rows.sourceMatchesSpec).at F).post enc Tryz.prog Tryz.f4 false true false false) := by
  obtain ⟨places, hx⟩ := reads os enc
  refine returnsInHanded_of_row (C := Tryz.checked) (s := Rows.OpenSpec.upto Rows.sourceMatchesSpec) own started (by kernel_rfl) Tryz.func4
    (witness_row_at (enc := enc) (C := Tryz.checked) false (laidWorld os) #[.agg #[.int .i64 0, .string ByteArray.empty, .bool false, .string ByteArray.empty, .int .i64 0, .string ByteArray.empty, .string ByteArray.empty], .agg #[.string ByteArray.empty, .string ByteArray.empty, .string ByteArray.empty, .int .i64 0, .string ByteArray.empty, .bool false, .string ByteArray.empty, .bool false, .string ByteArray.empty], .agg #[.string ByteArray.empty, .string ByteArray.empty, .int .i64 0], .bool false] rfl (by kernel_rfl) (by kernel_rfl) (by kernel_rfl)
      (OpenSpec.preRow_of_cond 8 hx (by kernel_rfl) (fun k hk => by cases hk; kernel_rfl) (by kernel_rfl) (laid_met os))) ?_
  intro W base args ds gs before hval hW _ hcond _ hL hsh _
  exact contract H enc W base args ds gs before hval hW (hcond _ rfl) hL hsh
theorem over : Rows.sourceMatchesUptoRow.holds Tryz.pinned (Rows.OpenSpec.upto Rows.sourceMatchesSpec) :=
  OpenClaim.holds_of_cond 4 Tryz.f4 rfl rfl rfl rfl rfl rfl rfl ⟨rfl, rfl, rfl, rfl, rfl⟩ rfl rfl rfl rfl rfl (by kernel_rfl) Tryz.func4 (by kernel_rfl)
    (of_decide_eq_true (by kernel_rfl)) (by unfold Func.isWrapper; first | (rw [if_pos (by decide +kernel)]; kernel_rfl) | (rw [if_neg (by decide +kernel)]; exact ⟨rfl, rfl⟩))
    (fun os started H enc _ F => by rw [OpenClaim.pre_eq_preRow]; exact lifted os started H enc F)
theorem plain (f : FuncId) (fn : Func) (hf : Tryz.pinned.checked.prog.funcNamed "pursuivant/pursuivantlaw11.SourceMatches" = some f) (hfn : Tryz.pinned.checked.prog.funcs[f]? = some fn) :
    true = Tryz.pinned.checked.prog.looks [] ∧ ∀ (j : Nat) t, fn.params[j]? = some t → Tryz.pinned.checked.prog.wantsStandIn t = false := by
  obtain rfl : f = 4 := Option.some.inj ((show Tryz.prog.funcNamed "pursuivant/pursuivantlaw11.SourceMatches" = some 4 by kernel_rfl).symm.trans hf) |>.symm
  obtain rfl : fn = Tryz.f4 := (Option.some.inj (Tryz.func4.symm.trans hfn)).symm
  refine ⟨by kernel_rfl, fun j t ht => ?_⟩
  rw [Tryz.params4] at ht
  have hm : t = 23 ∨ t = 30 ∨ t = 32 ∨ t = 4 := by simpa using Array.mem_of_getElem? ht
  rcases hm with rfl | rfl | rfl | rfl
  · exact (show Tryz.prog.wantsStandIn 23 = false by kernel_rfl)
  · exact (show Tryz.prog.wantsStandIn 30 = false by kernel_rfl)
  · exact (show Tryz.prog.wantsStandIn 32 = false by kernel_rfl)
  · exact (show Tryz.prog.wantsStandIn 4 = false by kernel_rfl)
theorem proved : Rows.SourceMatchesUptoCardSaid :=
  Claim7.holds_tied_plain_at .later [] _ _ _ _ over (fun _ h => by cases h) (by kernel_rfl) (fun _ h => by cases h) sourceMatchesUpto_row_tie rfl ⟨rfl, rfl⟩ (by kernel_rfl) rfl plain (by kernel_rfl)
#print axioms proved
end RSourceMatches
end Go.Proofs.YteemgpciheheoaaGreatDoorRRR.Hand
