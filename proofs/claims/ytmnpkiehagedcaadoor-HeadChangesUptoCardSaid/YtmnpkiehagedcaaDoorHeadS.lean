/- head.Set: what the walk of it gives. Condition: names and values of at most 2^40 bytes together. -/
import Derived.Test.YtmnpkiehagedcaaDoorGet
import Derived.Test.YtmnpkiehagedcaaDoorDelH
import Derived.Test.YtmnpkiehagedcaaDoorClip
import Derived.Test.YtmnpkiehagedcaaDoorClone
namespace Go.Proofs.YtmnpkiehagedcaaDoor.Hand
open Go.RowKit Go.Proofs.YtmnpkiehagedcaaDoorW.PrintWords Go.Proofs.YtmnpkiehagedcaaDoorW.PrintLast Go.Proofs.YtmnpkiehagedcaaDoorW.PrintMore
set_option linter.unusedVariables false
set_option linter.unusedSimpArgs false

def alikeB (low : ByteArray) (x : S29) : Bool := (lowBA x.f0).toList == low.toList
theorem alike_says (B : Nat) (low : ByteArray) : SaysH (fun W => W.cell? ⟨B, 0, none⟩ = some (.string low)) 60 #[.pointer (some ⟨B, 0, none⟩)] (alikeB low) (fun x => x.f0.size ≤ 140737488351232) where
  enters := fun args w => by
    have := enters_of Tryd.func60 (by kernel_rfl) rfl args w
    exact this
  later := fun W W' h hb => pw_cell_below hb h
  says := fun W x hW hx => alike1_calls x B low W hx (World.block_lt_of_cell? W _ hW) hW _ rfl

/-- What is set of the first k headers: n is the first one of the name. -/
def setK (low : ByteArray) (h : S29) (n : Int) (l : List S29) : Nat → List S29
  | 0 => []
  | k + 1 => setK low h n l k ++ (if (k : Int) = n then [h] else if alikeB low (rd_T29 l k) = true then [] else [rd_T29 l k])
theorem setK_length (low : ByteArray) (h : S29) (n : Int) (l : List S29) : ∀ k, (setK low h n l k).length ≤ k
  | 0 => Nat.le_refl _
  | k + 1 => by
    have := setK_length low h n l k
    rw [setK, List.length_append]
    split
    · simp; omega
    · split <;> simp <;> omega
def setV (h : S29) (l : List S29) : List S29 :=
  setK (lowBA h.f0) h (firstOf (alikeB (lowBA h.f0)) l) l l.length ++ (if firstOf (alikeB (lowBA h.f0)) l < 0 then [h] else [])
structure SetHeld (B b0 : Nat) (low : ByteArray) (h : S29) (W : World) : Prop where
  low : W.cell? ⟨B, 0, none⟩ = some (.string low)
  c0 : W.cell? ⟨b0, 0, none⟩ = some (.string h.f0)
  c1 : W.cell? ⟨b0, 1, none⟩ = some (.string h.f1)
theorem SetHeld.lt {B b0 : Nat} {low : ByteArray} {h : S29} {W : World} (k : SetHeld B b0 low h W) : B < W.heap.size ∧ b0 < W.heap.size :=
  ⟨World.block_lt_of_cell? W _ k.low, World.block_lt_of_cell? W _ k.c0⟩
theorem SetHeld.below {B b0 : Nat} {low : ByteArray} {h : S29} {W W' : World} (k : SetHeld B b0 low h W) (hb : Below W.heap.size W W') : SetHeld B b0 low h W' :=
  ⟨pw_cell_below hb k.low, pw_cell_below hb k.c0, pw_cell_below hb k.c1⟩
theorem grown_cell {W w1 : World} {own : Option Nat} {B i : Nat} {v : Value} (hg : W.grownBy w1 own) (hc : W.cell? ⟨B, i, none⟩ = some v) (hne : some B ≠ own) : w1.cell? ⟨B, i, none⟩ = some v := by
  rw [World.cell?, hg.block B (World.block_lt_of_cell? W _ hc) hne]; exact hc
theorem SetHeld.grown {B b0 : Nat} {low : ByteArray} {h : S29} {W W' : World} {own : Option Nat} (k : SetHeld B b0 low h W) (hg : W.grownBy W' own) (h1 : some B ≠ own) (h2 : some b0 ≠ own) : SetHeld B b0 low h W' :=
  ⟨grown_cell hg k.low h1, grown_cell hg k.c0 h2, grown_cell hg k.c1 h2⟩

set_option maxHeartbeats 4000000 in
set_option maxRecDepth 100000 in
theorem set_walk (A0 : Option Addr) (c0 : Nat) (l0 : List S29) (h : S29) (w : World) (hr0 : Kd.C k29 w A0 l0.length l0) (hc0 : l0.length ≤ c0) (hsum : hdrSum l0 + h.f0.size ≤ 1099511627776) :
    Calls Tryd.prog 21 #[.slice A0 l0.length c0, .agg #[.string h.f0, .string h.f1]] w fun e w' => ∃ v, e = .returned v ∧ Kd.V k29 29 w' w.heap.size (fun k_ => w.heap.size ≤ k_) v (setV h l0) ∧ Below w.heap.size w w' := by
  have hlen := hdrSum_length l0
  have HS := Lib.hid hsum
  have hv : setV h l0 = setV h l0 := rfl
  have HV := Lib.hid (show setV h l0 = setK (lowBA h.f0) h (firstOf (alikeB (lowBA h.f0)) l0) l0 l0.length ++ (if firstOf (alikeB (lowBA h.f0)) l0 < 0 then [h] else []) from rfl)
  have hHs : h.f0.size ≤ 140737488351232 := by omega
  have HI := Lib.hid (fun W B low (hW : W.cell? ⟨B, 0, none⟩ = some (.string low)) (hr : Kd.C k29 W A0 l0.length l0) => indexFuncH (alike_says B low) A0 c0 l0 W hr (fun x hx => by have h1 := hdrSum_mem hx; omega) hW)
  have HR := Lib.hid hr0
  have hlm := hr0.2.1
  clear hv hr0
  generalize setV h l0 = res at *
  generalize hlow : lowBA h.f0 = low at *
  generalize hn : firstOf (alikeB low) l0 = n at *
  have HN := Lib.hid hn
  clear hn
  have b0lt : ∀ (W : World), w.heap.size < W.heap.size → w.heap.size < W.heap.size := fun _ h => h
  go_enter Tryd.func21, Tryd.ntmps21
  go_wp2_with fail
  have HB1 := Aside0.mk (below_alloc (Below.refl w.heap.size w) (.cells #[.string h.f0, .string h.f1] 29))
  have h00 : (w.alloc (.cells #[.string h.f0, .string h.f1] 29)).cell? ⟨w.heap.size, 0, none⟩ = some (.string h.f0) := by go_simp
  have h01 : (w.alloc (.cells #[.string h.f0, .string h.f1] 29)).cell? ⟨w.heap.size, 1, none⟩ = some (.string h.f1) := by go_simp
  refine (alike_calls h.f0 _ hHs).mono ?_
  rintro e w1 ⟨B, rfl, hB1, hB2, hcB, hb⟩
  rw [hlow] at hcB
  have hBne : B ≠ w.heap.size := by have : (w.alloc (.cells #[.string h.f0, .string h.f1] 29)).heap.size = w.heap.size + 1 := by simp
                                    omega
  have HH1 := Aside0.mk (SetHeld.mk (h := h) (b0 := w.heap.size) hcB (pw_cell_below hb h00) (pw_cell_below hb h01))
  have HB2 := Aside0.mk (below_then HB1.out (below_size HB1.out) hb)
  clear hb HB1 h00 h01 hcB hB1 hB2
  go_wp2_with fail
  refine (HI.out _ B low HH1.out.low (Kd.C_below HR.out HB2.out)).mono ?_
  rintro e w2 ⟨rfl, hb⟩
  rw [HN.out]
  have HH2 := Aside0.mk (HH1.out.below hb)
  have HB3 := Aside0.mk (below_then HB2.out (below_size HB2.out) hb)
  clear hb HH1 HB2 HI
  go_wp2_with fail
  go_loopw [5, 18] (fun v ix wr => ∃ k : Nat, k ≤ l0.length ∧ ix = .int .i64 k ∧ Aside0 (Kd.R k29 29 wr w.heap.size (fun q => q ≠ B ∧ q ≠ w.heap.size) v (setK low h n l0 k)) ∧ Aside0 (Below w.heap.size w wr) ∧ Aside0 (SetHeld B w.heap.size low h wr)) (fun _ ix _ => l0.length - (intOf ix).toNat)
  case atStart => exact ⟨0, Nat.zero_le _, rfl, ⟨Kd.R_nil _ _ _ _ _⟩, HB3, HH2⟩
  case round =>
    obtain ⟨k, hk, rfl, HO, HB, HH⟩ := hrel
    clear HH2 HB3
    by_cases hlt : k < l0.length
    · obtain ⟨ad, e1, hx0, hx1⟩ := at_T29 HR.out k (by omega) (by omega)
      cases e1
      replace hx0 := (HB.out.cell (World.block_lt_of_cell? w _ hx0)).trans hx0
      replace hx1 := (HB.out.cell (World.block_lt_of_cell? w _ hx1)).trans hx1
      rw [Int.toNat_natCast] at hx0 hx1
      have hsz : (rd_T29 l0 k).f0.size ≤ 140737488351232 := by have h1 := hdrSum_mem (rd_mem hlt); have h2 := HS.out; omega
      have HG := Aside0.mk (show setK low h n l0 (k + 1) = setK low h n l0 k ++ (if (k : Int) = n then [h] else if alikeB low (rd_T29 l0 k) = true then [] else [rd_T29 l0 k]) from rfl)
      have HL := Aside0.mk (setK_length low h n l0 k)
      clear HR
      generalize rd_T29 l0 k = x at *
      have HW := Aside0.mk (below_alloc (Below.refl wr.heap.size wr) (.cells #[.string x.f0, .string x.f1] 29))
      by_cases hkn : (k : Int) = n
      · rw [if_pos hkn] at HG
        have hkn' : decide ((k : Int) = n) = true := decide_eq_true hkn
        have hkn2 : ((k : Int) == n) = true := beq_iff_eq.2 hkn
        clear hkn
        have HO2 := Aside0.mk (Kd.R_below HO.out HW.out)
        have HH2 := Aside0.mk (HH.out.below HW.out)
        have HB2 := Aside0.mk (below_then HB.out (below_size HB.out) HW.out)
        have q0 := HH2.out.c0
        have q1 := HH2.out.c1
        clear HO HB HH
        go_wp2_with (first | ((with_reducible refine gate_builtin (b := .append) (xs := #[.tmp 27, .tmp 29]) rfl ?_); at_builtin; refine Kd.R_append k29 (w0 := w) w.heap.size rfl (.tmp 27) (.tmp 29) 22 29 (.agg #[(.string ⟨#[]⟩), (.string ⟨#[]⟩)]) 32 rfl Tryd.underlying22 info29 rfl (by decide) (by omega) u5 (setK low h n l0 k) h [.string h.f0, .string h.f1] (fun q => q ≠ B ∧ q ≠ w.heap.size) (fun _ => False) rfl (by first | rfl | (show Value.slice _ _ _ = Value.slice _ _ _; simp; done)) ?aP (fun _ hk => hk.elim) ?aF ?aO ?aB ?aS ?aL ?_; (case aP => exact k29_mkM _ _ _ h); (case aB => exact HB2.out); (case aF => exact fun q hq => ⟨fun e => by have := HH2.out.lt.1; omega, fun e => by have := HH2.out.lt.2; omega⟩); (case aO => exact HO2.out); (case aS => exact below_size HB2.out); (case aL => have h1 := HL.out; have h2 := HS.out; omega); intro v3 w3 ho3 hb3 hg3 hat3; have HO3 := Aside0.mk ho3; have HB3 := Aside0.mk hb3; have HH3 := Aside0.mk (HH2.out.grown hg3 (fun e => (HO2.out.1 B e.symm).1 rfl) (fun e => (HO2.out.1 _ e.symm).2 rfl)); clear ho3 hb3 hg3 hat3))
        go_roundw
        case rel => exact ⟨k + 1, by omega, by go_num, ⟨by rw [HG.out]; exact HO3.out⟩, HB3, HH3⟩
        case measure => simp [intOf]; omega
      · rw [if_neg hkn] at HG
        have hkn' : decide ((k : Int) = n) = false := decide_eq_false hkn
        have hkn2 : ((k : Int) == n) = false := beq_eq_false_iff_ne.2 hkn
        clear hkn
        have HA := Aside0.mk (Kd.R_below HO.out HW.out)
        have HHA := Aside0.mk (HH.out.below HW.out)
        have HBA := Aside0.mk (below_then HB.out (below_size HB.out) HW.out)
        clear HO HH HB
        cases hq0 : alikeB low x with
        | true =>
          rw [hq0, if_pos rfl, List.append_nil] at HG
          have hq := Aside0.mk hq0
          clear hq0
          go_wp2_with fail
          refine (alike1_calls x B low _ hsz HHA.out.lt.1 HHA.out.low true hq.out).mono ?_
          rintro e w4 ⟨rfl, hb2⟩
          have HO2 := Aside0.mk (Kd.R_below HA.out hb2)
          have HH2 := Aside0.mk (HHA.out.below hb2)
          have HB2 := Aside0.mk (below_then HBA.out (below_size HBA.out) hb2)
          clear HA HHA HBA HW hb2
          go_wp2
          go_roundw
          case rel => exact ⟨k + 1, by omega, by go_num, ⟨by rw [HG.out]; exact HO2.out⟩, HB2, HH2⟩
          case measure => simp [intOf]; omega
        | false =>
          rw [hq0, if_neg (by simp)] at HG
          have hq := Aside0.mk hq0
          clear hq0
          go_wp2_with fail
          refine (alike1_calls x B low _ hsz HHA.out.lt.1 HHA.out.low false hq.out).mono ?_
          rintro e w4 ⟨rfl, hb2⟩
          have hc0 : w4.cell? ⟨wr.heap.size, 0, none⟩ = some (.string x.f0) := pw_cell_below hb2 (by go_simp)
          have hc1 : w4.cell? ⟨wr.heap.size, 1, none⟩ = some (.string x.f1) := pw_cell_below hb2 (by go_simp)
          have HO2 := Aside0.mk (Kd.R_below HA.out hb2)
          have HH2 := Aside0.mk (HHA.out.below hb2)
          have HB2 := Aside0.mk (below_then HBA.out (below_size HBA.out) hb2)
          clear HA HHA HBA HW hb2
          go_wp2_with (first | ((with_reducible refine gate_builtin (b := .append) (xs := #[.tmp 36, .tmp 38]) rfl ?_); at_builtin; refine Kd.R_append k29 (w0 := w) w.heap.size rfl (.tmp 36) (.tmp 38) 22 29 (.agg #[(.string ⟨#[]⟩), (.string ⟨#[]⟩)]) 32 rfl Tryd.underlying22 info29 rfl (by decide) (by omega) u5 (setK low h n l0 k) x [.string x.f0, .string x.f1] (fun q => q ≠ B ∧ q ≠ w.heap.size) (fun _ => False) rfl (by first | rfl | (show Value.slice _ _ _ = Value.slice _ _ _; simp; done)) ?aP (fun _ hk => hk.elim) ?aF ?aO ?aB ?aS ?aL ?_; (case aP => exact k29_mkM _ _ _ x); (case aB => exact HB2.out); (case aF => exact fun q hq => ⟨fun e => by have := HH2.out.lt.1; omega, fun e => by have := HH2.out.lt.2; omega⟩); (case aO => exact HO2.out); (case aS => exact below_size HB2.out); (case aL => have h1 := HL.out; have h2 := HS.out; omega); intro v3 w3 ho3 hb3 hg3 hat3; have HO3 := Aside0.mk ho3; have HB3 := Aside0.mk hb3; have HH3 := Aside0.mk (HH2.out.grown hg3 (fun e => (HO2.out.1 B e.symm).1 rfl) (fun e => (HO2.out.1 _ e.symm).2 rfl)); clear ho3 hb3 hg3 hat3))
          go_roundw
          case rel => exact ⟨k + 1, by omega, by go_num, ⟨by rw [HG.out]; exact HO3.out⟩, HB3, HH3⟩
          case measure => simp [intOf]; omega
    · obtain rfl : k = l0.length := by omega
      have HO2 := HO
      have HH2 := HH
      have HB2 := HB
      have HL := Aside0.mk (setK_length low h n l0 l0.length)
      have q0 := HH2.out.c0
      have q1 := HH2.out.c1
      clear HO HH HB HR hlt
      by_cases hn0 : n < 0
      · rw [if_pos hn0] at HV
        have hn1 : decide (n < 0) = true := decide_eq_true hn0
        clear hn0
        go_wp2_with (first | ((with_reducible refine gate_builtin (b := .append) (xs := #[.tmp 43, .tmp 45]) rfl ?_); at_builtin; refine Kd.R_append k29 (w0 := w) w.heap.size rfl (.tmp 43) (.tmp 45) 22 29 (.agg #[(.string ⟨#[]⟩), (.string ⟨#[]⟩)]) 32 rfl Tryd.underlying22 info29 rfl (by decide) (by omega) u5 (setK low h n l0 l0.length) h [.string h.f0, .string h.f1] (fun q => q ≠ B ∧ q ≠ w.heap.size) (fun _ => False) rfl (by first | rfl | (show Value.slice _ _ _ = Value.slice _ _ _; simp; done)) ?aP (fun _ hk => hk.elim) ?aF ?aO ?aB ?aS ?aL ?_; (case aP => exact k29_mkM _ _ _ h); (case aB => exact HB2.out); (case aF => exact fun q hq => ⟨fun e => by have := HH2.out.lt.1; omega, fun e => by have := HH2.out.lt.2; omega⟩); (case aO => exact HO2.out); (case aS => exact below_size HB2.out); (case aL => have h1 := HL.out; have h2 := HS.out; omega); intro v3 w3 ho3 hb3 hg3 hat3; have HO3 := Aside0.mk ho3; have HB3 := Aside0.mk hb3; have HH3 := Aside0.mk (HH2.out.grown hg3 (fun e => (HO2.out.1 B e.symm).1 rfl) (fun e => (HO2.out.1 _ e.symm).2 rfl)); clear ho3 hb3 hg3 hat3))
        rw [← HV.out] at HO3
        obtain ⟨A3, c3, rfl, hc3, hC3⟩ := Kd.R_reads HO3.out
        have hm3 := hC3.2.1
        clear hC3
        go_wp2_with fail
        refine (clipH _ _ _ _ hc3 hm3).mono ?_
        rintro e w5 ⟨rfl, rfl⟩
        go_wp2
        go_ret
        exact ⟨_, rfl, clipV (Kd.R_V (R_base flatH HO3.out (by decide))), HB3.out⟩
      · rw [if_neg hn0, List.append_nil] at HV
        have hn1 : decide (n < 0) = false := decide_eq_false hn0
        clear hn0
        rw [← HV.out] at HO2
        obtain ⟨A3, c3, rfl, hc3, hC3⟩ := Kd.R_reads HO2.out
        have hm3 := hC3.2.1
        clear hC3
        go_wp2_with fail
        refine (clipH _ _ _ _ hc3 hm3).mono ?_
        rintro e w5 ⟨rfl, rfl⟩
        go_wp2
        go_ret
        exact ⟨_, rfl, clipV (Kd.R_V (R_base flatH HO2.out (by decide))), HB2.out⟩
def head_Set.f (l0 : List S29) (a1_0 a1_1 : ByteArray) : Option (List S29) :=
  if hdrSum l0 + a1_0.size ≤ 1099511627776 then some (setV ⟨a1_0, a1_1⟩ l0) else none
theorem head_Set.calls (A0 : Option Addr) (c0 : Nat) (l0 : List S29) (a1_0 a1_1 : ByteArray) (r : List S29) (w : World) (hG : GW w) (hr0 : Kd.C k29 w A0 l0.length l0) (hc0 : l0.length ≤ c0) (h : head_Set.f l0 a1_0 a1_1 = some r) :
    Calls Tryd.prog 21 #[.slice A0 l0.length c0, .agg #[.string a1_0, .string a1_1]] w fun e w' => ∃ v0_ : Value, e = .returned v0_ ∧ Kd.V k29 29 w' w.heap.size (fun k_ => w.heap.size ≤ k_) v0_ r ∧ Below w.heap.size w w' := by
  unfold head_Set.f at h
  by_cases c : hdrSum l0 + a1_0.size ≤ 1099511627776
  · rw [if_pos c] at h
    obtain rfl := Option.some.inj h
    exact set_walk A0 c0 l0 ⟨a1_0, a1_1⟩ w hr0 hc0 c
  · rw [if_neg c] at h; cases h
end Go.Proofs.YtmnpkiehagedcaaDoor.Hand
