/- safe.Unsafe: what its walk gives: the lower names of those headers that may not go anywhere, sorted, each once. Condition: names of at most 2^40 bytes together. -/
import Derived.Test.YtfibkgmbgdaeoaaGreatDoorFA1
import Derived.Test.YtfibkgmbgdaeoaaGreatDoorFP1
import Derived.Test.YtfibkgmbgdaeoaaGreatDoorFYB1
import Derived.Test.YtfibkgmbgdaeoaaGreatDoorRow
import Derived.Test.YtfibkgmbgdaeoaaGreatDoorClip
import Derived.Sort.OwnSorted
import Derived.Shelf.Slices.In.SortNone
import Derived.Lib.RowBridge
namespace Go.Proofs.YtfibkgmbgdaeoaaGreatDoor.Hand
open Go.RowKit Go.Proofs.YtfibkgmbgdaeoaaGreatDoorW.PrintWords Go.Proofs.YtfibkgmbgdaeoaaGreatDoorW.PrintLast Go.Proofs.YtfibkgmbgdaeoaaGreatDoorW.PrintMore
set_option linter.unusedVariables false
set_option linter.unusedSimpArgs false

abbrev encB (s : ByteArray) : List Value := [.string s]
def badM (k : Nat) : List S45 → Option (List ByteArray)
 | [] => some []
 | h :: r => (safe_Header.f k h.f0 h.f1).bind fun b => if b = true then badM k r else (ascii_Lower.f h.f0).bind fun n => (badM k r).bind fun l => some (n :: l)
def sortBA (l : List ByteArray) : List ByteArray := ((Lib.compact ((l.map (·.data.toList)).mergeSort fun x y => decide (x ≤ y))).map fun x => ⟨x.toArray⟩)
def safe_Unsafe.f (k : Nat) (l : List S45) : Option (List ByteArray) := if l.length ≤ 1099511627776 then (badM k l).bind fun b => some (sortBA b) else none
theorem badM_cons {k : Nat} {x : S45} {l : List S45} {r : List ByteArray} (h : badM k (x :: l) = some r) :
  (safe_Header.f k x.f0 x.f1 = some true ∧ badM k l = some r) ∨ (safe_Header.f k x.f0 x.f1 = some false ∧ ∃ n q, ascii_Lower.f x.f0 = some n ∧ badM k l = some q ∧ r = n :: q) := by
 unfold badM at h
 cases hx : safe_Header.f k x.f0 x.f1 with
 | none => rw [hx] at h; cases h
 | some b =>
  rw [hx] at h
  simp only [Option.bind_some] at h
  cases b with
  | true => rw [if_pos rfl] at h; exact .inl ⟨rfl, h⟩
  | false =>
   rw [if_neg (by simp)] at h
   cases hn : ascii_Lower.f x.f0 with
   | none => rw [hn] at h; cases h
   | some n =>
    rw [hn] at h
    simp only [Option.bind_some] at h
    cases hl : badM k l with
    | none => rw [hl] at h; cases h
    | some q => rw [hl] at h; exact .inr ⟨rfl, n, q, rfl, rfl, (Option.some.inj h).symm⟩
theorem badM_length {k : Nat} (l : List S45) : ∀ {r : List ByteArray}, badM k l = some r → r.length ≤ l.length := by
 induction l with
 | nil => intro r h; simp [badM] at h; subst h; simp
 | cons x l ih =>
  intro r h
  rcases badM_cons h with ⟨_, hq⟩ | ⟨_, n, q, _, hq, rfl⟩
  ·have := ih hq; simp only [List.length_cons]; omega
  ·have := ih hq; simp only [List.length_cons]; omega
theorem sortBA_nil : sortBA [] = [] := by decide +kernel
theorem grow_nil (w : World) : Sort.grow w #[] = w := by cases w; simp [Sort.grow]
def strB (x : List UInt8) : ByteArray := ⟨x.toArray⟩
theorem rowAt_put {W : World} {e g cap n : Nat} {xs : List ByteArray} {os : Array Obj} (h : RowAt encB 1 e g cap W xs) (ts : List (List UInt8)) (hts : ts.length = xs.length) :
  RowAt encB 1 e g cap (Sort.grow (Sort.putRow encStr (Sort.ahead W n) g 0 ts.toArray) os) (ts.map strB) := by
 obtain ⟨cur, hb, hs⟩ := h.blk
 have hh := heap_sorted (n := n) (os := os) ts.toArray hb
 refine ⟨⟨_, hh, by simp [Sort.putCells, hs]⟩, fun j x hj i v hv => ?_, by rw [List.length_map, hts]; exact h.le, h.max⟩
 have hi : i = 0 := by have := (List.getElem?_eq_some_iff.1 hv).1; simpa using this
 subst hi
 have hv' : Value.string x = v := by simpa using hv
 subst hv'
 rw [Nat.mul_one, Nat.add_zero, blk_cell hh]
 rw [List.getElem?_map] at hj
 cases hq : ts[j]? with
 | none => rw [hq] at hj; cases hj
 | some y =>
  rw [hq] at hj
  have hx : strB y = x := Option.some.inj hj
  have hlt : j < ts.length := (List.getElem?_eq_some_iff.1 hq).1
  have hle := h.le
  have hc : j < cur.size := by omega
  have hy : ts[j] = y := (List.getElem?_eq_some_iff.1 hq).2
  simp [Sort.putCells, hlt, hc, hy, ← hx, encStr, strB]
theorem rowAt_holds {W : World} {e g cap : Nat} {xs : List ByteArray} (h : RowAt encB 1 e g cap W xs) : Sort.Holds encStr W g 0 (xs.map (·.data.toList)).toArray := by
 intro j hj
 have hj' : j < xs.length := by simpa using hj
 have := h.cell j xs[j] (List.getElem?_eq_getElem hj') 0 _ rfl
 refine ⟨?_, h.free _⟩
 rw [Nat.mul_one, Nat.add_zero] at this
 rw [Nat.zero_add, this]
 simp [encStr, hj']
theorem below_size_le {B q : Nat} {w W : World} (h : Below B w W) (hq : W.heap.size ≤ q) : w.heap.size ≤ q := Nat.le_trans h.size hq
theorem drop_cons (l : List S45) (j : Nat) (hj : j < l.length) : l.drop j = rd_T45 l j :: l.drop (j + 1) := by
 rw [List.drop_eq_getElem_cons hj]
 congr 1
 simp [rd_T45, List.getD_eq_getElem?_getD, hj]

set_option maxHeartbeats 4000000 in
theorem unsafe_walk (k : Nat) (A0 : Option Addr) (c0 : Nat) (l0 : List S45) (r : List ByteArray) (w : World) (hG : GW w) (hr0 : Kd.C k45 w A0 l0.length l0) (hc0 : l0.length ≤ c0) (hlen : l0.length ≤ 1099511627776) (h : badM k l0 = some r) :
  Calls Tryz.prog 20 #[.slice A0 l0.length c0] w fun e w' => ∃ v, e = .returned v ∧ Kd.V Kd.string 9 w' w.heap.size (fun k_ => w.heap.size ≤ k_) v (sortBA r) ∧ Below w.heap.size w w' := by
 have HN := Lib.hid (badM_length _ h)
 have HLEN := Lib.hid hlen
 have HG := Lib.hid hG
 have H0 := Lib.hid h
 clear h hG
 go_enter Tryz.func20, Tryz.ntmps20
 go_wp2_with fail
 go_loopw [3, 8] (fun v n wr => ∃ j : Nat, j ≤ l0.length ∧ n = .int .i64 j ∧ ∃ a b, Aside0 (r = a ++ b ∧ badM k (l0.drop j) = some b) ∧ Aside0 (Kd.R Kd.string 9 wr w.heap.size (fun q => w.heap.size ≤ q) v a) ∧ Aside0 (Below w.heap.size w wr)) (fun _ n _ => l0.length - (intOf n).toNat)
 case atStart => exact ⟨0, Nat.zero_le _, rfl, [], r, ⟨rfl, by simpa using H0.out⟩, ⟨Kd.R_nil _ _ _ _ _⟩, ⟨Below.refl _ _⟩⟩
 case round =>
  obtain ⟨j, hk, rfl, a, b, HE, HO, HB⟩ := hrel
  clear H0
  by_cases hlt : j < l0.length
  ·obtain ⟨ad, e1, hx0, hx1⟩ := at_T45 hr0 j (by omega) (by omega)
   cases e1
   replace hx0 := (HB.out.cell (World.block_lt_of_cell? w _ hx0)).trans hx0
   replace hx1 := (HB.out.cell (World.block_lt_of_cell? w _ hx1)).trans hx1
   rw [Int.toNat_natCast] at hx0 hx1
   clear hr0
   have HD := HE.out.2
   rw [drop_cons l0 j hlt] at HD
   generalize rd_T45 l0 j = x at *
   have HW := Aside0.mk (below_alloc (Below.refl wr.heap.size wr) (.cells #[.string x.f0, .string x.f1] 45))
   have HA := Aside0.mk (Kd.R_below HO.out HW.out)
   have HBA := Aside0.mk (below_alloc HB.out (.cells #[.string x.f0, .string x.f1] 45))
   rcases badM_cons HD with ⟨hh, hq⟩ | ⟨hh, n, q, hn, hq, hbq⟩
   ·have HC := Lib.hid (safe_Header.calls k x.f0 x.f1 true _ (HG.out.below HBA.out) hh)
    have HQ := Lib.hid hq
    clear HD hh hq
    go_wp2_with fail
    refine HC.out.mono ?_
    rintro e w2 ⟨rfl, hb2⟩
    have HO2 := Aside0.mk (Kd.R_below HA.out hb2)
    have HB2 := Aside0.mk (below_then HBA.out (below_size HBA.out) hb2)
    clear HA HBA HW HO HB hb2 hx0 hx1
    go_wp2
    go_roundw
    case rel => exact ⟨j + 1, by omega, by go_num, a, b, ⟨HE.out.1, HQ.out⟩, HO2, HB2⟩
    case measure => simp [intOf]; omega
   ·have HC := Lib.hid (safe_Header.calls k x.f0 x.f1 false _ (HG.out.below HBA.out) hh)
    have HQ := Lib.hid hq
    have HBQ := Lib.hid hbq
    have HLO := Lib.hid hn
    clear HD hh hq hbq hn
    go_wp2_with fail
    refine HC.out.mono ?_
    rintro e w2 ⟨rfl, hb2⟩
    have HO2 := Aside0.mk (Kd.R_below HA.out hb2)
    have HB2 := Aside0.mk (below_then HBA.out (below_size HBA.out) hb2)
    have hc0 : w2.cell? ⟨wr.heap.size, 0, none⟩ = some (.string x.f0) := pw_cell_below hb2 (by go_simp)
    clear HA HBA HW HO HB hb2 hx0 hx1
    have HC2 := Lib.hid (ascii_Lower.calls x.f0 n w2 (HG.out.below HB2.out) HLO.out)
    go_wp2_with fail
    refine HC2.out.mono ?_
    rintro e w3 ⟨rfl, hb3⟩
    have HO := Aside0.mk (Kd.R_below HO2.out hb3)
    have HB3 := Aside0.mk (below_then HB2.out (below_size HB2.out) hb3)
    have HL := Aside0.mk (show a.length + (n :: q).length ≤ l0.length from by have h1 := HN.out; rw [HE.out.1, List.length_append, HBQ.out] at h1; exact h1)
    clear HO2 HB2 hb3 hc0 HC HC2
    go_wp2_with (first | ((with_reducible refine gate_builtin (b := .append) (xs := #[.tmp 15, .tmp 19]) rfl ?_); at_builtin; refine Kd.R_append Kd.string (w0 := w) w.heap.size rfl (.tmp 15) (.tmp 19) 31 9 (.string ⟨#[]⟩) 16 rfl Tryz.underlying31 info9 rfl (by decide) (by omega) u3 a n [.string n] (fun q => w.heap.size ≤ q) (fun _ => False) rfl rfl ?aP (fun _ hk => hk.elim) ?aF ?aO ?aB ?aS ?aL ?_; (case aP => exact rfl); (case aB => exact HB3.out); (case aF => exact fun q hq => below_size_le HB3.out hq); (case aO => exact HO.out); (case aS => exact below_size HB3.out); (case aL => have h1 := HL.out; have h2 := HLEN.out; rw [List.length_cons] at h1; omega); intro v4 w4 ho4 hb4 hg4 hat4; have HO4 := Aside0.mk ho4; have HB4 := Aside0.mk hb4; clear ho4 hb4 hg4 hat4))
    go_roundw
    case rel => exact ⟨j + 1, by omega, by go_num, a ++ [n], q, ⟨by rw [HE.out.1, HBQ.out]; simp, HQ.out⟩, HO4, HB4⟩
    case measure => simp [intOf]; omega
  ·obtain rfl : j = l0.length := by omega
   have HR : Aside0 (r = a) := ⟨by
    have h1 := HE.out.2
    rw [List.drop_length] at h1
    obtain rfl : b = [] := (Option.some.inj h1).symm
    simpa using HE.out.1⟩
   clear HE hr0 hlt
   rcases RowAt.ofR Flat.string HO.out with ⟨rfl, hnil⟩ | ⟨g, cap, rfl, hg, hq, hA⟩
   ·have hs := Lib.hid (Any.slices_Sort_string_none Tryz.lays190 none 0 wr)
    have hcm := Lib.hid (Tryz.slices_Compact_string_empty none 0 wr)
    have HO2 := Lib.hid hnil
    clear HO hnil
    go_wp2_with fail
    refine hs.out.mono ?_
    rintro e w2 ⟨rfl, rfl⟩
    go_wp2_with fail
    refine hcm.out.mono ?_
    rintro e w3 ⟨rfl, rfl⟩
    go_wp2_with fail
    refine (clipS none 0 0 _ (Nat.le_refl _) (by omega)).mono ?_
    rintro e w4 ⟨rfl, rfl⟩
    go_wp2
    go_ret
    exact ⟨_, rfl, by rw [HR.out, HO2.out, sortBA_nil]; exact Kd.R_V (Kd.R_nil _ _ _ 0 _), HB.out⟩
   ·have hl := HN.out
    have hl2 := HLEN.out
    rw [HR.out] at hl
    have hcap := hA.le
    have hs := Lib.hid (Tryz.slices_Sort_string g 0 cap (a.map (·.data.toList)) wr (rowAt_holds hA) hA.lt (by rw [List.length_map]; omega))
    rw [List.length_map] at hs
    have HA := Lib.hid hA
    have HGE := Lib.hid hg
    clear HO hA hg hq
    go_wp2_with fail
    refine hs.out.mono ?_
    rintro e w2 ⟨rfl, n, os, rfl⟩
    have H2 := rowAt_put (n := n) (os := os) HA.out ((a.map (·.data.toList)).mergeSort fun x y => decide (x ≤ y)) (by simp)
    have HB2 := Lib.hid (HB.out.grown (grownBy_sorted (n := n) (os := os) (w := wr) (g := g) ((a.map (·.data.toList)).mergeSort fun x y => decide (x ≤ y)).toArray) HB.out.size (fun k e => by cases e; exact HGE.out))
    have HL2 : (((a.map (·.data.toList)).mergeSort fun x y => decide (x ≤ y)).map strB).length = a.length := by simp
    generalize Sort.grow (Sort.putRow encStr (Sort.ahead wr n) g 0 ((a.map (·.data.toList)).mergeSort fun x y => decide (x ≤ y)).toArray) os = w3 at *
    have hH := rowAt_holds H2
    have hmm : (((a.map (·.data.toList)).mergeSort fun x y => decide (x ≤ y)).map strB).map (·.data.toList) = (a.map (·.data.toList)).mergeSort fun x y => decide (x ≤ y) := by
     rw [List.map_map]; conv => rhs; rw [← List.map_id ((a.map (·.data.toList)).mergeSort fun x y => decide (x ≤ y))]
     exact List.map_congr_left fun x _ => by simp [strB]
    rw [hmm] at hH
    have HS : Aside0 (sortBA r = ((Lib.compact ((a.map (·.data.toList)).mergeSort fun x y => decide (x ≤ y))).map strB)) := ⟨by rw [HR.out]; rfl⟩
    have hml : ((a.map (·.data.toList)).mergeSort fun x y => decide (x ≤ y)).length = a.length := by simp
    generalize ((a.map (·.data.toList)).mergeSort fun x y => decide (x ≤ y)) = ts at *
    have hcm := Lib.hid (Tryz.slices_Compact_string g 0 cap ts w3 hH (by omega) (by omega))
    rw [hml] at hcm
    have H2' := Lib.hid H2
    have hcl := Lib.compact_length_le ts
    clear hs H2 hH hmm HA HR
    go_wp2_with fail
    refine hcm.out.mono ?_
    rintro e w4 ⟨rfl, q, rfl⟩
    have H3 := rowAt_put (n := q) (os := #[]) H2'.out (Lib.compact ts ++ List.replicate (a.length - (Lib.compact ts).length) []) (by simp; omega)
    have HB3 := Lib.hid (HB2.out.grown (grownBy_sorted (n := q) (os := #[]) (w := w3) (g := g) (Lib.compact ts ++ List.replicate (a.length - (Lib.compact ts).length) []).toArray) HB2.out.size (fun k e => by cases e; exact HGE.out))
    have hg0 : Sort.grow (Sort.putRow encStr (Sort.ahead w3 q) g 0 (Lib.compact ts ++ List.replicate (a.length - (Lib.compact ts).length) []).toArray) #[] = Sort.putRow encStr (Sort.ahead w3 q) g 0 (Lib.compact ts ++ List.replicate (a.length - (Lib.compact ts).length) []).toArray := grow_nil _
    rw [hg0] at H3 HB3
    rw [List.map_append] at H3
    have H4 := Lib.hid H3.pre
    generalize Sort.putRow encStr (Sort.ahead w3 q) g 0 (Lib.compact ts ++ List.replicate (a.length - (Lib.compact ts).length) []).toArray = w5 at *
    clear hcm H3 hg0 H2' HB2
    go_wp2_with fail
    refine (clipS _ _ _ _ (by omega) (by omega)).mono ?_
    rintro e w6 ⟨rfl, rfl⟩
    go_wp2
    go_ret
    refine ⟨_, rfl, ?_, HB3.out⟩
    rw [HS.out]
    have hlm : (Lib.compact ts).length = ((Lib.compact ts).map strB).length := by simp
    rw [hlm]
    exact clipV (Kd.R_V (H4.out.toR Flat.string HGE.out HGE.out (by decide)))
theorem safe_Unsafe.calls (k : Nat) (A0 : Option Addr) (c0 : Nat) (l0 : List S45) (r : List ByteArray) (w : World) (hG : GW w) (hr0 : Kd.C k45 w A0 l0.length l0) (hc0 : l0.length ≤ c0) (h : safe_Unsafe.f k l0 = some r) :
  Calls Tryz.prog 20 #[.slice A0 l0.length c0] w fun e w' => ∃ v0_ : Value, e = .returned v0_ ∧ Kd.V Kd.string 9 w' w.heap.size (fun k_ => w.heap.size ≤ k_) v0_ r ∧ Below w.heap.size w w' := by
 unfold safe_Unsafe.f at h
 by_cases c : l0.length ≤ 1099511627776
 ·rw [if_pos c] at h
  cases hb : badM k l0 with
  | none => rw [hb] at h; cases h
  | some b =>
   rw [hb] at h
   obtain rfl := Option.some.inj h
   exact unsafe_walk k A0 c0 l0 b w hG hr0 hc0 c hb
 ·rw [if_neg c] at h; cases h
end Go.Proofs.YtfibkgmbgdaeoaaGreatDoor.Hand
