/- pursuivantref10.Unsafe: what its walk gives: the lower names of those headers that may not go anywhere, each put in where it belongs. Condition: at most 2^40 headers. -/
import Derived.Test.YtfibkgmbgdaeoaaGreatDoorSafeU
import Derived.Test.YtfibkgmbgdaeoaaGreatDoorFA1
import Derived.Test.YtfibkgmbgdaeoaaGreatDoorFP1
import Derived.Deep.RegionHeld3
import Derived.Deep.RegionLaw
namespace Go.Proofs.YtfibkgmbgdaeoaaGreatDoor.Hand
open Go.RowKit Go.Proofs.YtfibkgmbgdaeoaaGreatDoorW.PrintWords Go.Proofs.YtfibkgmbgdaeoaaGreatDoorW.PrintLast Go.Proofs.YtfibkgmbgdaeoaaGreatDoorW.PrintMore
set_option linter.unusedVariables false
set_option linter.unusedSimpArgs false

def insAt (n : ByteArray) : List ByteArray → Nat
 | [] => 0
 | x :: r => if Op.bytesLess x.toList n.toList = true then insAt n r + 1 else 0
theorem insAt_le (n : ByteArray) : ∀ l, insAt n l ≤ l.length
 | [] => Nat.le_refl _
 | x :: r => by
  have := insAt_le n r
  unfold insAt
  split <;> simp <;> omega
theorem insAt_lt (n : ByteArray) : ∀ (l : List ByteArray) (j : Nat), j < insAt n l → Op.bytesLess (rdOf ByteArray.empty l j).toList n.toList = true
 | [], j => fun h => by simp [insAt] at h
 | x :: r, 0 => fun h => by
  unfold insAt at h
  split at h
  ·rename_i c; simpa [rdOf] using c
  ·cases h
 | x :: r, j + 1 => fun h => by
  unfold insAt at h
  split at h
  ·have := insAt_lt n r j (by omega)
   simpa [rdOf] using this
  ·omega
theorem insAt_at (n : ByteArray) : ∀ (l : List ByteArray), insAt n l < l.length → Op.bytesLess (rdOf ByteArray.empty l (insAt n l)).toList n.toList = false
 | [] => fun h => by simp at h
 | x :: r => fun h => by
  by_cases c : Op.bytesLess x.toList n.toList = true
  ·have e : insAt n (x :: r) = insAt n r + 1 := by rw [insAt, if_pos c]
   rw [e] at h ⊢
   have := insAt_at n r (by simpa using h)
   simpa [rdOf] using this
  ·have e : insAt n (x :: r) = 0 := by rw [insAt, if_neg c]
   rw [e]
   simpa [rdOf] using c
def insB (n : ByteArray) (l : List ByteArray) : List ByteArray := l.take (insAt n l) ++ ([n] ++ l.drop (insAt n l))
def insM (k : Nat) : List S45 → List ByteArray → Option (List ByteArray)
 | [], out => some out
 | h :: r, out => (pursuivantref04_Lower.f k h.f0).bind fun n => (pursuivantref10_Header.f k h.f0 h.f1).bind fun b => if b = true then insM k r out else (pursuivantref10_among.f k n out).bind fun c => if c = true then insM k r out else insM k r (insB n out)
def pursuivantref10_Unsafe.f (k : Nat) (l : List S45) : Option (List ByteArray) := if l.length ≤ 1099511627776 then insM k l [] else none
theorem insM_cons {k : Nat} {x : S45} {l : List S45} {out r : List ByteArray} (h : insM k (x :: l) out = some r) :
  ∃ n b, pursuivantref04_Lower.f k x.f0 = some n ∧ pursuivantref10_Header.f k x.f0 x.f1 = some b ∧ ((b = true ∧ insM k l out = some r) ∨ (b = false ∧ ∃ c, pursuivantref10_among.f k n out = some c ∧ ((c = true ∧ insM k l out = some r) ∨ (c = false ∧ insM k l (insB n out) = some r)))) := by
 unfold insM at h
 cases hn : pursuivantref04_Lower.f k x.f0 with
 | none => rw [hn] at h; cases h
 | some n =>
  rw [hn] at h
  simp only [Option.bind_some] at h
  cases hb : pursuivantref10_Header.f k x.f0 x.f1 with
  | none => rw [hb] at h; cases h
  | some b =>
   rw [hb] at h
   simp only [Option.bind_some] at h
   refine ⟨n, b, rfl, rfl, ?_⟩
   cases b with
   | true => rw [if_pos rfl] at h; exact .inl ⟨rfl, h⟩
   | false =>
    rw [if_neg (by simp)] at h
    cases hc : pursuivantref10_among.f k n out with
    | none => rw [hc] at h; cases h
    | some c =>
     rw [hc] at h
     simp only [Option.bind_some] at h
     refine .inr ⟨rfl, c, rfl, ?_⟩
     cases c with
     | true => rw [if_pos rfl] at h; exact .inl ⟨rfl, h⟩
     | false => rw [if_neg (by simp)] at h; exact .inr ⟨rfl, h⟩
theorem R_empty (W : World) (base : Nat) (hb : base ≤ W.heap.size) (ok : Nat → Prop) (hk : ok W.heap.size) : Kd.R Kd.string 9 (W.alloc (.cells #[] 9)) base ok (.slice (some ⟨W.heap.size, 0, none⟩) 0 0) [] := by
 have h : RowAt encB 1 9 W.heap.size 0 (W.alloc (.cells #[] 9)) [] := ⟨⟨#[], heap_alloc_new W _, rfl⟩, fun j x hj => by simp at hj, Nat.le_refl _, by decide⟩
 exact h.toR Flat.string hb hk (by decide)
theorem C_pre {W : World} {A : Option Addr} {xs : List ByteArray} (j : Nat) (hj : j ≤ xs.length) (h : Kd.C Kd.string W A xs.length xs) : Kd.C Kd.string W A j (xs.take j) := by
 refine ⟨by simp; omega, by have := h.2.1; omega, fun h0 => ?_⟩
 obtain ⟨ad, e, hc⟩ := h.2.2 (by omega)
 exact ⟨ad, e, fun i p hi => hc i p (by
  rw [List.getElem?_take] at hi
  split at hi
  ·exact hi
  ·cases hi)⟩
theorem rowAt_one (W : World) (n : ByteArray) : RowAt encB 1 9 W.heap.size 1 (W.alloc (.cells #[.string n] 9)) [n] := ⟨⟨#[.string n], heap_alloc_new W _, rfl⟩, fun j x hj i v hv => by
  have h1 : j = 0 := by have := (List.getElem?_eq_some_iff.1 hj).1; simpa using this
  subst h1
  have h2 : i = 0 := by have := (List.getElem?_eq_some_iff.1 hv).1; simpa using this
  subst h2
  have h3 : n = x := by simpa using hj
  subst h3
  have h4 : Value.string n = v := by simpa using hv
  subst h4
  rw [blk_cell (heap_alloc_new W _)]; rfl, Nat.le_refl _, by decide⟩
theorem rowAt_cell {W : World} {e g cap j : Nat} {xs : List ByteArray} (h : RowAt encB 1 e g cap W xs) (hlo : j < xs.length) : W.cell? ⟨g, j, none⟩ = some (.string (rdOf ByteArray.empty xs j)) := by
 have := h.cell j xs[j] (List.getElem?_eq_getElem hlo) 0 _ rfl
 rw [Nat.add_zero, Nat.mul_one] at this
 rw [this]
 simp [rdOf, List.getD_eq_getElem?_getD, hlo]
theorem C_dropAt {W : World} {e g cap : Nat} {xs : List ByteArray} (h : RowAt encB 1 e g cap W xs) (j o : Nat) (hj : j ≤ xs.length) (ho : (if cap = j then 0 else j) = o) : Kd.C Kd.string W (some ⟨g, o, none⟩) (xs.length - j) (xs.drop j) := by
 have hle := h.le
 by_cases hc : cap = j
 ·have h0 : xs.length - j = 0 := by omega
  have h1 : xs.drop j = [] := List.drop_eq_nil_of_le (by omega)
  rw [h0, h1]
  exact ⟨rfl, by decide, fun h => by omega⟩
 rw [if_neg hc] at ho
 subst ho
 refine ⟨by simp, by have h1 := h.le; have h2 := h.max; unfold maxLen at h2; omega, fun _ => ⟨_, rfl, fun i p hi => ⟨encB p, rfl, Flat.string.mkK _ _, fun q u hu => ?_⟩⟩⟩
 have h1 : xs[j + i]? = some p := by rw [List.getElem?_drop] at hi; exact hi
 have h2 := h.cell (j + i) p h1 q u hu
 have e1 : (⟨g, j, none⟩ : Addr).add (i * 1 + q) = ⟨g, j + (i * 1 + q), none⟩ := by unfold Addr.add; split <;> simp_all
 have e2 : j + (i * 1 + q) = (j + i) * 1 + q := by omega
 first | (rw [e1, e2]; exact h2) | (show W.cell? ((⟨g, j, none⟩ : Addr).add (i * 1 + q)) = some u; rw [e1, e2]; exact h2)
theorem rowAt_empty (W : World) : RowAt encB 1 9 W.heap.size 0 (W.alloc (.cells #[] 9)) [] := ⟨⟨#[], heap_alloc_new W _, rfl⟩, fun j x hj => by simp at hj, Nat.le_refl _, by decide⟩
theorem RowAt.grown {W W' : World} {e g cap : Nat} {xs : List ByteArray} {row : Option Nat} (h : RowAt encB 1 e g cap W xs) (hg : W.grownBy W' row) (hne : some g ≠ row) : RowAt encB 1 e g cap W' xs := h.other (hg.block g h.lt hne)
set_option maxRecDepth 100000 in
set_option maxHeartbeats 8000000 in
theorem unsafeR_walk (k : Nat) (A0 : Option Addr) (c0 : Nat) (l0 : List S45) (r : List ByteArray) (w : World) (hG : GW w) (hr0 : Kd.C k45 w A0 l0.length l0) (hc0 : l0.length ≤ c0) (hlen : l0.length ≤ 1099511627776) (h : insM k l0 [] = some r) :
  Calls Tryz.prog 18 #[.slice A0 l0.length c0] w fun e w' => ∃ v, e = .returned v ∧ Kd.V Kd.string 9 w' w.heap.size (fun k_ => w.heap.size ≤ k_) v r ∧ Below w.heap.size w w' := by
 have HLEN := Lib.hid hlen
 have HG := Lib.hid hG
 have H0 := Lib.hid h
 clear h hG
 go_enter Tryz.func18, Tryz.ntmps18
 go_wp2_with fail
 go_loopw [3, 4] (fun v n wr => ∃ i : Nat, i ≤ l0.length ∧ n = .int .i64 i ∧ ∃ (out : List ByteArray) (g cap : Nat), v = .slice (some ⟨g, 0, none⟩) out.length cap ∧ Aside0 (insM k (l0.drop i) out = some r) ∧ Aside0 (out.length ≤ i) ∧ Aside0 (RowAt encB 1 9 g cap wr out) ∧ Aside0 (w.heap.size ≤ g) ∧ Aside0 (Below w.heap.size w wr)) (fun _ n _ => l0.length - (intOf n).toNat)
 case atStart => exact ⟨0, Nat.zero_le _, rfl, [], w.heap.size, 0, rfl, ⟨by simpa using H0.out⟩, ⟨Nat.le_refl _⟩, ⟨rowAt_empty w⟩, ⟨Nat.le_refl _⟩, ⟨below_alloc (Below.refl _ _) _⟩⟩
 case round =>
  obtain ⟨i, hk, rfl, out, g, cap, rfl, HE, HLE, HA, HGE, HB⟩ := hrel
  clear H0
  by_cases hlt : i < l0.length
  ·obtain ⟨ad, e1, hx0, hx1⟩ := at_T45 hr0 i (by omega) (by omega)
   cases e1
   replace hx0 := (HB.out.cell (World.block_lt_of_cell? w _ hx0)).trans hx0
   replace hx1 := (HB.out.cell (World.block_lt_of_cell? w _ hx1)).trans hx1
   rw [Int.toNat_natCast] at hx0 hx1
   have HD := HE.out
   rw [drop_cons l0 i hlt] at HD
   have HX : Aside0 (True) := ⟨trivial⟩
   generalize rd_T45 l0 i = x at *
   obtain ⟨n, b, hn, hb, hr⟩ := insM_cons HD
   have HN := fun W hW => Lib.hid (pursuivantref04_Lower.calls k x.f0 n W hW hn)
   have HH := fun W hW => Lib.hid (pursuivantref10_Header.calls k x.f0 x.f1 b W hW hb)
   clear HD hn hb
   have HR := Lib.hid hr
   clear hr HE
   go_wp2_with fail
   refine (HN _ (HG.out.below HB.out)).out.mono ?_
   rintro e w1 ⟨rfl, hb1⟩
   replace hx0 := (hb1.cell (World.block_lt_of_cell? wr _ hx0)).trans hx0
   replace hx1 := (hb1.cell (World.block_lt_of_cell? wr _ hx1)).trans hx1
   have HA1 := Lib.hid (HA.out.below hb1)
   have HB1 := Aside0.mk (below_then HB.out (below_size HB.out) hb1)
   clear HA HB hb1 HN
   go_wp2_with fail
   refine (HH _ (HG.out.below HB1.out)).out.mono ?_
   rintro e w2 ⟨rfl, hb2⟩
   have HA := Lib.hid (HA1.out.below hb2)
   have HB := Aside0.mk (below_then HB1.out (below_size HB1.out) hb2)
   clear HA1 HB1 hb2 HH hx0 hx1
   rcases HR.out with ⟨rfl, hq⟩ | ⟨rfl, c, hc, hr⟩
   ·have HQ := Lib.hid hq
    clear HR hq
    go_wp2
    go_roundw
    case rel => exact ⟨i + 1, by omega, by go_num, out, g, cap, rfl, ⟨HQ.out⟩, ⟨by have := HLE.out; omega⟩, ⟨HA.out⟩, HGE, HB⟩
    case measure => simp [intOf]; omega
   ·have HC := Lib.hid (pursuivantref10_among.calls k n (some ⟨g, 0, none⟩) cap out c w2 (HG.out.below HB.out) (HA.out.reads Flat.string) HA.out.le hc)
    have HR2 := Lib.hid hr
    clear HR hr hc
    go_wp2_with fail
    refine HC.out.mono ?_
    rintro e w3 ⟨rfl, hd3⟩
    have HA3 := Lib.hid (HA.out.below hd3.below)
    have HB3 := Aside0.mk (below_then HB.out (below_size HB.out) hd3.below)
    clear HC HA HB hd3
    rcases HR2.out with ⟨rfl, hq⟩ | ⟨rfl, hq⟩
    ·have HQ := Lib.hid hq
     clear HR2 hq
     go_wp2
     go_roundw
     case rel => exact ⟨i + 1, by omega, by go_num, out, g, cap, rfl, ⟨HQ.out⟩, ⟨by have := HLE.out; omega⟩, ⟨HA3.out⟩, HGE, HB3⟩
     case measure => simp [intOf]; omega
    ·have HQ := Lib.hid hq
     have hil := insAt_le n out
     clear HR2 hq
     go_wp2_with fail
     go_loop [6] (fun v => ∃ j : Nat, v = .int .i64 j ∧ j ≤ insAt n out) (fun v => out.length - (intOf v).toNat)
     case atStart => exact ⟨0, rfl, Nat.zero_le _⟩
     case round =>
      obtain ⟨j, rfl, hj⟩ := hrel
      by_cases hji : j < insAt n out
      ·have hlo : j < out.length := by omega
       have hcell : w3.cell? ⟨g, j * 1, none⟩ = some (.string (rdOf ByteArray.empty out j)) := by
        have := HA3.out.cell j out[j] (List.getElem?_eq_getElem hlo) 0 _ rfl
        rw [Nat.add_zero] at this
        rw [this]
        simp [rdOf, List.getD_eq_getElem?_getD, hlo]
       rw [Nat.mul_one] at hcell
       have hless := insAt_lt n out j hji
       generalize rdOf ByteArray.empty out j = y at *
       go_wp2
       have hw : wrap64 ((j : Int) + 1) = ((j + 1 : Nat) : Int) := by unfold wrap64; have := HLEN.out; have := HLE.out; omega
       refine ⟨⟨j + 1, by rw [hw], by omega⟩, ?_⟩
       rw [hw]; simp [intOf]; omega
      ·obtain rfl : j = insAt n out := by omega
       have HAT := Lib.hid (rfl : insAt n out = insAt n out)
       by_cases hlo : insAt n out < out.length
       case pos =>
        have hless := insAt_at n out hlo
        have hcell := rowAt_cell HA3.out hlo
        try generalize rdOf ByteArray.empty out (insAt n out) = y at *
        go_wp2
        have hjn : insB n out = out.take (insAt n out) ++ ([n] ++ out.drop (insAt n out)) := rfl
        have HQ2 := HQ.out
        rw [hjn] at HQ2
        clear hjn hless hcell HQ
        have HQ := Lib.hid HQ2
        clear HQ2
        generalize insAt n out = j at *
        have hcap := HA3.out.le
        have HJ := Aside0.mk (show j ≤ out.length from hil)
        have hj1 : (j : Int) ≤ (cap : Int) := by omega
        have hj2 : (j : Int) ≤ (out.length : Int) := by omega
        have hj3 : j ≤ cap := by omega
        have hcap2 : (out.length : Int) ≤ (cap : Int) := by omega
        obtain ⟨jo, hjo⟩ : ∃ o, (if cap = j then 0 else j) = o := ⟨_, rfl⟩
        have HJO := Lib.hid hjo
        clear hjo
        have HA4 := Aside0.mk (HA3.out.below (below_drew (Below.refl _ _)))
        have HB4 := Aside0.mk (below_drew HB3.out)
        refine start_ (n := 13) (S := fun _ => True) (ds := []) #[false, false, false, false, false, false, false, false, false, false, false, false, false] (by kernel_rfl) rfl rfl trivial (fun hHeld => ?_)
        generalize w3.drew = w5 at HA4 HB4 hHeld ⊢
        obtain ⟨W5, eW5⟩ : ∃ x, x = w5.heap.size := ⟨_, rfl⟩
        have HS4 := Aside0.mk (Nat.le_of_eq eW5)
        have HG5 := Aside0.mk (show g < W5 from by rw [eW5]; exact HA4.out.lt)
        clear eW5 HA3 HB3
        refine pure_ (i := 1) (N := some 45) (v := ?_) (a' := ?_) #[false, true, false, false, false, false, false, false, false, false, false, false, false] rfl rfl (by kernel_rfl) (fun _ _ _ h => h) (Or.inl ⟨by rfl, ?_⟩) ?_ ?_
        rotate_left
        ·intro w'
         go_simp
         with_reducible rfl
        rotate_left
        ·simp only [Act.put, List.setIfInBounds_toArray, List.set_cons_zero, List.set_cons_succ, i64_w, i32_w]
         rfl
        refine pure_ (i := 2) (N := some 46) (v := ?_) (a' := ?_) #[false, true, true, false, false, false, false, false, false, false, false, false, false] rfl rfl (by kernel_rfl) (fun _ _ _ h => h) (Or.inl ⟨by rfl, ?_⟩) ?_ ?_
        rotate_left
        ·intro w'
         go_simp
         with_reducible rfl
        rotate_left
        ·simp only [Act.put, List.setIfInBounds_toArray, List.set_cons_zero, List.set_cons_succ, i64_w, i32_w]
         rfl
        refine pure_ (i := 3) (N := some 47) (v := ?_) (a' := ?_) #[false, true, true, true, false, false, false, false, false, false, false, false, false] rfl rfl (by kernel_rfl) (fun _ _ _ h => h) (Or.inl ⟨by rfl, ?_⟩) ?_ ?_
        rotate_left
        ·intro w'
         go_simp
         with_reducible rfl
        rotate_left
        ·simp only [Act.put, List.setIfInBounds_toArray, List.set_cons_zero, List.set_cons_succ, i64_w, i32_w]
         rfl
        refine pure_ (i := 5) (N := some 49) (v := ?_) (a' := ?_) #[false, true, true, true, false, true, false, false, false, false, false, false, false] rfl rfl (by kernel_rfl) (fun _ _ _ h => h) (Or.inl ⟨by rfl, ?_⟩) ?_ ?_
        rotate_left
        ·intro w'
         go_simp
         with_reducible rfl
        rotate_left
        ·simp only [Act.put, List.setIfInBounds_toArray, List.set_cons_zero, List.set_cons_succ, i64_w, i32_w]
         rfl
        refine pure_ (i := 8) (N := some 52) (v := ?_) (a' := ?_) #[false, true, true, true, false, true, false, false, true, false, false, false, false] rfl rfl (by kernel_rfl) (fun _ _ _ h => h) (Or.inl ⟨by rfl, ?_⟩) ?_ ?_
        rotate_left
        ·intro w'
         go_simp
         with_reducible rfl
        rotate_left
        ·simp only [Act.put, List.setIfInBounds_toArray, List.set_cons_zero, List.set_cons_succ, i64_w, i32_w]
         rfl
        refine pure_ (i := 9) (N := some 53) (v := ?_) (a' := ?_) #[false, true, true, true, false, true, false, false, true, true, false, false, false] rfl rfl (by kernel_rfl) (fun _ _ _ h => h) (Or.inl ⟨by rfl, ?_⟩) ?_ ?_
        rotate_left
        ·intro w'
         go_simp
         with_reducible rfl
        rotate_left
        ·simp only [Act.put, List.setIfInBounds_toArray, List.set_cons_zero, List.set_cons_succ, i64_w, i32_w]
         rfl
        refine pure_ (i := 10) (N := some 54) (v := .slice (some ⟨g, jo, none⟩) (out.length - j) (cap - j)) (a' := ?_) #[false, true, true, true, false, true, false, false, true, true, true, false, false] rfl rfl (by kernel_rfl) (fun _ _ _ h => h) (Or.inl ⟨by rfl, fun w' => (by go_simp; rw [← HJO.out]; split <;> rfl)⟩) ?_ ?_
        rotate_left
        ·simp only [Act.put, List.setIfInBounds_toArray, List.set_cons_zero, List.set_cons_succ, i64_w, i32_w]
         rfl
        refine join_ (σ := Value × Value × Value) 3 #[true, true, true, true, true, true, true, false, true, true, true, false, false] (fun s_ => [(44, s_.1), (48, s_.2.1), (50, s_.2.2)]) (fun s_ w' => (Kd.R Kd.string 9 w' w.heap.size (fun q => W5 ≤ q) s_.2.1 (out.take j)) ∧ (∃ g1, s_.2.2 = .slice (some ⟨g1, 0, none⟩) 1 1 ∧ RowAt encB 1 9 g1 1 w' [n]) ∧ RowAt encB 1 9 g cap w' out ∧ Below w.heap.size w w' ∧ W5 ≤ w'.heap.size) ?_ ?_
        rotate_left
        ·intro hCont
         refine two_ (i := 0) (j := 6) (Ni := some 44) (Nj := some 50) #[true, true, true, true, false, true, false, false, true, true, true, false, false] #[false, true, true, true, false, true, true, false, true, true, true, false, false] rfl rfl rfl rfl (by kernel_rfl) (by decide) (by decide) (fun K hK => ?_) (fun K hK => ?_)
         ·skip
          refine value_ (w1 := World.alloc w5 (.cells #[] 9)) (v := .slice (some ⟨(w5).heap.size, 0, none⟩) 0 0) (by rfl) rfl (by go_simp) ?_
          refine hK.out _ _ trivial (fun hHeld => ?_)
          clear hK K
          refine norm_ (a' := ?_) ?_ ?_
          rotate_left
          ·show Act.put _ (some 44) _ = _
           simp only [Act.put, List.setIfInBounds_toArray, List.set_cons_zero, List.set_cons_succ, i64_w, i32_w]
           rfl
          have r44_ := R_empty w5 w.heap.size (below_size HB4.out) (fun q => W5 ≤ q) HS4.out
          obtain ⟨wb1, eq_wb1⟩ : ∃ x, World.alloc w5 (.cells #[] 9) = x := ⟨_, rfl⟩
          have HA3 := Aside0.mk (HA4.out.below (below_alloc (Below.refl _ _) (.cells #[] 9)))
          rw [eq_wb1] at HA3
          have HB4 := Aside0.mk (below_alloc HB4.out (.cells #[] 9))
          rw [eq_wb1] at HB4
          have HS5 := Aside0.mk (show W5 ≤ (World.alloc w5 (.cells #[] 9)).heap.size from by have := HS4.out; simp; omega)
          rw [eq_wb1] at HS5
          rw [eq_wb1]
          obtain ⟨ga2, ega2⟩ : ∃ x, x = w5.heap.size := ⟨_, rfl⟩
          have le_ga2 := Aside0.mk (show ga2 < wb1.heap.size from by rw [ega2, ← eq_wb1]; simp)
          rw [← ega2] at r44_ ⊢
          rw [eq_wb1] at r44_
          have HR6 := Aside0.mk r44_
          clear r44_ eq_wb1
          clear ega2
          refine two_ (i := 4) (j := 6) (Ni := some 48) (Nj := some 50) #[true, true, true, true, true, true, false, false, true, true, true, false, false] #[true, true, true, true, false, true, true, false, true, true, true, false, false] rfl rfl rfl rfl (by kernel_rfl) (by decide) (by decide) (fun K hK => ?_) (fun K hK => ?_)
          ·skip
           refine Kd.R_append_rows_step Kd.string (Rr := Kd.string.K wb1) (w0 := w) w.heap.size (by rfl) (.tmp 44) (.tmp 47) 31 9 (.string ⟨#[]⟩) 16 rfl Tryz.underlying31 info9 rfl (by decide) (by omega) (.slice (some ⟨ga2, 0, none⟩) 0 0) ([]) (out.take j) (some ⟨g, 0, none⟩) (j) _ (fun q => W5 ≤ q) (fun _ => False) rfl rfl HR6.out (C_pre j HJ.out (HA3.out.reads Flat.string)) (fun x cs hK => by rw [Flat.string.K hK]; exact Flat.string.mkM _ _ _ _) (fun _ hk => hk.elim) (fun q hq => Nat.le_trans HS5.out hq) HB4.out (below_size HB4.out) ?alva8 ?_
           case alva8 => have h1 := HLEN.out; have h2 := HLE.out; simp only [List.length_take, List.length_drop, List.length_append, List.length_nil, List.length_cons]; omega
           intro va8 wa7 hr_ hb_ hg_ hat_
           refine hK.out _ _ trivial (fun hHeld => ?_)
           clear hK K
           refine norm_ (a' := ?_) ?_ ?_
           rotate_left
           ·show Act.put _ (some 48) _ = _
            simp only [Act.put, List.setIfInBounds_toArray, List.set_cons_zero, List.set_cons_succ, i64_w, i32_w]
            rfl
           have HB9 := Aside0.mk hb_
           have HS10 := Aside0.mk (Nat.le_trans HS5.out hg_.size)
           have HA11 := Aside0.mk (HA3.out.grown hg_ (fun e_ => by have := HR6.out.1 _ e_.symm; have := HG5.out; omega))
           have HR12 := Aside0.mk hr_
           clear hr_ hb_ hg_ hat_
           refine one_ (i := 6) (N := some 50) #[true, true, true, true, true, true, true, false, true, true, true, false, false] rfl rfl (by kernel_rfl) (by decide) (fun K hK => ?_)
           refine value_ (w1 := World.alloc wa7 (.cells #[.string n] 9)) (v := .slice (some ⟨(wa7).heap.size, 0, none⟩) 1 1) (by rfl) rfl (by go_simp) ?_
           refine hK.out _ _ trivial (fun hHeld => ?_)
           clear hK K
           refine norm_ (a' := ?_) ?_ ?_
           rotate_left
           ·show Act.put _ (some 50) _ = _
            simp only [Act.put, List.setIfInBounds_toArray, List.set_cons_zero, List.set_cons_succ, i64_w, i32_w]
            rfl
           have r1_ := rowAt_one wa7 n
           obtain ⟨wb13, eq_wb13⟩ : ∃ x, World.alloc wa7 (.cells #[.string n] 9) = x := ⟨_, rfl⟩
           have HA14 := Aside0.mk (HA11.out.below (below_alloc (Below.refl _ _) (.cells #[.string n] 9)))
           rw [eq_wb13] at HA14
           have HB15 := Aside0.mk (below_alloc HB9.out (.cells #[.string n] 9))
           rw [eq_wb13] at HB15
           have HS16 := Aside0.mk (show W5 ≤ (World.alloc wa7 (.cells #[.string n] 9)).heap.size from by have := HS10.out; simp; omega)
           rw [eq_wb13] at HS16
           have HR17 := Aside0.mk (Kd.R_below HR12.out (below_alloc (Below.refl _ _) (.cells #[.string n] 9)))
           rw [eq_wb13] at HR17
           rw [eq_wb13]
           obtain ⟨gb18, egb18⟩ : ∃ x, x = wa7.heap.size := ⟨_, rfl⟩
           rw [← egb18] at r1_ ⊢
           rw [eq_wb13] at r1_
           have HO19 := Aside0.mk r1_
           clear r1_ eq_wb13
           clear egb18
           have r48_ := HR17.out
           rw [List.nil_append] at r48_
           exact norm_ (by simp only [putAll, Act.put, List.setIfInBounds_toArray, List.set_cons_zero, List.set_cons_succ]) (hCont (.slice (some ⟨ga2, 0, none⟩) 0 0, va8, .slice (some ⟨gb18, 0, none⟩) 1 1) _ ⟨r48_, ⟨_, rfl, HO19.out⟩, HA14.out, HB15.out, HS16.out⟩)
          ·skip
           refine value_ (w1 := World.alloc wb1 (.cells #[.string n] 9)) (v := .slice (some ⟨(wb1).heap.size, 0, none⟩) 1 1) (by rfl) rfl (by go_simp) ?_
           refine hK.out _ _ trivial (fun hHeld => ?_)
           clear hK K
           refine norm_ (a' := ?_) ?_ ?_
           rotate_left
           ·show Act.put _ (some 50) _ = _
            simp only [Act.put, List.setIfInBounds_toArray, List.set_cons_zero, List.set_cons_succ, i64_w, i32_w]
            rfl
           have r1_ := rowAt_one wb1 n
           obtain ⟨wb20, eq_wb20⟩ : ∃ x, World.alloc wb1 (.cells #[.string n] 9) = x := ⟨_, rfl⟩
           have HA21 := Aside0.mk (HA3.out.below (below_alloc (Below.refl _ _) (.cells #[.string n] 9)))
           rw [eq_wb20] at HA21
           have HB22 := Aside0.mk (below_alloc HB4.out (.cells #[.string n] 9))
           rw [eq_wb20] at HB22
           have HS23 := Aside0.mk (show W5 ≤ (World.alloc wb1 (.cells #[.string n] 9)).heap.size from by have := HS5.out; simp; omega)
           rw [eq_wb20] at HS23
           have HR24 := Aside0.mk (Kd.R_below HR6.out (below_alloc (Below.refl _ _) (.cells #[.string n] 9)))
           rw [eq_wb20] at HR24
           rw [eq_wb20]
           obtain ⟨gb25, egb25⟩ : ∃ x, x = wb1.heap.size := ⟨_, rfl⟩
           rw [← egb25] at r1_ ⊢
           rw [eq_wb20] at r1_
           have HO26 := Aside0.mk r1_
           clear r1_ eq_wb20
           have ne_ga2 := Aside0.mk (show gb25 ≠ ga2 from by rw [egb25]; exact Nat.ne_of_gt le_ga2.out)
           clear egb25
           refine one_ (i := 4) (N := some 48) #[true, true, true, true, true, true, true, false, true, true, true, false, false] rfl rfl (by kernel_rfl) (by decide) (fun K hK => ?_)
           refine Kd.R_append_rows_step Kd.string (Rr := Kd.string.K wb20) (w0 := w) w.heap.size (by rfl) (.tmp 44) (.tmp 47) 31 9 (.string ⟨#[]⟩) 16 rfl Tryz.underlying31 info9 rfl (by decide) (by omega) (.slice (some ⟨ga2, 0, none⟩) 0 0) ([]) (out.take j) (some ⟨g, 0, none⟩) (j) _ (fun q => W5 ≤ q) (fun _ => False) rfl rfl HR24.out (C_pre j HJ.out (HA21.out.reads Flat.string)) (fun x cs hK => by rw [Flat.string.K hK]; exact Flat.string.mkM _ _ _ _) (fun _ hk => hk.elim) (fun q hq => Nat.le_trans HS23.out hq) HB22.out (below_size HB22.out) ?alva28 ?_
           case alva28 => have h1 := HLEN.out; have h2 := HLE.out; simp only [List.length_take, List.length_drop, List.length_append, List.length_nil, List.length_cons]; omega
           intro va28 wa27 hr_ hb_ hg_ hat_
           refine hK.out _ _ trivial (fun hHeld => ?_)
           clear hK K
           refine norm_ (a' := ?_) ?_ ?_
           rotate_left
           ·show Act.put _ (some 48) _ = _
            simp only [Act.put, List.setIfInBounds_toArray, List.set_cons_zero, List.set_cons_succ, i64_w, i32_w]
            rfl
           have HB29 := Aside0.mk hb_
           have HS30 := Aside0.mk (Nat.le_trans HS23.out hg_.size)
           have HA31 := Aside0.mk (HA21.out.grown hg_ (fun e_ => by have := HR24.out.1 _ e_.symm; have := HG5.out; omega))
           have H132 := Aside0.mk (HO26.out.grown hg_ (fun e_ => by injection e_ with e_; exact ne_ga2.out e_))
           have HR33 := Aside0.mk hr_
           clear hr_ hb_ hg_ hat_
           have r48_ := HR33.out
           rw [List.nil_append] at r48_
           exact norm_ (by simp only [putAll, Act.put, List.setIfInBounds_toArray, List.set_cons_zero, List.set_cons_succ]) (hCont (.slice (some ⟨ga2, 0, none⟩) 0 0, va28, .slice (some ⟨gb25, 0, none⟩) 1 1) _ ⟨r48_, ⟨_, rfl, H132.out⟩, HA31.out, HB29.out, HS30.out⟩)
         ·skip
          refine value_ (w1 := World.alloc w5 (.cells #[.string n] 9)) (v := .slice (some ⟨(w5).heap.size, 0, none⟩) 1 1) (by rfl) rfl (by go_simp) ?_
          refine hK.out _ _ trivial (fun hHeld => ?_)
          clear hK K
          refine norm_ (a' := ?_) ?_ ?_
          rotate_left
          ·show Act.put _ (some 50) _ = _
           simp only [Act.put, List.setIfInBounds_toArray, List.set_cons_zero, List.set_cons_succ, i64_w, i32_w]
           rfl
          have r1_ := rowAt_one w5 n
          obtain ⟨wb34, eq_wb34⟩ : ∃ x, World.alloc w5 (.cells #[.string n] 9) = x := ⟨_, rfl⟩
          have HA35 := Aside0.mk (HA4.out.below (below_alloc (Below.refl _ _) (.cells #[.string n] 9)))
          rw [eq_wb34] at HA35
          have HB36 := Aside0.mk (below_alloc HB4.out (.cells #[.string n] 9))
          rw [eq_wb34] at HB36
          have HS37 := Aside0.mk (show W5 ≤ (World.alloc w5 (.cells #[.string n] 9)).heap.size from by have := HS4.out; simp; omega)
          rw [eq_wb34] at HS37
          rw [eq_wb34]
          obtain ⟨gb38, egb38⟩ : ∃ x, x = w5.heap.size := ⟨_, rfl⟩
          rw [← egb38] at r1_ ⊢
          rw [eq_wb34] at r1_
          have HO39 := Aside0.mk r1_
          clear r1_ eq_wb34
          clear egb38
          refine one_ (i := 0) (N := some 44) #[true, true, true, true, false, true, true, false, true, true, true, false, false] rfl rfl (by kernel_rfl) (by decide) (fun K hK => ?_)
          refine value_ (w1 := World.alloc wb34 (.cells #[] 9)) (v := .slice (some ⟨(wb34).heap.size, 0, none⟩) 0 0) (by rfl) rfl (by go_simp) ?_
          refine hK.out _ _ trivial (fun hHeld => ?_)
          clear hK K
          refine norm_ (a' := ?_) ?_ ?_
          rotate_left
          ·show Act.put _ (some 44) _ = _
           simp only [Act.put, List.setIfInBounds_toArray, List.set_cons_zero, List.set_cons_succ, i64_w, i32_w]
           rfl
          have r44_ := R_empty wb34 w.heap.size (below_size HB36.out) (fun q => W5 ≤ q) HS37.out
          obtain ⟨wb40, eq_wb40⟩ : ∃ x, World.alloc wb34 (.cells #[] 9) = x := ⟨_, rfl⟩
          have HA42 := Aside0.mk (HA35.out.below (below_alloc (Below.refl _ _) (.cells #[] 9)))
          rw [eq_wb40] at HA42
          have H143 := Aside0.mk (HO39.out.below (below_alloc (Below.refl _ _) (.cells #[] 9)))
          rw [eq_wb40] at H143
          have HB44 := Aside0.mk (below_alloc HB36.out (.cells #[] 9))
          rw [eq_wb40] at HB44
          have HS45 := Aside0.mk (show W5 ≤ (World.alloc wb34 (.cells #[] 9)).heap.size from by have := HS37.out; simp; omega)
          rw [eq_wb40] at HS45
          rw [eq_wb40]
          obtain ⟨ga41, ega41⟩ : ∃ x, x = wb34.heap.size := ⟨_, rfl⟩
          have le_ga41 := Aside0.mk (show ga41 < wb40.heap.size from by rw [ega41, ← eq_wb40]; simp)
          rw [← ega41] at r44_ ⊢
          rw [eq_wb40] at r44_
          have HR46 := Aside0.mk r44_
          clear r44_ eq_wb40
          have ne_ga41 := Aside0.mk (show gb38 ≠ ga41 from by rw [ega41]; exact Nat.ne_of_lt HO39.out.lt)
          clear ega41
          refine one_ (i := 4) (N := some 48) #[true, true, true, true, true, true, true, false, true, true, true, false, false] rfl rfl (by kernel_rfl) (by decide) (fun K hK => ?_)
          refine Kd.R_append_rows_step Kd.string (Rr := Kd.string.K wb40) (w0 := w) w.heap.size (by rfl) (.tmp 44) (.tmp 47) 31 9 (.string ⟨#[]⟩) 16 rfl Tryz.underlying31 info9 rfl (by decide) (by omega) (.slice (some ⟨ga41, 0, none⟩) 0 0) ([]) (out.take j) (some ⟨g, 0, none⟩) (j) _ (fun q => W5 ≤ q) (fun _ => False) rfl rfl HR46.out (C_pre j HJ.out (HA42.out.reads Flat.string)) (fun x cs hK => by rw [Flat.string.K hK]; exact Flat.string.mkM _ _ _ _) (fun _ hk => hk.elim) (fun q hq => Nat.le_trans HS45.out hq) HB44.out (below_size HB44.out) ?alva48 ?_
          case alva48 => have h1 := HLEN.out; have h2 := HLE.out; simp only [List.length_take, List.length_drop, List.length_append, List.length_nil, List.length_cons]; omega
          intro va48 wa47 hr_ hb_ hg_ hat_
          refine hK.out _ _ trivial (fun hHeld => ?_)
          clear hK K
          refine norm_ (a' := ?_) ?_ ?_
          rotate_left
          ·show Act.put _ (some 48) _ = _
           simp only [Act.put, List.setIfInBounds_toArray, List.set_cons_zero, List.set_cons_succ, i64_w, i32_w]
           rfl
          have HB49 := Aside0.mk hb_
          have HS50 := Aside0.mk (Nat.le_trans HS45.out hg_.size)
          have HA51 := Aside0.mk (HA42.out.grown hg_ (fun e_ => by have := HR46.out.1 _ e_.symm; have := HG5.out; omega))
          have H152 := Aside0.mk (H143.out.grown hg_ (fun e_ => by injection e_ with e_; exact ne_ga41.out e_))
          have HR53 := Aside0.mk hr_
          clear hr_ hb_ hg_ hat_
          have r48_ := HR53.out
          rw [List.nil_append] at r48_
          exact norm_ (by simp only [putAll, Act.put, List.setIfInBounds_toArray, List.set_cons_zero, List.set_cons_succ]) (hCont (.slice (some ⟨ga41, 0, none⟩) 0 0, va48, .slice (some ⟨gb38, 0, none⟩) 1 1) _ ⟨r48_, ⟨_, rfl, H152.out⟩, HA51.out, HB49.out, HS50.out⟩)
        ·rintro ⟨v44, v48, v50⟩ w6 ⟨hr_, ⟨g1, e1_, h1_⟩, ha_, hb_, hs_⟩
         simp only at e1_ hr_
         subst e1_
         have HRa := Aside0.mk hr_
         have HOa := Aside0.mk h1_
         have HAa := Aside0.mk ha_
         have HBa := Aside0.mk hb_
         have HSa := Aside0.mk hs_
         clear hr_ h1_ ha_ hb_ hs_
         refine norm_ (a' := ?_) ?_ ?_
         rotate_left
         ·simp only [putAll, Act.put, List.setIfInBounds_toArray, List.set_cons_zero, List.set_cons_succ]
          rfl
         refine one_ (i := 7) (N := some 51) #[true, true, true, true, true, true, true, true, true, true, true, false, false] rfl rfl (by kernel_rfl) (by decide) (fun K hK => ?_)
         refine Kd.R_append_rows_step Kd.string (Rr := Kd.string.K w6) (w0 := w) w.heap.size (by rfl) (.tmp 48) (.tmp 50) 31 9 (.string ⟨#[]⟩) 16 rfl Tryz.underlying31 info9 rfl (by decide) (by omega) (v48) (out.take j) ([n]) (some ⟨g1, 0, none⟩) (1) _ (fun q => W5 ≤ q) (fun _ => False) rfl rfl HRa.out (HOa.out.reads Flat.string) (fun x cs hK => by rw [Flat.string.K hK]; exact Flat.string.mkM _ _ _ _) (fun _ hk => hk.elim) (fun q hq => Nat.le_trans HSa.out hq) HBa.out (below_size HBa.out) ?alva55 ?_
         case alva55 => have h1 := HLEN.out; have h2 := HLE.out; simp only [List.length_take, List.length_drop, List.length_append, List.length_nil, List.length_cons]; omega
         intro va55 wa54 hr_ hb_ hg_ hat_
         refine hK.out _ _ trivial (fun hHeld => ?_)
         clear hK K
         refine norm_ (a' := ?_) ?_ ?_
         rotate_left
         ·show Act.put _ (some 51) _ = _
          simp only [Act.put, List.setIfInBounds_toArray, List.set_cons_zero, List.set_cons_succ, i64_w, i32_w]
          rfl
         have HB56 := Aside0.mk hb_
         have HS57 := Aside0.mk (Nat.le_trans HSa.out hg_.size)
         have HA58 := Aside0.mk (HAa.out.grown hg_ (fun e_ => by have := HRa.out.1 _ e_.symm; have := HG5.out; omega))
         have HR59 := Aside0.mk hr_
         clear hr_ hb_ hg_ hat_
         refine one_ (i := 11) (N := some 55) #[true, true, true, true, true, true, true, true, true, true, true, true, false] rfl rfl (by kernel_rfl) (by decide) (fun K hK => ?_)
         refine Kd.R_append_rows_step Kd.string (Rr := Kd.string.K wa54) (w0 := w) w.heap.size (by rfl) (.tmp 51) (.tmp 54) 31 9 (.string ⟨#[]⟩) 16 rfl Tryz.underlying31 info9 rfl (by decide) (by omega) (va55) (out.take j ++ [n]) (out.drop j) (some ⟨g, jo, none⟩) (out.length - j) _ (fun q => W5 ≤ q) (fun _ => False) rfl rfl HR59.out (C_dropAt HA58.out j jo HJ.out HJO.out) (fun x cs hK => by rw [Flat.string.K hK]; exact Flat.string.mkM _ _ _ _) (fun _ hk => hk.elim) (fun q hq => Nat.le_trans HS57.out hq) HB56.out (below_size HB56.out) ?alva61 ?_
         case alva61 => have h1 := HLEN.out; have h2 := HLE.out; simp only [List.length_take, List.length_drop, List.length_append, List.length_nil, List.length_cons]; omega
         intro va61 wa60 hr_ hb_ hg_ hat_
         refine hK.out _ _ trivial (fun hHeld => ?_)
         clear hK K
         refine norm_ (a' := ?_) ?_ ?_
         rotate_left
         ·show Act.put _ (some 55) _ = _
          simp only [Act.put, List.setIfInBounds_toArray, List.set_cons_zero, List.set_cons_succ, i64_w, i32_w]
          rfl
         have HB62 := Aside0.mk hb_
         have HS63 := Aside0.mk (Nat.le_trans HS57.out hg_.size)
         have HA64 := Aside0.mk (HA58.out.grown hg_ (fun e_ => by have := HR59.out.1 _ e_.symm; have := HG5.out; omega))
         have HR65 := Aside0.mk hr_
         clear hr_ hb_ hg_ hat_
         refine pure_ (i := 12) (N := some 3) (v := ?_) (a' := ?_) #[true, true, true, true, true, true, true, true, true, true, true, true, true] rfl rfl (by kernel_rfl) (fun _ _ _ h => h) (Or.inl ⟨by rfl, ?_⟩) ?_ ?_
         rotate_left
         ·intro w'
          go_simp
          with_reducible rfl
         rotate_left
         ·simp only [Act.put, List.setIfInBounds_toArray, List.set_cons_zero, List.set_cons_succ, i64_w, i32_w]
          rfl
         refine done_ (by kernel_rfl) ?_
         have HR9 := HR65.out
         rw [List.append_assoc] at HR9
         have HLE9 := HLE.out
         rcases RowAt.ofR Flat.string HR9 with ⟨_, hnil⟩ | ⟨g9, cap9, rfl, hg9, hq9, hA9⟩
         ·simp at hnil
         have hlen9 : (out.take j ++ ([n] ++ out.drop j)).length ≤ i + 1 := by have := HJ.out; simp; omega
         have HA9 := Lib.hid hA9
         clear HR9 hA9
         generalize out.take j ++ ([n] ++ out.drop j) = out2 at *
         go_wp2
         go_roundw
         case rel => exact ⟨i + 1, by omega, by go_num, out2, g9, cap9, rfl, ⟨HQ.out⟩, ⟨hlen9⟩, ⟨HA9.out⟩, ⟨hg9⟩, HB62⟩
         case measure => simp [intOf]; omega
       case neg =>
        have hless := (by omega : (out.length : Int) ≤ insAt n out)
        have hcell := trivial
        try generalize rdOf ByteArray.empty out (insAt n out) = y at *
        go_wp2
        have hjn : insB n out = out.take (insAt n out) ++ ([n] ++ out.drop (insAt n out)) := rfl
        have HQ2 := HQ.out
        rw [hjn] at HQ2
        clear hjn hless hcell HQ
        have HQ := Lib.hid HQ2
        clear HQ2
        generalize insAt n out = j at *
        have hcap := HA3.out.le
        have HJ := Aside0.mk (show j ≤ out.length from hil)
        have hj1 : (j : Int) ≤ (cap : Int) := by omega
        have hj2 : (j : Int) ≤ (out.length : Int) := by omega
        have hj3 : j ≤ cap := by omega
        have hcap2 : (out.length : Int) ≤ (cap : Int) := by omega
        obtain ⟨jo, hjo⟩ : ∃ o, (if cap = j then 0 else j) = o := ⟨_, rfl⟩
        have HJO := Lib.hid hjo
        clear hjo
        have HA4 := Aside0.mk (HA3.out.below (below_drew (Below.refl _ _)))
        have HB4 := Aside0.mk (below_drew HB3.out)
        refine start_ (n := 13) (S := fun _ => True) (ds := []) #[false, false, false, false, false, false, false, false, false, false, false, false, false] (by kernel_rfl) rfl rfl trivial (fun hHeld => ?_)
        generalize w3.drew = w5 at HA4 HB4 hHeld ⊢
        obtain ⟨W5, eW5⟩ : ∃ x, x = w5.heap.size := ⟨_, rfl⟩
        have HS4 := Aside0.mk (Nat.le_of_eq eW5)
        have HG5 := Aside0.mk (show g < W5 from by rw [eW5]; exact HA4.out.lt)
        clear eW5 HA3 HB3
        refine pure_ (i := 1) (N := some 45) (v := ?_) (a' := ?_) #[false, true, false, false, false, false, false, false, false, false, false, false, false] rfl rfl (by kernel_rfl) (fun _ _ _ h => h) (Or.inl ⟨by rfl, ?_⟩) ?_ ?_
        rotate_left
        ·intro w'
         go_simp
         with_reducible rfl
        rotate_left
        ·simp only [Act.put, List.setIfInBounds_toArray, List.set_cons_zero, List.set_cons_succ, i64_w, i32_w]
         rfl
        refine pure_ (i := 2) (N := some 46) (v := ?_) (a' := ?_) #[false, true, true, false, false, false, false, false, false, false, false, false, false] rfl rfl (by kernel_rfl) (fun _ _ _ h => h) (Or.inl ⟨by rfl, ?_⟩) ?_ ?_
        rotate_left
        ·intro w'
         go_simp
         with_reducible rfl
        rotate_left
        ·simp only [Act.put, List.setIfInBounds_toArray, List.set_cons_zero, List.set_cons_succ, i64_w, i32_w]
         rfl
        refine pure_ (i := 3) (N := some 47) (v := ?_) (a' := ?_) #[false, true, true, true, false, false, false, false, false, false, false, false, false] rfl rfl (by kernel_rfl) (fun _ _ _ h => h) (Or.inl ⟨by rfl, ?_⟩) ?_ ?_
        rotate_left
        ·intro w'
         go_simp
         with_reducible rfl
        rotate_left
        ·simp only [Act.put, List.setIfInBounds_toArray, List.set_cons_zero, List.set_cons_succ, i64_w, i32_w]
         rfl
        refine pure_ (i := 5) (N := some 49) (v := ?_) (a' := ?_) #[false, true, true, true, false, true, false, false, false, false, false, false, false] rfl rfl (by kernel_rfl) (fun _ _ _ h => h) (Or.inl ⟨by rfl, ?_⟩) ?_ ?_
        rotate_left
        ·intro w'
         go_simp
         with_reducible rfl
        rotate_left
        ·simp only [Act.put, List.setIfInBounds_toArray, List.set_cons_zero, List.set_cons_succ, i64_w, i32_w]
         rfl
        refine pure_ (i := 8) (N := some 52) (v := ?_) (a' := ?_) #[false, true, true, true, false, true, false, false, true, false, false, false, false] rfl rfl (by kernel_rfl) (fun _ _ _ h => h) (Or.inl ⟨by rfl, ?_⟩) ?_ ?_
        rotate_left
        ·intro w'
         go_simp
         with_reducible rfl
        rotate_left
        ·simp only [Act.put, List.setIfInBounds_toArray, List.set_cons_zero, List.set_cons_succ, i64_w, i32_w]
         rfl
        refine pure_ (i := 9) (N := some 53) (v := ?_) (a' := ?_) #[false, true, true, true, false, true, false, false, true, true, false, false, false] rfl rfl (by kernel_rfl) (fun _ _ _ h => h) (Or.inl ⟨by rfl, ?_⟩) ?_ ?_
        rotate_left
        ·intro w'
         go_simp
         with_reducible rfl
        rotate_left
        ·simp only [Act.put, List.setIfInBounds_toArray, List.set_cons_zero, List.set_cons_succ, i64_w, i32_w]
         rfl
        refine pure_ (i := 10) (N := some 54) (v := .slice (some ⟨g, jo, none⟩) (out.length - j) (cap - j)) (a' := ?_) #[false, true, true, true, false, true, false, false, true, true, true, false, false] rfl rfl (by kernel_rfl) (fun _ _ _ h => h) (Or.inl ⟨by rfl, fun w' => (by go_simp; rw [← HJO.out]; split <;> rfl)⟩) ?_ ?_
        rotate_left
        ·simp only [Act.put, List.setIfInBounds_toArray, List.set_cons_zero, List.set_cons_succ, i64_w, i32_w]
         rfl
        refine join_ (σ := Value × Value × Value) 3 #[true, true, true, true, true, true, true, false, true, true, true, false, false] (fun s_ => [(44, s_.1), (48, s_.2.1), (50, s_.2.2)]) (fun s_ w' => (Kd.R Kd.string 9 w' w.heap.size (fun q => W5 ≤ q) s_.2.1 (out.take j)) ∧ (∃ g1, s_.2.2 = .slice (some ⟨g1, 0, none⟩) 1 1 ∧ RowAt encB 1 9 g1 1 w' [n]) ∧ RowAt encB 1 9 g cap w' out ∧ Below w.heap.size w w' ∧ W5 ≤ w'.heap.size) ?_ ?_
        rotate_left
        ·intro hCont
         refine two_ (i := 0) (j := 6) (Ni := some 44) (Nj := some 50) #[true, true, true, true, false, true, false, false, true, true, true, false, false] #[false, true, true, true, false, true, true, false, true, true, true, false, false] rfl rfl rfl rfl (by kernel_rfl) (by decide) (by decide) (fun K hK => ?_) (fun K hK => ?_)
         ·skip
          refine value_ (w1 := World.alloc w5 (.cells #[] 9)) (v := .slice (some ⟨(w5).heap.size, 0, none⟩) 0 0) (by rfl) rfl (by go_simp) ?_
          refine hK.out _ _ trivial (fun hHeld => ?_)
          clear hK K
          refine norm_ (a' := ?_) ?_ ?_
          rotate_left
          ·show Act.put _ (some 44) _ = _
           simp only [Act.put, List.setIfInBounds_toArray, List.set_cons_zero, List.set_cons_succ, i64_w, i32_w]
           rfl
          have r44_ := R_empty w5 w.heap.size (below_size HB4.out) (fun q => W5 ≤ q) HS4.out
          obtain ⟨wb1, eq_wb1⟩ : ∃ x, World.alloc w5 (.cells #[] 9) = x := ⟨_, rfl⟩
          have HA3 := Aside0.mk (HA4.out.below (below_alloc (Below.refl _ _) (.cells #[] 9)))
          rw [eq_wb1] at HA3
          have HB4 := Aside0.mk (below_alloc HB4.out (.cells #[] 9))
          rw [eq_wb1] at HB4
          have HS5 := Aside0.mk (show W5 ≤ (World.alloc w5 (.cells #[] 9)).heap.size from by have := HS4.out; simp; omega)
          rw [eq_wb1] at HS5
          rw [eq_wb1]
          obtain ⟨ga2, ega2⟩ : ∃ x, x = w5.heap.size := ⟨_, rfl⟩
          have le_ga2 := Aside0.mk (show ga2 < wb1.heap.size from by rw [ega2, ← eq_wb1]; simp)
          rw [← ega2] at r44_ ⊢
          rw [eq_wb1] at r44_
          have HR6 := Aside0.mk r44_
          clear r44_ eq_wb1
          clear ega2
          refine two_ (i := 4) (j := 6) (Ni := some 48) (Nj := some 50) #[true, true, true, true, true, true, false, false, true, true, true, false, false] #[true, true, true, true, false, true, true, false, true, true, true, false, false] rfl rfl rfl rfl (by kernel_rfl) (by decide) (by decide) (fun K hK => ?_) (fun K hK => ?_)
          ·skip
           refine Kd.R_append_rows_step Kd.string (Rr := Kd.string.K wb1) (w0 := w) w.heap.size (by rfl) (.tmp 44) (.tmp 47) 31 9 (.string ⟨#[]⟩) 16 rfl Tryz.underlying31 info9 rfl (by decide) (by omega) (.slice (some ⟨ga2, 0, none⟩) 0 0) ([]) (out.take j) (some ⟨g, 0, none⟩) (j) _ (fun q => W5 ≤ q) (fun _ => False) rfl rfl HR6.out (C_pre j HJ.out (HA3.out.reads Flat.string)) (fun x cs hK => by rw [Flat.string.K hK]; exact Flat.string.mkM _ _ _ _) (fun _ hk => hk.elim) (fun q hq => Nat.le_trans HS5.out hq) HB4.out (below_size HB4.out) ?alva8 ?_
           case alva8 => have h1 := HLEN.out; have h2 := HLE.out; simp only [List.length_take, List.length_drop, List.length_append, List.length_nil, List.length_cons]; omega
           intro va8 wa7 hr_ hb_ hg_ hat_
           refine hK.out _ _ trivial (fun hHeld => ?_)
           clear hK K
           refine norm_ (a' := ?_) ?_ ?_
           rotate_left
           ·show Act.put _ (some 48) _ = _
            simp only [Act.put, List.setIfInBounds_toArray, List.set_cons_zero, List.set_cons_succ, i64_w, i32_w]
            rfl
           have HB9 := Aside0.mk hb_
           have HS10 := Aside0.mk (Nat.le_trans HS5.out hg_.size)
           have HA11 := Aside0.mk (HA3.out.grown hg_ (fun e_ => by have := HR6.out.1 _ e_.symm; have := HG5.out; omega))
           have HR12 := Aside0.mk hr_
           clear hr_ hb_ hg_ hat_
           refine one_ (i := 6) (N := some 50) #[true, true, true, true, true, true, true, false, true, true, true, false, false] rfl rfl (by kernel_rfl) (by decide) (fun K hK => ?_)
           refine value_ (w1 := World.alloc wa7 (.cells #[.string n] 9)) (v := .slice (some ⟨(wa7).heap.size, 0, none⟩) 1 1) (by rfl) rfl (by go_simp) ?_
           refine hK.out _ _ trivial (fun hHeld => ?_)
           clear hK K
           refine norm_ (a' := ?_) ?_ ?_
           rotate_left
           ·show Act.put _ (some 50) _ = _
            simp only [Act.put, List.setIfInBounds_toArray, List.set_cons_zero, List.set_cons_succ, i64_w, i32_w]
            rfl
           have r1_ := rowAt_one wa7 n
           obtain ⟨wb13, eq_wb13⟩ : ∃ x, World.alloc wa7 (.cells #[.string n] 9) = x := ⟨_, rfl⟩
           have HA14 := Aside0.mk (HA11.out.below (below_alloc (Below.refl _ _) (.cells #[.string n] 9)))
           rw [eq_wb13] at HA14
           have HB15 := Aside0.mk (below_alloc HB9.out (.cells #[.string n] 9))
           rw [eq_wb13] at HB15
           have HS16 := Aside0.mk (show W5 ≤ (World.alloc wa7 (.cells #[.string n] 9)).heap.size from by have := HS10.out; simp; omega)
           rw [eq_wb13] at HS16
           have HR17 := Aside0.mk (Kd.R_below HR12.out (below_alloc (Below.refl _ _) (.cells #[.string n] 9)))
           rw [eq_wb13] at HR17
           rw [eq_wb13]
           obtain ⟨gb18, egb18⟩ : ∃ x, x = wa7.heap.size := ⟨_, rfl⟩
           rw [← egb18] at r1_ ⊢
           rw [eq_wb13] at r1_
           have HO19 := Aside0.mk r1_
           clear r1_ eq_wb13
           clear egb18
           have r48_ := HR17.out
           rw [List.nil_append] at r48_
           exact norm_ (by simp only [putAll, Act.put, List.setIfInBounds_toArray, List.set_cons_zero, List.set_cons_succ]) (hCont (.slice (some ⟨ga2, 0, none⟩) 0 0, va8, .slice (some ⟨gb18, 0, none⟩) 1 1) _ ⟨r48_, ⟨_, rfl, HO19.out⟩, HA14.out, HB15.out, HS16.out⟩)
          ·skip
           refine value_ (w1 := World.alloc wb1 (.cells #[.string n] 9)) (v := .slice (some ⟨(wb1).heap.size, 0, none⟩) 1 1) (by rfl) rfl (by go_simp) ?_
           refine hK.out _ _ trivial (fun hHeld => ?_)
           clear hK K
           refine norm_ (a' := ?_) ?_ ?_
           rotate_left
           ·show Act.put _ (some 50) _ = _
            simp only [Act.put, List.setIfInBounds_toArray, List.set_cons_zero, List.set_cons_succ, i64_w, i32_w]
            rfl
           have r1_ := rowAt_one wb1 n
           obtain ⟨wb20, eq_wb20⟩ : ∃ x, World.alloc wb1 (.cells #[.string n] 9) = x := ⟨_, rfl⟩
           have HA21 := Aside0.mk (HA3.out.below (below_alloc (Below.refl _ _) (.cells #[.string n] 9)))
           rw [eq_wb20] at HA21
           have HB22 := Aside0.mk (below_alloc HB4.out (.cells #[.string n] 9))
           rw [eq_wb20] at HB22
           have HS23 := Aside0.mk (show W5 ≤ (World.alloc wb1 (.cells #[.string n] 9)).heap.size from by have := HS5.out; simp; omega)
           rw [eq_wb20] at HS23
           have HR24 := Aside0.mk (Kd.R_below HR6.out (below_alloc (Below.refl _ _) (.cells #[.string n] 9)))
           rw [eq_wb20] at HR24
           rw [eq_wb20]
           obtain ⟨gb25, egb25⟩ : ∃ x, x = wb1.heap.size := ⟨_, rfl⟩
           rw [← egb25] at r1_ ⊢
           rw [eq_wb20] at r1_
           have HO26 := Aside0.mk r1_
           clear r1_ eq_wb20
           have ne_ga2 := Aside0.mk (show gb25 ≠ ga2 from by rw [egb25]; exact Nat.ne_of_gt le_ga2.out)
           clear egb25
           refine one_ (i := 4) (N := some 48) #[true, true, true, true, true, true, true, false, true, true, true, false, false] rfl rfl (by kernel_rfl) (by decide) (fun K hK => ?_)
           refine Kd.R_append_rows_step Kd.string (Rr := Kd.string.K wb20) (w0 := w) w.heap.size (by rfl) (.tmp 44) (.tmp 47) 31 9 (.string ⟨#[]⟩) 16 rfl Tryz.underlying31 info9 rfl (by decide) (by omega) (.slice (some ⟨ga2, 0, none⟩) 0 0) ([]) (out.take j) (some ⟨g, 0, none⟩) (j) _ (fun q => W5 ≤ q) (fun _ => False) rfl rfl HR24.out (C_pre j HJ.out (HA21.out.reads Flat.string)) (fun x cs hK => by rw [Flat.string.K hK]; exact Flat.string.mkM _ _ _ _) (fun _ hk => hk.elim) (fun q hq => Nat.le_trans HS23.out hq) HB22.out (below_size HB22.out) ?alva28 ?_
           case alva28 => have h1 := HLEN.out; have h2 := HLE.out; simp only [List.length_take, List.length_drop, List.length_append, List.length_nil, List.length_cons]; omega
           intro va28 wa27 hr_ hb_ hg_ hat_
           refine hK.out _ _ trivial (fun hHeld => ?_)
           clear hK K
           refine norm_ (a' := ?_) ?_ ?_
           rotate_left
           ·show Act.put _ (some 48) _ = _
            simp only [Act.put, List.setIfInBounds_toArray, List.set_cons_zero, List.set_cons_succ, i64_w, i32_w]
            rfl
           have HB29 := Aside0.mk hb_
           have HS30 := Aside0.mk (Nat.le_trans HS23.out hg_.size)
           have HA31 := Aside0.mk (HA21.out.grown hg_ (fun e_ => by have := HR24.out.1 _ e_.symm; have := HG5.out; omega))
           have H132 := Aside0.mk (HO26.out.grown hg_ (fun e_ => by injection e_ with e_; exact ne_ga2.out e_))
           have HR33 := Aside0.mk hr_
           clear hr_ hb_ hg_ hat_
           have r48_ := HR33.out
           rw [List.nil_append] at r48_
           exact norm_ (by simp only [putAll, Act.put, List.setIfInBounds_toArray, List.set_cons_zero, List.set_cons_succ]) (hCont (.slice (some ⟨ga2, 0, none⟩) 0 0, va28, .slice (some ⟨gb25, 0, none⟩) 1 1) _ ⟨r48_, ⟨_, rfl, H132.out⟩, HA31.out, HB29.out, HS30.out⟩)
         ·skip
          refine value_ (w1 := World.alloc w5 (.cells #[.string n] 9)) (v := .slice (some ⟨(w5).heap.size, 0, none⟩) 1 1) (by rfl) rfl (by go_simp) ?_
          refine hK.out _ _ trivial (fun hHeld => ?_)
          clear hK K
          refine norm_ (a' := ?_) ?_ ?_
          rotate_left
          ·show Act.put _ (some 50) _ = _
           simp only [Act.put, List.setIfInBounds_toArray, List.set_cons_zero, List.set_cons_succ, i64_w, i32_w]
           rfl
          have r1_ := rowAt_one w5 n
          obtain ⟨wb34, eq_wb34⟩ : ∃ x, World.alloc w5 (.cells #[.string n] 9) = x := ⟨_, rfl⟩
          have HA35 := Aside0.mk (HA4.out.below (below_alloc (Below.refl _ _) (.cells #[.string n] 9)))
          rw [eq_wb34] at HA35
          have HB36 := Aside0.mk (below_alloc HB4.out (.cells #[.string n] 9))
          rw [eq_wb34] at HB36
          have HS37 := Aside0.mk (show W5 ≤ (World.alloc w5 (.cells #[.string n] 9)).heap.size from by have := HS4.out; simp; omega)
          rw [eq_wb34] at HS37
          rw [eq_wb34]
          obtain ⟨gb38, egb38⟩ : ∃ x, x = w5.heap.size := ⟨_, rfl⟩
          rw [← egb38] at r1_ ⊢
          rw [eq_wb34] at r1_
          have HO39 := Aside0.mk r1_
          clear r1_ eq_wb34
          clear egb38
          refine one_ (i := 0) (N := some 44) #[true, true, true, true, false, true, true, false, true, true, true, false, false] rfl rfl (by kernel_rfl) (by decide) (fun K hK => ?_)
          refine value_ (w1 := World.alloc wb34 (.cells #[] 9)) (v := .slice (some ⟨(wb34).heap.size, 0, none⟩) 0 0) (by rfl) rfl (by go_simp) ?_
          refine hK.out _ _ trivial (fun hHeld => ?_)
          clear hK K
          refine norm_ (a' := ?_) ?_ ?_
          rotate_left
          ·show Act.put _ (some 44) _ = _
           simp only [Act.put, List.setIfInBounds_toArray, List.set_cons_zero, List.set_cons_succ, i64_w, i32_w]
           rfl
          have r44_ := R_empty wb34 w.heap.size (below_size HB36.out) (fun q => W5 ≤ q) HS37.out
          obtain ⟨wb40, eq_wb40⟩ : ∃ x, World.alloc wb34 (.cells #[] 9) = x := ⟨_, rfl⟩
          have HA42 := Aside0.mk (HA35.out.below (below_alloc (Below.refl _ _) (.cells #[] 9)))
          rw [eq_wb40] at HA42
          have H143 := Aside0.mk (HO39.out.below (below_alloc (Below.refl _ _) (.cells #[] 9)))
          rw [eq_wb40] at H143
          have HB44 := Aside0.mk (below_alloc HB36.out (.cells #[] 9))
          rw [eq_wb40] at HB44
          have HS45 := Aside0.mk (show W5 ≤ (World.alloc wb34 (.cells #[] 9)).heap.size from by have := HS37.out; simp; omega)
          rw [eq_wb40] at HS45
          rw [eq_wb40]
          obtain ⟨ga41, ega41⟩ : ∃ x, x = wb34.heap.size := ⟨_, rfl⟩
          have le_ga41 := Aside0.mk (show ga41 < wb40.heap.size from by rw [ega41, ← eq_wb40]; simp)
          rw [← ega41] at r44_ ⊢
          rw [eq_wb40] at r44_
          have HR46 := Aside0.mk r44_
          clear r44_ eq_wb40
          have ne_ga41 := Aside0.mk (show gb38 ≠ ga41 from by rw [ega41]; exact Nat.ne_of_lt HO39.out.lt)
          clear ega41
          refine one_ (i := 4) (N := some 48) #[true, true, true, true, true, true, true, false, true, true, true, false, false] rfl rfl (by kernel_rfl) (by decide) (fun K hK => ?_)
          refine Kd.R_append_rows_step Kd.string (Rr := Kd.string.K wb40) (w0 := w) w.heap.size (by rfl) (.tmp 44) (.tmp 47) 31 9 (.string ⟨#[]⟩) 16 rfl Tryz.underlying31 info9 rfl (by decide) (by omega) (.slice (some ⟨ga41, 0, none⟩) 0 0) ([]) (out.take j) (some ⟨g, 0, none⟩) (j) _ (fun q => W5 ≤ q) (fun _ => False) rfl rfl HR46.out (C_pre j HJ.out (HA42.out.reads Flat.string)) (fun x cs hK => by rw [Flat.string.K hK]; exact Flat.string.mkM _ _ _ _) (fun _ hk => hk.elim) (fun q hq => Nat.le_trans HS45.out hq) HB44.out (below_size HB44.out) ?alva48 ?_
          case alva48 => have h1 := HLEN.out; have h2 := HLE.out; simp only [List.length_take, List.length_drop, List.length_append, List.length_nil, List.length_cons]; omega
          intro va48 wa47 hr_ hb_ hg_ hat_
          refine hK.out _ _ trivial (fun hHeld => ?_)
          clear hK K
          refine norm_ (a' := ?_) ?_ ?_
          rotate_left
          ·show Act.put _ (some 48) _ = _
           simp only [Act.put, List.setIfInBounds_toArray, List.set_cons_zero, List.set_cons_succ, i64_w, i32_w]
           rfl
          have HB49 := Aside0.mk hb_
          have HS50 := Aside0.mk (Nat.le_trans HS45.out hg_.size)
          have HA51 := Aside0.mk (HA42.out.grown hg_ (fun e_ => by have := HR46.out.1 _ e_.symm; have := HG5.out; omega))
          have H152 := Aside0.mk (H143.out.grown hg_ (fun e_ => by injection e_ with e_; exact ne_ga41.out e_))
          have HR53 := Aside0.mk hr_
          clear hr_ hb_ hg_ hat_
          have r48_ := HR53.out
          rw [List.nil_append] at r48_
          exact norm_ (by simp only [putAll, Act.put, List.setIfInBounds_toArray, List.set_cons_zero, List.set_cons_succ]) (hCont (.slice (some ⟨ga41, 0, none⟩) 0 0, va48, .slice (some ⟨gb38, 0, none⟩) 1 1) _ ⟨r48_, ⟨_, rfl, H152.out⟩, HA51.out, HB49.out, HS50.out⟩)
        ·rintro ⟨v44, v48, v50⟩ w6 ⟨hr_, ⟨g1, e1_, h1_⟩, ha_, hb_, hs_⟩
         simp only at e1_ hr_
         subst e1_
         have HRa := Aside0.mk hr_
         have HOa := Aside0.mk h1_
         have HAa := Aside0.mk ha_
         have HBa := Aside0.mk hb_
         have HSa := Aside0.mk hs_
         clear hr_ h1_ ha_ hb_ hs_
         refine norm_ (a' := ?_) ?_ ?_
         rotate_left
         ·simp only [putAll, Act.put, List.setIfInBounds_toArray, List.set_cons_zero, List.set_cons_succ]
          rfl
         refine one_ (i := 7) (N := some 51) #[true, true, true, true, true, true, true, true, true, true, true, false, false] rfl rfl (by kernel_rfl) (by decide) (fun K hK => ?_)
         refine Kd.R_append_rows_step Kd.string (Rr := Kd.string.K w6) (w0 := w) w.heap.size (by rfl) (.tmp 48) (.tmp 50) 31 9 (.string ⟨#[]⟩) 16 rfl Tryz.underlying31 info9 rfl (by decide) (by omega) (v48) (out.take j) ([n]) (some ⟨g1, 0, none⟩) (1) _ (fun q => W5 ≤ q) (fun _ => False) rfl rfl HRa.out (HOa.out.reads Flat.string) (fun x cs hK => by rw [Flat.string.K hK]; exact Flat.string.mkM _ _ _ _) (fun _ hk => hk.elim) (fun q hq => Nat.le_trans HSa.out hq) HBa.out (below_size HBa.out) ?alva55 ?_
         case alva55 => have h1 := HLEN.out; have h2 := HLE.out; simp only [List.length_take, List.length_drop, List.length_append, List.length_nil, List.length_cons]; omega
         intro va55 wa54 hr_ hb_ hg_ hat_
         refine hK.out _ _ trivial (fun hHeld => ?_)
         clear hK K
         refine norm_ (a' := ?_) ?_ ?_
         rotate_left
         ·show Act.put _ (some 51) _ = _
          simp only [Act.put, List.setIfInBounds_toArray, List.set_cons_zero, List.set_cons_succ, i64_w, i32_w]
          rfl
         have HB56 := Aside0.mk hb_
         have HS57 := Aside0.mk (Nat.le_trans HSa.out hg_.size)
         have HA58 := Aside0.mk (HAa.out.grown hg_ (fun e_ => by have := HRa.out.1 _ e_.symm; have := HG5.out; omega))
         have HR59 := Aside0.mk hr_
         clear hr_ hb_ hg_ hat_
         refine one_ (i := 11) (N := some 55) #[true, true, true, true, true, true, true, true, true, true, true, true, false] rfl rfl (by kernel_rfl) (by decide) (fun K hK => ?_)
         refine Kd.R_append_rows_step Kd.string (Rr := Kd.string.K wa54) (w0 := w) w.heap.size (by rfl) (.tmp 51) (.tmp 54) 31 9 (.string ⟨#[]⟩) 16 rfl Tryz.underlying31 info9 rfl (by decide) (by omega) (va55) (out.take j ++ [n]) (out.drop j) (some ⟨g, jo, none⟩) (out.length - j) _ (fun q => W5 ≤ q) (fun _ => False) rfl rfl HR59.out (C_dropAt HA58.out j jo HJ.out HJO.out) (fun x cs hK => by rw [Flat.string.K hK]; exact Flat.string.mkM _ _ _ _) (fun _ hk => hk.elim) (fun q hq => Nat.le_trans HS57.out hq) HB56.out (below_size HB56.out) ?alva61 ?_
         case alva61 => have h1 := HLEN.out; have h2 := HLE.out; simp only [List.length_take, List.length_drop, List.length_append, List.length_nil, List.length_cons]; omega
         intro va61 wa60 hr_ hb_ hg_ hat_
         refine hK.out _ _ trivial (fun hHeld => ?_)
         clear hK K
         refine norm_ (a' := ?_) ?_ ?_
         rotate_left
         ·show Act.put _ (some 55) _ = _
          simp only [Act.put, List.setIfInBounds_toArray, List.set_cons_zero, List.set_cons_succ, i64_w, i32_w]
          rfl
         have HB62 := Aside0.mk hb_
         have HS63 := Aside0.mk (Nat.le_trans HS57.out hg_.size)
         have HA64 := Aside0.mk (HA58.out.grown hg_ (fun e_ => by have := HR59.out.1 _ e_.symm; have := HG5.out; omega))
         have HR65 := Aside0.mk hr_
         clear hr_ hb_ hg_ hat_
         refine pure_ (i := 12) (N := some 3) (v := ?_) (a' := ?_) #[true, true, true, true, true, true, true, true, true, true, true, true, true] rfl rfl (by kernel_rfl) (fun _ _ _ h => h) (Or.inl ⟨by rfl, ?_⟩) ?_ ?_
         rotate_left
         ·intro w'
          go_simp
          with_reducible rfl
         rotate_left
         ·simp only [Act.put, List.setIfInBounds_toArray, List.set_cons_zero, List.set_cons_succ, i64_w, i32_w]
          rfl
         refine done_ (by kernel_rfl) ?_
         have HR9 := HR65.out
         rw [List.append_assoc] at HR9
         have HLE9 := HLE.out
         rcases RowAt.ofR Flat.string HR9 with ⟨_, hnil⟩ | ⟨g9, cap9, rfl, hg9, hq9, hA9⟩
         ·simp at hnil
         have hlen9 : (out.take j ++ ([n] ++ out.drop j)).length ≤ i + 1 := by have := HJ.out; simp; omega
         have HA9 := Lib.hid hA9
         clear HR9 hA9
         generalize out.take j ++ ([n] ++ out.drop j) = out2 at *
         go_wp2
         go_roundw
         case rel => exact ⟨i + 1, by omega, by go_num, out2, g9, cap9, rfl, ⟨HQ.out⟩, ⟨hlen9⟩, ⟨HA9.out⟩, ⟨hg9⟩, HB62⟩
         case measure => simp [intOf]; omega
  ·have hge : l0.length ≤ i := by omega
   obtain rfl : i = l0.length := by omega
   have HR : Aside0 (r = out) := ⟨by
    have h1 := HE.out
    rw [List.drop_length] at h1
    exact (Option.some.inj h1).symm⟩
   clear HE hr0 hlt
   go_wp2
   go_ret
   exact ⟨_, rfl, by rw [HR.out]; exact Kd.R_V (HA.out.toR Flat.string HGE.out HGE.out (by decide)), HB.out⟩
theorem pursuivantref10_Unsafe.calls (k : Nat) (A0 : Option Addr) (c0 : Nat) (l0 : List S45) (r : List ByteArray) (w : World) (hG : GW w) (hr0 : Kd.C k45 w A0 l0.length l0) (hc0 : l0.length ≤ c0) (h : pursuivantref10_Unsafe.f k l0 = some r) :
  Calls Tryz.prog 18 #[.slice A0 l0.length c0] w fun e w' => ∃ v0_ : Value, e = .returned v0_ ∧ Kd.V Kd.string 9 w' w.heap.size (fun k_ => w.heap.size ≤ k_) v0_ r ∧ Below w.heap.size w w' := by
 unfold pursuivantref10_Unsafe.f at h
 by_cases c : l0.length ≤ 1099511627776
 ·rw [if_pos c] at h
  exact unsafeR_walk k A0 c0 l0 r w hG hr0 hc0 c h
 ·rw [if_neg c] at h; cases h
end Go.Proofs.YtfibkgmbgdaeoaaGreatDoor.Hand
