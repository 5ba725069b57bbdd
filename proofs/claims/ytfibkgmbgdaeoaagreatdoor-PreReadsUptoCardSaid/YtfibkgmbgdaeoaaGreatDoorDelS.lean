/- slices.IndexFunc, ContainsFunc, DeleteFunc at strings, whatever the function handed over: it says p of each, in every world that PW lets by. No condition. -/
import Derived.Test.YtfibkgmbgdaeoaaGreatDoorDel0
import Derived.Test.YtfibkgmbgdaeoaaGreatDoorK
import Derived.Lib.Hide
import Derived.Lib.SliceRun
import Derived.WalkKit
import Derived.Deep.LoopGhost
import Derived.KernelRfl
namespace Go.Proofs.YtfibkgmbgdaeoaaGreatDoor.Hand
open Go.RowKit Go.Proofs.YtfibkgmbgdaeoaaGreatDoorW.PrintWords Go.Proofs.YtfibkgmbgdaeoaaGreatDoorW.PrintLast Go.Proofs.YtfibkgmbgdaeoaaGreatDoorW.PrintMore
set_option linter.unusedVariables false
set_option linter.unusedSimpArgs false

def encS (x : ByteArray) : List Value := [.string x]
theorem flatS : Flat Kd.string encS := Flat.string
structure SaysS (PW : World → Prop) (fn : Nat) (lb : Array Value) (p : ByteArray → Bool) (ok : ByteArray → Prop) : Prop where
 enters : ∀ args w, (callFunc fn args).run Tryz.prog w = .ok (.enter fn args) w
 says : ∀ (W : World) (x : ByteArray), PW W → ok x → Calls Tryz.prog fn (#[.string x] ++ lb) W fun e w' => e = .returned (.bool (p x)) ∧ Below W.heap.size W w'
 later : ∀ (W W' : World), PW W → Below W.heap.size W W' → PW W'

set_option maxHeartbeats 1000000 in
theorem indexFuncS {PW : World → Prop} {fn : Nat} {lb : Array Value} {p : ByteArray → Bool} {ok : ByteArray → Prop} (hs : SaysS PW fn lb p ok) (A0 : Option Addr) (c0 : Nat) (l0 : List ByteArray) (w : World) (hr0 : Kd.C Kd.string w A0 l0.length l0) (hok : ∀ x ∈ l0, ok x) (hw : PW w) :
  Calls Tryz.prog 60 #[.slice A0 l0.length c0, .func (.func fn) #[] lb] w fun e w' => e = .returned (.int .i64 (firstOf p l0)) ∧ Below w.heap.size w w' := by
 have hlen := hr0.2.1
 go_enter Tryz.func60, Tryz.ntmps60
 go_wp2_with fail
 go_loopw [8] (fun n wr => ∃ k : Nat, k ≤ l0.length ∧ n = .int .i64 k ∧ Aside0 (Below w.heap.size w wr) ∧ Aside0 (∀ (j : Nat) y, j < k → l0[j]? = some y → p y = false)) (fun n _ => l0.length - (intOf n).toNat)
 case atStart => exact ⟨0, Nat.zero_le _, rfl, ⟨Below.refl _ _⟩, ⟨fun j y h => absurd h (Nat.not_lt_zero _)⟩⟩
 case round =>
  obtain ⟨k, hk, rfl, HB, HP⟩ := hrel
  by_cases hlt : k < l0.length
  ·obtain ⟨ad, cc, e1, _, hK0, hc0⟩ := Kd.C_get hr0 ByteArray.empty k (by omega) (by omega)
   cases e1
   have hK1 : cc = [.string (l0.getD (k : Int).toNat ByteArray.empty)] := hK0
   subst hK1
   have hx0 := hc0 0 _ rfl
   rw [show (k : Int).toNat * Kd.string.sz + 0 = k from by show (k : Int).toNat * 1 + 0 = k; omega] at hx0
   replace hx0 := (HB.out.cell (World.block_lt_of_cell? w _ hx0)).trans hx0
   rw [Int.toNat_natCast] at hx0
   have HX := Aside0.mk (show l0[k]? = some (l0.getD k ByteArray.empty) by simp [List.getD_eq_getElem?_getD, hlt])
   have hc := hs.says wr (l0.getD k ByteArray.empty) (hs.later w wr hw HB.out) (hok _ (List.mem_of_getElem? HX.out))
   have he := hs.enters
   clear hr0
   generalize l0.getD k ByteArray.empty = x at *
   cases hq0 : p x with
   | true =>
    have HQ := Aside0.mk hq0
    rw [hq0] at hc
    clear hq0
    have HC := Lib.hid hc
    clear hc hs
    go_wp2_with fail
    refine HC.out.mono ?_
    rintro e w' ⟨rfl, hb'⟩
    clear HC he
    go_wp2
    go_ret
    exact ⟨by rw [firstOf_hit p l0 k x HX.out HQ.out HP.out]; rfl, below_then HB.out (below_size HB.out) hb'⟩
   | false =>
    have HQ := Aside0.mk hq0
    rw [hq0] at hc
    clear hq0
    have HC := Lib.hid hc
    clear hc hs
    go_wp2_with fail
    refine HC.out.mono ?_
    rintro e w' ⟨rfl, hb'⟩
    clear HC he
    go_wp2
    go_roundw
    case rel =>
     refine ⟨k + 1, by omega, by go_num, ⟨below_then HB.out (below_size HB.out) hb'⟩, ⟨fun j y hj hy => ?_⟩⟩
     by_cases e : j = k
     ·subst e
      rw [HX.out] at hy
      injection hy with hy
      subst hy
      exact HQ.out
     ·exact HP.out j y (by omega) hy
    case measure => simp [intOf]; omega
  ·obtain rfl : k = l0.length := by omega
   have HM := Aside0.mk (firstOf_miss p l0 (fun j y hy => HP.out j y (List.getElem?_eq_some_iff.1 hy).1 hy))
   clear hr0
   go_wp2
   go_ret
   exact ⟨by rw [HM.out]; rfl, HB.out⟩
theorem containsFuncS {PW : World → Prop} {fn : Nat} {lb : Array Value} {p : ByteArray → Bool} {ok : ByteArray → Prop} (hs : SaysS PW fn lb p ok) (A0 : Option Addr) (c0 : Nat) (l0 : List ByteArray) (w : World) (hr0 : Kd.C Kd.string w A0 l0.length l0) (hok : ∀ x ∈ l0, ok x) (hw : PW w) :
  Calls Tryz.prog 37 #[.slice A0 l0.length c0, .func (.func fn) #[] lb] w fun e w' => e = .returned (.bool (l0.any p)) ∧ Below w.heap.size w w' := by
 rw [← firstOf_nonneg]
 have hi := indexFuncS hs A0 c0 l0 w hr0 hok hw
 clear hs hr0 hok hw
 generalize firstOf p l0 = n at *
 go_enter Tryz.func37, Tryz.ntmps37
 go_wp2_with fail
 refine hi.mono ?_
 rintro e w' ⟨rfl, hb⟩
 go_wp2
 go_ret
 exact ⟨rfl, hb⟩
set_option maxHeartbeats 2000000 in
theorem deleteFuncS {PW : World → Prop} {fn : Nat} {lb : Array Value} {p : ByteArray → Bool} {ok : ByteArray → Prop} (hs : SaysS PW fn lb p ok) (g cap base : Nat) (w0 : World) (xs : List ByteArray) (w : World)
  (hst : ∀ (W : World) (i : Nat) (v : Value), PW W → PW (W.setCell ⟨g, i, none⟩ v)) (hR : RowAt encS 1 9 g cap w xs) (hok : ∀ x ∈ xs, ok x) (hw : PW w) (hB : Below base w0 w) (hg : base ≤ g) (hbs : base ≤ w0.heap.size) :
  Calls Tryz.prog 70 #[.slice (some ⟨g, 0, none⟩) xs.length cap, .func (.func fn) #[] lb] w fun e w' => e = .returned (.slice (some ⟨g, 0, none⟩) (xs.filter fun x => !p x).length cap) ∧ RowAt encS 1 9 g cap w' (xs.filter fun x => !p x) ∧ PW w' ∧ Below base w0 w' := by
 have hlen : xs.length ≤ 9223372036854775807 := by have h1 := hR.le; have h2 := hR.max; unfold maxLen at h2; omega
 have hi := Lib.hid (indexFuncS hs (some ⟨g, 0, none⟩) cap xs w (hR.reads flatS) hok hw)
 by_cases hany : xs.any p = true
 ·obtain ⟨k0, x0, hk0, hp0, hb0⟩ : ∃ (k : Nat) (x : ByteArray), xs[k]? = some x ∧ p x = true ∧ ∀ (j : Nat) y, j < k → xs[j]? = some y → p y = false := by
   have hf := List.findIdx_lt_length_of_exists (p := p) (xs := xs) (by obtain ⟨x, hm, hp⟩ := List.any_eq_true.1 hany; exact ⟨x, hm, hp⟩)
   refine ⟨xs.findIdx p, xs[xs.findIdx p], List.getElem?_eq_getElem hf, List.findIdx_getElem (w := hf), fun j y hj hy => ?_⟩
   have := List.not_of_lt_findIdx hj
   rw [List.getElem?_eq_getElem (by omega)] at hy
   injection hy with hy
   rw [hy] at this
   exact this
  have hs1 := Lib.hid (keptRow_start p xs k0 x0 hk0 hp0 hb0)
  have hkl : k0 < xs.length := (List.getElem?_eq_some_iff.1 hk0).1
  have hfo := Lib.hid (firstOf_hit p xs k0 x0 hk0 hp0 hb0)
  have hne : ((k0 : Int) == -1) = false := beq_eq_false_iff_ne.2 (by omega)
  have HR := Lib.hid hR
  have HS := Lib.hid hs
  have HW := Lib.hid hw
  have HT := Lib.hid hst
  clear hany hk0 hp0 hb0 hR hs hw hst
  go_enter Tryz.func70, Tryz.ntmps70
  go_wp2_with fail
  refine hi.out.mono ?_
  rintro e w1 ⟨rfl, hb1⟩
  rw [hfo.out]
  have HB1 := Aside0.mk (below_then hB (Nat.le_trans hbs hB.size) hb1)
  have HR1 := Lib.hid (HR.out.below hb1)
  have HW1 := Lib.hid (HS.out.later w w1 HW.out hb1)
  clear hb1 hi hfo
  go_wp2_with fail
  go_loopw [5, 6] (fun s5 s6 wr => ∃ i j : Nat, s5 = .int .i64 i ∧ s6 = .int .i64 j ∧ j ≤ xs.length ∧ i < j ∧ Aside0 (i = ((xs.take j).filter fun x => !p x).length) ∧ Aside0 (RowAt encS 1 9 g cap wr (keptRow p xs j)) ∧ Aside0 (PW wr) ∧ Aside0 (Below base w0 wr)) (fun _ s6 _ => xs.length - (intOf s6).toNat)
  case atStart => exact ⟨k0, k0 + 1, rfl, by go_num, by omega, by omega, ⟨by rw [hs1.out.2, List.length_take]; omega⟩, ⟨by rw [hs1.out.1]; exact HR1.out⟩, ⟨HW1.out⟩, HB1⟩
  case round =>
   obtain ⟨i, j, rfl, rfl, hj, hij, HI, HK, HP, HB⟩ := hrel
   clear HR1 HW1 HB1 HR HW hs1
   by_cases hlt : j < xs.length
   ·have HX := Aside0.mk (List.getElem?_eq_getElem hlt)
    generalize xs[j] = x at HX
    have hx0 := HK.out.cell j x (by rw [keptRow_at]; exact HX.out) 0 _ rfl
    rw [Nat.mul_one, Nat.add_zero] at hx0
    have hil : i < (keptRow p xs j).length := by rw [keptRow_length]; omega
    have HC := Lib.hid (HS.out.says wr x HP.out (hok x (List.mem_of_getElem? HX.out)))
    have he := HS.out.enters
    cases hq0 : p x with
    | false =>
     have HQ := Aside0.mk hq0
     rw [hq0] at HC
     clear hq0
     go_wp2_with fail
     refine HC.out.mono ?_
     rintro e w2 ⟨rfl, hb2⟩
     have HK2 := Aside0.mk (HK.out.below hb2)
     have HP2 := Aside0.mk (HS.out.later _ _ HP.out hb2)
     have HB2 := Aside0.mk (below_then HB.out (Nat.le_trans hbs HB.out.size) hb2)
     have hs0 := HK2.out.there i (by have := HK2.out.le; omega)
     have hf0 := HK2.out.free i
     obtain ⟨o0, ho0⟩ := Option.isSome_iff_exists.1 hs0
     clear HC he hb2 hx0 hs0 HK HP HB
     go_wp2
     go_roundw
     case rel =>
      refine ⟨i + 1, j + 1, by go_num, by go_num, by omega, by omega, ⟨?_⟩, ⟨?_⟩, ⟨?_⟩, ⟨?_⟩⟩
      ·rw [HI.out, show xs.take (j + 1) = xs.take j ++ [x] from by rw [List.take_add_one, HX.out]; rfl, List.filter_append, show [x].filter (fun x => !p x) = [x] from by simp [HQ.out], List.length_append, List.length_singleton]
      ·rw [keptRow_keep p xs j x HX.out HQ.out, ← HI.out]
       have hput := HK2.out.put (enc := encS) (sz := 1) (fun _ => rfl) i hil x
       rw [Nat.mul_one] at hput
       exact hput
      ·exact HT.out _ _ _ HP2.out
      ·exact HB2.out.setCell (p := ⟨g, i, none⟩) hg _
     case measure => simp [intOf]; omega
    | true =>
     have HQ := Aside0.mk hq0
     rw [hq0] at HC
     clear hq0
     go_wp2_with fail
     refine HC.out.mono ?_
     rintro e w2 ⟨rfl, hb2⟩
     have HK2 := Aside0.mk (HK.out.below hb2)
     have HP2 := Aside0.mk (HS.out.later _ _ HP.out hb2)
     have HB2 := Aside0.mk (below_then HB.out (Nat.le_trans hbs HB.out.size) hb2)
     clear HC he hb2 hx0 HK HP HB
     go_wp2
     go_roundw
     case rel =>
      obtain ⟨q1, q2⟩ := keptRow_skip p xs j x HX.out HQ.out
      exact ⟨i, j + 1, rfl, by go_num, by omega, by omega, ⟨by rw [q2]; exact HI.out⟩, ⟨by rw [q1]; exact HK2.out⟩, HP2, HB2⟩
     case measure => simp [intOf]; omega
   ·obtain rfl : j = xs.length := by omega
    have hle := HK.out.le
    rw [keptRow_length] at hle
    have hcl : ∀ ty, (Builtin.clear_ #[31] ty #[.slice (some ⟨g, i, none⟩) (xs.length - i) (cap - i)]).run Tryz.prog wr = .ok (.tuple #[]) (wr.setCells g i (Builtin.zeroCells #[.string ⟨#[]⟩] (xs.length - i)).toList) :=
     fun ty => run_clear_row wr _ _ ty _ Tryz.underlying31 Tryz.zeroValue9 (by decide) g i _ _ (by omega) (fun k hk => HK.out.there _ (by have : k < (xs.length - i) * 1 := hk; omega)) (fun k _ => HK.out.free _)
    have HF := Lib.hid (show keptRow p xs xs.length = (xs.filter fun x => !p x) ++ xs.drop i by unfold keptRow; rw [List.take_length, HI.out, List.take_length])
    have HI2 := Lib.hid (show (xs.filter fun x => !p x).length = i by rw [HI.out, List.take_length])
    have hne2 : i < cap := by omega
    clear HS hne hkl
    generalize hzs : (Builtin.zeroCells #[.string ⟨#[]⟩] (xs.length - i)).toList = zs at *
    clear hzs
    go_wp2_with fail
    go_ret
    refine ⟨by rw [HI2.out]; rfl, ?_, setCells_keeps HT.out _ _ _ HP.out, setCells_below hg _ _ _ HB.out⟩
    have h1 := HK.out.cutWrite i (by rw [keptRow_length]; omega) zs (fun _ => rfl)
    rw [Nat.mul_one] at h1
    rw [HF.out, List.take_left' HI2.out] at h1
    exact h1
 ·have hf : (xs.filter fun x => !p x) = xs := List.filter_eq_self.2 fun y hy => by
   cases hq : p y with
   | false => rfl
   | true => exact absurd (List.any_eq_true.2 ⟨y, hy, hq⟩) hany
  have hm := Lib.hid (show firstOf p xs = -1 by unfold firstOf; rw [if_neg hany])
  rw [hf]
  have HR := Lib.hid hR
  have HS := Lib.hid hs
  clear hany hf hR hs hst hok
  go_enter Tryz.func70, Tryz.ntmps70
  go_wp2_with fail
  refine hi.out.mono ?_
  rintro e w1 ⟨rfl, hb1⟩
  rw [hm.out]
  have HB1 := Aside0.mk (below_then hB (Nat.le_trans hbs hB.size) hb1)
  have HR1 := Lib.hid (HR.out.below hb1)
  have HW1 := Lib.hid (HS.out.later w w1 hw hb1)
  clear hb1 hi hm HS hw HR
  go_wp2
  go_ret
  exact ⟨rfl, HR1.out, HW1.out, HB1.out⟩
end Go.Proofs.YtfibkgmbgdaeoaaGreatDoor.Hand
