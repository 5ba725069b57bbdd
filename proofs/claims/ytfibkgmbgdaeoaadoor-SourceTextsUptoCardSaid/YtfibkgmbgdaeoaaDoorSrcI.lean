/- Package source over lists of bytes: texts, the source of a word, and the reference's. Conditions: at most 2^26 bytes. -/
import Derived.Test.YtfibkgmbgdaeoaaDoorSrcH
namespace Go.Proofs.YtfibkgmbgdaeoaaDoor.Hand
open Go.RowKit Go.Proofs.YtfibkgmbgdaeoaaDoorW.PrintWords Go.Proofs.YtfibkgmbgdaeoaaDoorW.PrintLast Go.Proofs.YtfibkgmbgdaeoaaDoorW.PrintMore
set_option linter.unusedVariables false
set_option linter.unusedSimpArgs false

theorem progTextS (x : Src8) (hs : x.Small) : Ev (fun k => source_Text.f k x.ki (ba x.sc) x.sub (ba x.ho) x.po (ba x.pa) (ba x.no)) (ba x.text) := by
 have hg := progGoodS x hs
 obtain ⟨ki, sc, sub, ho, po, pa, no⟩ := x
 obtain ⟨h1, h2, h3, h4, h5⟩ := hs
 simp only at h1 h2 h3 h4 h5 hg ⊢
 have hI : strconv_Itoa.f po = some (ba (Lib.itoa po)) := by unfold strconv_Itoa.f; rw [if_pos h5]; rfl
 have hil := itoa_len po h5.1 h5.2
 have l1 : (⟨#[42, 46]⟩ : ByteArray) = ba [42, 46] := rfl
 have l2 : (⟨#[58, 42]⟩ : ByteArray) = ba [58, 42] := rfl
 have l3 : (⟨#[58]⟩ : ByteArray) = ba [58] := rfl
 have l4 : (⟨#[58, 47, 47]⟩ : ByteArray) = ba [58, 47, 47] := rfl
 have l5 : (⟨#[39, 110, 111, 110, 99, 101, 45]⟩ : ByteArray) = ba nonceP := rfl
 have l6 : (⟨#[39]⟩ : ByteArray) = ba [39] := rfl
 have j1 : ∀ y : List UInt8, y.length ≤ 1099511627 → Ev (fun k => source_Text.j1 k (ba y) ki (ba sc) sub (ba ho) po (ba pa) (ba no)) (ba (y ++ ho ++ portS po ++ pa)) := by
  intro y hy
  refine Ev.step (fun k => by rw [source_Text.j1]) ?_
  simp only [l2, l3, ba_app, ba_size']
  refine Ev.if_pos (by omega) ?_
  unfold portS
  refine Ev.ite (fun c => ?_) (fun c => ?_)
  ·rw [if_pos c]
   exact Ev.if_pos (by (first | omega | (simp only [ba_size', List.length_append, List.length_cons, List.length_nil]; omega) | (simp; omega) | (simp; done))) (Ev.if_pos (by (first | omega | (simp only [ba_size', List.length_append, List.length_cons, List.length_nil]; omega) | (simp; omega) | (simp; done))) (Ev.now _))
  ·rw [if_neg c]
   refine Ev.ite (fun d => ?_) (fun d => ?_)
   ·rw [if_pos d]
    refine Ev.some_bind (fun _ => hI) ?_
    simp only [ba_app, ba_size']
    refine Ev.if_pos (by omega) (Ev.if_pos (by (first | omega | (simp only [ba_size', List.length_append, List.length_cons, List.length_nil]; omega) | (simp; omega) | (simp; done))) (Ev.if_pos (by (first | omega | (simp only [ba_size', List.length_append, List.length_cons, List.length_nil]; omega) | (simp; omega) | (simp; done))) ?_))
    exact Ev.now _
   ·rw [if_neg d, List.append_nil]
    exact Ev.if_pos (by (first | omega | (simp only [ba_size', List.length_append, List.length_cons, List.length_nil]; omega) | (simp; omega) | (simp; done))) (Ev.now _)
 have j0 : ∀ y : List UInt8, y.length ≤ 1099511000 → Ev (fun k => source_Text.j0 k (ba y) ki (ba sc) sub (ba ho) po (ba pa) (ba no)) (ba (y ++ (if sub = true then [42, 46] else []) ++ ho ++ portS po ++ pa)) := by
  intro y hy
  refine Ev.step (fun k => by rw [source_Text.j0]) ?_
  simp only [l1, ba_app, ba_size']
  refine Ev.ite (fun c => ?_) (fun c => ?_)
  ·rw [if_pos c]
   exact Ev.if_pos (by omega) (j1 (y ++ [42, 46]) (by (first | omega | (simp only [ba_size', List.length_append, List.length_cons, List.length_nil]; omega) | (simp; omega) | (simp; done))))
  ·rw [if_neg c, List.append_nil]
   exact j1 y (by omega)
 unfold source_Text.f Src8.text
 refine Ev.bind hg (Ev.ite (fun c => ?_) (fun c => ?_))
 ·rw [if_pos c]
  simp only [ba_list]
  refine Ev.ite (fun c1 => ?_) (fun c1 => ?_)
  ·rw [if_pos c1]; exact Ev.now _
  rw [if_neg c1]
  refine Ev.ite (fun c2 => ?_) (fun c2 => ?_)
  ·rw [if_pos c2]; exact Ev.now _
  rw [if_neg c2]
  refine Ev.ite (fun c3 => ?_) (fun c3 => ?_)
  ·rw [if_pos c3, l3, ba_app, ba_size']
   exact Ev.if_pos (by omega) (Ev.now _)
  rw [if_neg c3]
  refine Ev.ite (fun c5 => ?_) (fun c5 => ?_)
  ·rw [if_pos c5, l5, l6]
   simp only [ba_app, ba_size']
   exact Ev.if_pos (by omega) (Ev.if_pos (by (first | omega | (simp only [ba_size', List.length_append, List.length_cons, List.length_nil]; omega) | (simp; omega) | (simp; done))) (Ev.now _))
  rw [if_neg c5]
  unfold Src8.long
  simp only
  refine Ev.ite (fun d => ?_) (fun d => ?_)
  ·rw [if_pos d]; exact j0 [] (by simp)
  ·rw [if_neg d, l4, ba_app, ba_size']
   exact Ev.if_pos (by omega) (j0 (sc ++ [58, 47, 47]) (by (first | omega | (simp only [ba_size', List.length_append, List.length_cons, List.length_nil]; omega) | (simp; omega) | (simp; done))))
 ·rw [if_neg c]; exact Ev.now _

def Src8.tup (x : Src8 × Bool) : Src9 := (x.1.ki, ba x.1.sc, x.1.sub, ba x.1.ho, x.1.po, ba x.1.pa, ba x.1.no, x.2)
theorem progCutPre (l : List UInt8) : strings_CutPrefix.f (ba l) (⟨#[42, 46]⟩ : ByteArray) = some (ba (sub11 l).1, (sub11 l).2) := by
 rw [show (⟨#[42, 46]⟩ : ByteArray) = ba [42, 46] from rfl]
 unfold strings_CutPrefix.f stringslite_CutPrefix.f stringslite_HasPrefix.f sub11
 simp only [ba_size', ba_list, List.length_cons, List.length_nil]
 match l with
 | [] => rfl
 | [a] =>
  simp only [List.length_cons, List.length_nil]
  rw [if_neg (show ¬(((0 + 1 : Nat) : Int) ≥ ((0 + 1 + 1 : Nat) : Int)) by omega), if_neg (show ¬([42, 46] : List UInt8).isPrefixOf [a] = true by simp [List.isPrefixOf])]
  rfl
 | a :: b :: r =>
  simp only [List.length_cons]
  rw [if_pos (by omega), if_pos (by omega), if_pos (by omega)]
  simp only [Option.bind_some]
  have e : (ba (a :: b :: r)).extract 0 2 = ba [a, b] := by rw [ba_extract]; rfl
  have e2 : (ba (a :: b :: r)).extract 2 (r.length + 1 + 1) = ba r := by rw [ba_extract]; simp
  rw [show ((((0 + 1 + 1 : Nat) : Int)).toNat) = 2 from rfl, e, ba_list, e2]
  by_cases c : a = 42 ∧ b = 46
  ·obtain ⟨rfl, rfl⟩ := c
   rw [if_pos (show (([42, 46] : List UInt8) == [42, 46]) = true from rfl), if_pos (by omega), if_pos (by omega), if_pos (by simp [List.isPrefixOf])]
   rfl
  ·have n1 : ([a, b] == ([42, 46] : List UInt8)) = false := by
    rw [beq_eq_false_iff_ne]
    intro h
    simp only [List.cons.injEq, and_true] at h
    exact c h
   rw [n1, if_neg (by simp), if_neg (by
    intro h
    simp only [List.isPrefixOf, Bool.and_true, Bool.and_eq_true, beq_iff_eq] at h
    exact c ⟨h.1.symm, h.2.symm⟩)]
   rfl
theorem progCutSuf (l : List UInt8) (h : l.length ≤ 1099511627776) : strings_CutSuffix.f (ba l) (⟨#[39]⟩ : ByteArray) = some (if l.getLast? = some 39 then (ba l.dropLast, true) else (ba l, false)) := by
 rw [show (⟨#[39]⟩ : ByteArray) = ba [39] from rfl]
 unfold strings_CutSuffix.f stringslite_CutSuffix.f stringslite_HasSuffix.f
 simp only [ba_size', ba_list, List.length_cons, List.length_nil]
 by_cases c : l = []
 ·subst c; rfl
 ·have hpos := List.length_pos_iff.2 c
  have hw : wrap64 ((l.length : Int) - ((0 + 1 : Nat) : Int)) = ((l.length - 1 : Nat) : Int) := by rw [wrap_ok] <;> omega
  rw [hw, if_pos (by omega), if_pos (by omega), if_pos (by omega)]
  simp only [Option.bind_some, Int.toNat_natCast]
  have e : (ba l).extract (l.length - 1) l.length = ba [l.getLast c] := by
   rw [ba_extract]
   congr 1
   conv => lhs; rw [← List.dropLast_concat_getLast c]
   rw [List.drop_left' (by rw [List.length_dropLast]; simp), List.take_of_length_le (by simp only [List.length_append, List.length_singleton]; omega)]
  have e2 : (ba l).extract 0 (l.length - 1) = ba l.dropLast := by rw [ba_extract, List.drop_zero, List.dropLast_eq_take]; rfl
  rw [e, ba_list, e2, List.getLast?_eq_some_getLast c]
  by_cases d : l.getLast c = 39
  ·rw [d, if_pos (show (([39] : List UInt8) == [39]) = true from rfl), if_pos (by omega), if_pos (by omega), if_pos rfl]
   rfl
  ·rw [if_neg (by simpa using d), if_neg (by simpa using d)]
   rfl
theorem finS (x : Src8) (hs : x.Small) : Ev (fun k => (source_Good.f k x.ki (ba x.sc) x.sub (ba x.ho) x.po (ba x.pa) (ba x.no)).bind fun t => if t = true then some (x.ki, ba x.sc, x.sub, ba x.ho, x.po, ba x.pa, ba x.no, true) else some (0, (⟨#[]⟩ : ByteArray), false, (⟨#[]⟩ : ByteArray), 0, (⟨#[]⟩ : ByteArray), (⟨#[]⟩ : ByteArray), false)) (Src8.tup (if x.good = true then (x, true) else (Src8.no_, false))) := by
 refine Ev.bind (progGoodS x hs) (Ev.ite (fun c => ?_) (fun c => ?_))
 ·rw [if_pos c]; exact Ev.now _
 ·rw [if_neg c]; exact Ev.now _
theorem port8_bd (l : List UInt8) : 0 ≤ (port8 l).1 ∧ (port8 l).1 ≤ 65535 := by
 unfold port8
 split
 ·simp only; omega
 ·simp
theorem sub11_len (l : List UInt8) : (sub11 l).1.length ≤ l.length := by
 unfold sub11
 split
 ·simp
 ·exact Nat.le_refl _
theorem scut_len (s : List UInt8) : (scut s).1.length ≤ s.length ∧ (scut s).2.length ≤ s.length := by
 have := cut_lens s [58, 47, 47]
 unfold scut
 split
 ·simp only [List.length_map]; exact this
 ·simp
theorem hosted_j2 (sc t pa : List UInt8) (h1 : sc.length ≤ 109951162) (h2 : t.length ≤ 109951162) (h3 : pa.length ≤ 109951162) :
  Ev (fun k => source_hosted.j2 k (ba t) 4 (ba sc) false (⟨#[]⟩ : ByteArray) 0 (ba pa) (⟨#[]⟩ : ByteArray)) (Src8.tup (match port11 (Lib.cut t [58]).2.2 (Lib.cut t [58]).2.1 with
   | none => (Src8.no_, false)
   | some p => if (Src8.mk 4 sc (sub11 ((Lib.cut t [58]).1.map low8)).2 (sub11 ((Lib.cut t [58]).1.map low8)).1 p pa []).good = true then (Src8.mk 4 sc (sub11 ((Lib.cut t [58]).1.map low8)).2 (sub11 ((Lib.cut t [58]).1.map low8)).1 p pa [], true) else (Src8.no_, false))) := by
 have hc := cut_lens t [58]
 refine Ev.step (fun k => by rw [source_hosted.j2]) ?_
 refine Ev.some_bind (fun _ => progCut t [58] (by omega)) ?_
 simp only
 generalize Lib.cut t [58] = x at *
 obtain ⟨a, b, has⟩ := x
 simp only at hc ⊢
 refine Ev.some_bind (fun _ => progLower a (by omega)) (Ev.some_bind (fun _ => progCutPre _) ?_)
 simp only
 have hl := sub11_len (a.map low8)
 rw [List.length_map] at hl
 generalize sub11 (a.map low8) = y at *
 obtain ⟨ho, sub⟩ := y
 simp only at hl ⊢
 have sm : ∀ p : Int, -1 ≤ p ∧ p ≤ 65535 → (Src8.mk 4 sc sub ho p pa []).Small := fun p hp => ⟨h1, by simp only; omega, h3, by simp, by simp only; omega⟩
 cases has with
 | false =>
  refine Ev.if_neg (by simp) ?_
  have := finS _ (sm 0 (by omega))
  exact this
 | true =>
  have hb := port8_bd b
  refine Ev.if_pos rfl (Ev.some_bind (fun _ => progPort b (by omega)) ?_)
  simp only [ba_list, port11]
  refine Ev.ite (fun c => ?_) (fun c => ?_)
  ·rw [if_pos trivial, if_pos c]
   refine Ev.step (fun k => by rw [source_hosted.j3]) ?_
   refine Ev.if_pos rfl ?_
   exact finS _ (sm (-1) (by omega))
  ·rw [if_pos trivial, if_neg c]
   refine Ev.step (fun k => by rw [source_hosted.j3]) ?_
   refine Ev.ite (fun d => ?_) (fun d => ?_)
   ·rw [if_pos d]
    exact finS _ (sm (port8 b).1 (by omega))
   ·rw [if_neg d]; exact Ev.now _
theorem progHosted (s : List UInt8) (h : s.length ≤ 109951162) : Ev (fun k => source_hosted.f k (ba s)) (Src8.tup (hosted8 s)) := by
 have hl := scut_len s
 have hc := cut_lens s [58, 47, 47]
 have j1 : ∀ (r sc : List UInt8), r.length ≤ 109951162 → sc.length ≤ 109951162 → Ev (fun k => source_hosted.j1 k (ba r) 4 (ba sc) false (⟨#[]⟩ : ByteArray) 0 (⟨#[]⟩ : ByteArray) (⟨#[]⟩ : ByteArray)) (Src8.tup (match port11 (Lib.cut (til [47] r) [58]).2.2 (Lib.cut (til [47] r) [58]).2.1 with
   | none => (Src8.no_, false)
   | some p => if (Src8.mk 4 sc (sub11 ((Lib.cut (til [47] r) [58]).1.map low8)).2 (sub11 ((Lib.cut (til [47] r) [58]).1.map low8)).1 p (aft [47] r) []).good = true then (Src8.mk 4 sc (sub11 ((Lib.cut (til [47] r) [58]).1.map low8)).2 (sub11 ((Lib.cut (til [47] r) [58]).1.map low8)).1 p (aft [47] r) [], true) else (Src8.no_, false))) := by
  intro r sc hr hsc
  refine Ev.step (fun k => by rw [source_hosted.j1]) ?_
  have ix := ixB' (ba r) 47
  rw [ba_data, show ((47 : UInt8).toNat : Int) = 47 from rfl] at ix
  refine Ev.some_bind (fun _ => ix) ?_
  rcases split_first 47 r with hm | ⟨a, b, rfl, ha⟩
  ·have t := til_app [47] r [] (not_st (by intro d hd; rw [List.mem_singleton.1 hd]; exact hm)) (.inl rfl)
   rw [List.append_nil] at t
   rw [indexByte_never r 47 hm, t.1, t.2]
   exact Ev.if_neg (by decide) (hosted_j2 sc r [] hsc hr (by simp))
  ·have t := til_app [47] a (47 :: b) (not_st (by intro d hd; rw [List.mem_singleton.1 hd]; exact ha)) (.inr ⟨47, b, rfl, rfl⟩)
   simp only [List.length_append, List.length_cons] at hr
   rw [indexByte_first a b 47 ha, t.1, t.2]
   refine Ev.if_pos (by omega) (Ev.if_pos (by omega) (Ev.if_pos (by (first | omega | (simp only [ba_size', List.length_append, List.length_cons, List.length_nil]; omega) | (simp; omega) | (simp; done))) ?_))
   rw [Int.toNat_natCast, show (ba (a ++ 47 :: b)).extract 0 a.length = ba a from by rw [ba_extract]; simp,
    show (ba (a ++ 47 :: b)).extract a.length (ba (a ++ 47 :: b)).size = ba (47 :: b) from by rw [ba_extract, ba_size']; simp]
   exact hosted_j2 sc a (47 :: b) hsc (by omega) (by simp only [List.length_cons]; omega)
 unfold source_hosted.f hosted8
 rw [show (⟨#[58, 47, 47]⟩ : ByteArray) = ba [58, 47, 47] from rfl]
 refine Ev.some_bind (fun _ => progCut s [58, 47, 47] (by omega)) ?_
 simp only
 unfold scut at hl ⊢
 refine Ev.ite (fun c => ?_) (fun c => ?_)
 ·refine Ev.some_bind (fun _ => progLower _ (by omega)) (Ev.some_bind (fun _ => progDef _) ?_)
  refine Ev.step (fun k => by rw [source_hosted.j0]) ?_
  rw [def_pos]
  by_cases d : def8 ((Lib.cut s [58, 47, 47]).1.map low8) = 0
  ·rw [if_neg (show ¬((Lib.cut s [58, 47, 47]).2.2 = true ∧ def8 ((Lib.cut s [58, 47, 47]).1.map low8) ≠ 0) from fun e => e.2 d)]
   refine Ev.if_neg (by simpa using d) ?_
   exact j1 s [] (by omega) (by simp)
  ·rw [if_pos ⟨c, d⟩]
   refine Ev.if_pos (by simpa using d) (Ev.some_bind (fun _ => progLower _ (by omega)) ?_)
   exact j1 _ _ (by omega) (by rw [List.length_map]; omega)
 ·rw [if_neg (show ¬((Lib.cut s [58, 47, 47]).2.2 = true ∧ def8 ((Lib.cut s [58, 47, 47]).1.map low8) ≠ 0) from fun e => c e.1)]
  refine Ev.step (fun k => by rw [source_hosted.j0]) ?_
  refine Ev.if_neg (by simp) ?_
  exact j1 s [] (by omega) (by simp)
theorem trimColon (l : List UInt8) : Lib.trimSuffix (l ++ [58]) [58] = l := by
 unfold Lib.trimSuffix Lib.hasSuffix
 rw [if_pos (List.isSuffixOf_iff_suffix.2 ⟨l, rfl⟩)]
 simp
theorem progParse11 (s : List UInt8) (h : s.length ≤ 109951162) : Ev (fun k => source_Parse.f k (ba s)) (Src8.tup (parse11 s)) := by
 unfold source_Parse.f parse11
 refine Ev.some_bind (fun _ => progLower s (by omega)) ?_
 simp only [ba_list]
 refine Ev.ite (fun c1 => ?_) (fun c1 => ?_)
 ·rw [if_pos (show s.map low8 = self11 from c1)]; exact Ev.now _
 rw [if_neg (show ¬s.map low8 = self11 from c1)]
 refine Ev.ite (fun c2 => ?_) (fun c2 => ?_)
 ·rw [if_pos c2]; exact Ev.now _
 rw [if_neg c2]
 refine Ev.ite (fun c3 => ?_) (fun c3 => ?_)
 ·rw [if_pos c3]
  have ht : ∃ y, s.map low8 = y ++ [58] := by
   rcases c3 with e | e
   ·exact ⟨[104, 116, 116, 112], e⟩
   ·exact ⟨[104, 116, 116, 112, 115], e⟩
  obtain ⟨y, hy⟩ := ht
  have hT : strings_TrimSuffix.f (ba (s.map low8)) (⟨#[58]⟩ : ByteArray) = some (ba y) := by
   unfold strings_TrimSuffix.f
   rw [if_pos (by rw [ba_size', List.length_map]; omega), ba_data, show (⟨#[58]⟩ : ByteArray).data.toList = [58] from rfl, hy, trimColon]
   rfl
  refine Ev.some_bind (fun _ => hT) ?_
  rw [hy, List.dropLast_concat]
  exact Ev.now _
 rw [if_neg c3]
 have hP : strings_HasPrefix.f (ba (s.map low8)) (⟨#[39, 110, 111, 110, 99, 101, 45]⟩ : ByteArray) = some (nonceP.isPrefixOf (s.map low8)) := by
  unfold strings_HasPrefix.f Lib.hasPrefix
  rw [ba_data]
 refine Ev.some_bind (fun _ => hP) (Ev.ite (fun c4 => ?_) (fun c4 => ?_))
 ·rw [if_pos c4]
  have hl : 7 ≤ s.length := by have := isPrefixOf_len c4; simpa using this
  unfold srcNonce
  rw [ba_size']
  refine Ev.if_pos hl ?_
  have e : (ba s).extract 7 s.length = ba (s.drop 7) := by rw [ba_extract, List.take_of_length_le (by rw [List.length_drop]; omega)]
  rw [e]
  refine Ev.some_bind (fun _ => progCutSuf (s.drop 7) (by rw [List.length_drop]; omega)) ?_
  have hd : (s.drop 7).dropLast.length ≤ s.length := by rw [List.length_dropLast, List.length_drop]; omega
  by_cases d : (s.drop 7).getLast? = some 39
  ·rw [if_pos d]
   refine Ev.if_pos rfl ?_
   have sm : (Src8.mk 5 [] false [] 0 [] (s.drop 7).dropLast).Small := ⟨by simp, by simp, by simp, by simp only; omega, by simp⟩
   refine Ev.bind (progGoodS _ sm) ?_
   have hg : (Src8.mk 5 [] false [] 0 [] (s.drop 7).dropLast).good = nonce11 (s.drop 7).dropLast := by simp [Src8.good]
   rw [hg]
   refine Ev.ite (fun f => ?_) (fun f => ?_)
   ·rw [if_pos ⟨d, f⟩]; exact Ev.now _
   ·rw [if_neg (fun g => f g.2)]; exact Ev.now _
  ·rw [if_neg d, if_neg (fun g => d g.1)]
   exact Ev.if_neg (by simp) (Ev.now _)
 ·rw [if_neg c4]
  exact progHosted s h
end Go.Proofs.YtfibkgmbgdaeoaaDoor.Hand
