/- The URL of a text, over lists of bytes: what url.Parse computes; a URL that may be comes back of its text. Conditions: at most 2^30 bytes. -/
import Derived.Test.YtindkgcbglonhaaDoorUrlG
namespace Go.Proofs.YtindkgcbglonhaaDoor.Hand
open Go.RowKit Go.Proofs.YtindkgcbglonhaaDoorW.PrintWords Go.Proofs.YtindkgcbglonhaaDoorW.PrintLast Go.Proofs.YtindkgcbglonhaaDoorW.PrintMore
set_option linter.unusedVariables false
set_option linter.unusedSimpArgs false

def U8.none : U8 := ⟨[], [], [], 0, [], false, [], false, []⟩
def lastAt (l : List UInt8) : Option (List UInt8 × List UInt8) := if 64 ∈ l then some ((l.reverse.dropWhile (· != 64)).tail.reverse, (l.reverse.takeWhile (· != 64)).reverse) else none
theorem lastAt_hit (a b : List UInt8) (h : 64 ∉ b) : lastAt (a ++ 64 :: b) = some (a, b) := by
 unfold lastAt
 rw [if_pos (by simp)]
 have h1 : ∀ x ∈ b.reverse, (x != (64 : UInt8)) = true := fun x hx => by
  have : x ≠ 64 := fun e => h (e ▸ List.mem_reverse.1 hx)
  simpa using this
 rw [List.reverse_append, List.reverse_cons, List.append_assoc, List.takeWhile_append_of_pos h1, List.dropWhile_append_of_pos h1]
 simp
theorem lastAt_miss (l : List UInt8) (h : 64 ∉ l) : lastAt l = none := if_neg h
theorem lastIdx_none (s : ByteArray) (c : UInt8) (h : c ∉ s.data.toList) : Lib.lastIndexByte s (c.toNat : Int) = -1 := by
 unfold Lib.lastIndexByte
 rcases Lib.lastIdx_spec s (c.toNat : Int) s.size with h1 | ⟨i, hi, h2, h3, _⟩
 ·exact h1.1
 ·exfalso
  have hi' : i < s.data.size := hi
  rw [getElem!_pos s.data i hi'] at h3
  have : s.data[i] = c := UInt8.toNat_inj.1 (by omega)
  exact h (by rw [← this]; simp)
theorem lastIdx_some (a b : List UInt8) (c : UInt8) (h : c ∉ b) : Lib.lastIndexByte (ba (a ++ c :: b)) (c.toNat : Int) = (a.length : Int) := by
 unfold Lib.lastIndexByte
 have hsz : (ba (a ++ c :: b)).size = a.length + 1 + b.length := by rw [ba_size']; simp; omega
 have hd : ∀ i, i < a.length + 1 + b.length → (ba (a ++ c :: b)).data[i]! = (a ++ c :: b)[i]! := by
  intro i hi
  have h1 : i < (ba (a ++ c :: b)).data.size := by have := hsz; simp only [ByteArray.size] at this; omega
  have h2 : i < (a ++ c :: b).length := by simp; omega
  rw [getElem!_pos (ba (a ++ c :: b)).data i h1, getElem!_pos (a ++ c :: b) i h2]
  simp [ba]
 rcases Lib.lastIdx_spec (ba (a ++ c :: b)) (c.toNat : Int) (ba (a ++ c :: b)).size with ⟨_, h1⟩ | ⟨i, hi, h2, h3, h4⟩
 ·exfalso
  refine h1 a.length (by omega) ?_
  rw [hd _ (by omega)]
  have : a.length < (a ++ c :: b).length := by simp
  rw [getElem!_pos (a ++ c :: b) a.length this]; simp
 ·rw [h2]
  rw [hsz] at hi h4
  rcases Nat.lt_trichotomy i a.length with hlt | heq | hgt
  ·exfalso
   refine h4 a.length hlt (by omega) ?_
   rw [hd _ (by omega)]
   have : a.length < (a ++ c :: b).length := by simp
   rw [getElem!_pos (a ++ c :: b) a.length this]; simp
  ·rw [heq]
  ·exfalso
   rw [hd _ hi] at h3
   have h5 : i < (a ++ c :: b).length := by simp; omega
   rw [getElem!_pos (a ++ c :: b) i h5, List.getElem_append_right (by omega)] at h3
   obtain ⟨j, hj⟩ : ∃ j, i - a.length = j + 1 := ⟨i - a.length - 1, by omega⟩
   simp only [hj, List.getElem_cons_succ] at h3
   refine h ?_
   have : b[j]'(by omega) = c := UInt8.toNat_inj.1 (by omega)
   rw [← this]; simp
def hp8 (sc a : List UInt8) : Bool × List UInt8 × Int :=
 if (Lib.cut a [58]).2.2 = true then ((port8 (Lib.cut a [58]).2.1).2, (Lib.cut a [58]).1.map low8, if (port8 (Lib.cut a [58]).2.1).1 = def8 sc then 0 else (port8 (Lib.cut a [58]).2.1).1) else (true, (Lib.cut a [58]).1.map low8, 0)
def auth8 (sc a : List UInt8) : Bool × List UInt8 × List UInt8 × Int :=
 match lastAt a with
 | some (us, b) => if us = [] then (false, [], [], 0) else ((hp8 sc b).1, us, (hp8 sc b).2)
 | .none => ((hp8 sc a).1, [], (hp8 sc a).2)
theorem cut_lens (l e : List UInt8) : (Lib.cut l e).1.length ≤ l.length ∧ (Lib.cut l e).2.1.length ≤ l.length := by
 unfold Lib.cut
 split
 ·simp only [List.length_take, List.length_drop]; omega
 ·simp
theorem progHp (sc us a : List UInt8) (h : a.length ≤ 1099511627) : auth2 (ba sc) (ba us) 0 (ba a) = some ((hp8 sc a).1, ba us, ba (hp8 sc a).2.1, (hp8 sc a).2.2) := by
 have hc := cut_lens a [58]
 unfold auth2 hp8
 rw [show (⟨#[58]⟩ : ByteArray) = ba [58] from rfl, progCut a [58] h, Option.bind_some]
 simp only
 rw [progLower _ (by omega), Option.bind_some]
 by_cases c : (Lib.cut a [58]).2.2 = true
 ·rw [if_pos c, if_pos c, progPort _ (by omega), Option.bind_some, progDef, Option.bind_some]
 ·rw [if_neg c, if_neg c]
theorem progAuth (sc a : List UInt8) (h : a.length ≤ 1099511627) : ∃ us ho po, url_authority.f (ba sc) (ba []) (ba []) 0 (ba a) = some ((auth8 sc a).1, us, ho, po) ∧ ((auth8 sc a).1 = true → us = ba (auth8 sc a).2.1 ∧ ho = ba (auth8 sc a).2.2.1 ∧ po = (auth8 sc a).2.2.2) := by
 unfold url_authority.f strings_LastIndexByte.f
 rw [if_pos (by rw [ba_size']; omega)]
 simp only [Option.bind_some]
 rcases split_last 64 a with hm | ⟨x, y, rfl, hy⟩
 ·have h1 := lastIdx_none (ba a) 64 (by rw [ba_data]; exact hm)
  rw [show ((64 : UInt8).toNat : Int) = 64 from rfl] at h1
  rw [h1, if_neg (by decide), progHp sc [] a h]
  unfold auth8
  rw [lastAt_miss a hm]
  exact ⟨_, _, _, rfl, fun _ => ⟨rfl, rfl, rfl⟩⟩
 ·have h1 := lastIdx_some x y 64 hy
  rw [show ((64 : UInt8).toNat : Int) = 64 from rfl] at h1
  rw [h1, if_pos (by omega), if_pos (by (first | omega | (simp only [ba_size', List.length_append, List.length_cons, List.length_nil]; omega) | (simp; omega) | (simp; done))), Int.toNat_natCast]
  have e1 : (ba (x ++ 64 :: y)).extract 0 x.length = ba x := by rw [ba_extract]; simp
  have e2 : (ba (x ++ 64 :: y)).extract (x.length + 1) (ba (x ++ 64 :: y)).size = ba y := by
   rw [ba_extract, ba_size']
   congr 1
   rw [List.drop_append, List.drop_eq_nil_of_le (by omega)]
   simp
   exact List.take_of_length_le (by omega)
  rw [e1, e2]
  unfold auth8
  rw [lastAt_hit x y hy, ba_list]
  simp only
  by_cases c : x = []
  ·rw [if_pos c, if_pos c]; exact ⟨_, _, _, rfl, fun h => by cases h⟩
  ·rw [if_neg c, if_neg c, progHp sc x y (by simp at h; omega)]
   exact ⟨_, _, _, rfl, fun _ => ⟨rfl, rfl, rfl⟩⟩
def path8 (l : List UInt8) : List UInt8 × List UInt8 := if 47 ∈ l then (l.takeWhile (· != 47), l.dropWhile (· != 47)) else (l, [47])
theorem path8_hit (a b : List UInt8) (h : 47 ∉ a) : path8 (a ++ 47 :: b) = (a, 47 :: b) := by
 have h1 : ∀ x ∈ a, (x != (47 : UInt8)) = true := fun x hx => by
  have : x ≠ 47 := fun e => h (e ▸ hx)
  simpa using this
 unfold path8
 rw [if_pos (by simp), List.takeWhile_append_of_pos h1, List.dropWhile_append_of_pos h1]
 simp
theorem path8_miss (a : List UInt8) (h : 47 ∉ a) : path8 a = (a, [47]) := if_neg h
theorem indexByte_first (a b : List UInt8) (c : UInt8) (h : c ∉ a) : Lib.indexByte (a ++ c :: b) c = (a.length : Int) := by
 induction a with
 | nil => simp [Lib.indexByte]
 | cons x a ih =>
  have hx : (x == c) = false := by simpa using fun e : x = c => h (by simp [e])
  have h2 := ih (fun hc => h (by simp [hc]))
  rw [List.cons_append, Lib.indexByte, h2, hx]
  have : ((a.length : Int) == -1) = false := by simp
  rw [this]; simp
theorem indexByte_never (l : List UInt8) (c : UInt8) (h : c ∉ l) : Lib.indexByte l c = -1 := by
 induction l with
 | nil => rfl
 | cons x a ih =>
  have hx : (x == c) = false := by simpa using fun e : x = c => h (by simp [e])
  rw [Lib.indexByte, ih (fun hc => h (by simp [hc])), hx]; rfl
def mk8 (sc : List UInt8) (a : Bool × List UInt8 × List UInt8 × Int) (pa : List UInt8) (c2 c3 : List UInt8 × List UInt8 × Bool) : U8 := ⟨sc, a.2.1, a.2.2.1, a.2.2.2, pa, c3.2.2, c3.2.1, c2.2.2, c2.2.1⟩
def parse8 (s : List UInt8) : U8 × Int :=
 if s.length > 1161 then (U8.none, 2) else
 if (Lib.cut s [58, 47, 47]).2.2 = true then
  if def8 ((Lib.cut s [58, 47, 47]).1.map low8) = 0 then (U8.none, 3) else
  if (auth8 ((Lib.cut s [58, 47, 47]).1.map low8) (path8 (Lib.cut (Lib.cut (Lib.cut s [58, 47, 47]).2.1 [35]).1 [63]).1).1).1 = true ∧
   (mk8 ((Lib.cut s [58, 47, 47]).1.map low8) (auth8 ((Lib.cut s [58, 47, 47]).1.map low8) (path8 (Lib.cut (Lib.cut (Lib.cut s [58, 47, 47]).2.1 [35]).1 [63]).1).1) (path8 (Lib.cut (Lib.cut (Lib.cut s [58, 47, 47]).2.1 [35]).1 [63]).1).2 (Lib.cut (Lib.cut s [58, 47, 47]).2.1 [35]) (Lib.cut (Lib.cut (Lib.cut s [58, 47, 47]).2.1 [35]).1 [63])).good = true
  then (mk8 ((Lib.cut s [58, 47, 47]).1.map low8) (auth8 ((Lib.cut s [58, 47, 47]).1.map low8) (path8 (Lib.cut (Lib.cut (Lib.cut s [58, 47, 47]).2.1 [35]).1 [63]).1).1) (path8 (Lib.cut (Lib.cut (Lib.cut s [58, 47, 47]).2.1 [35]).1 [63]).1).2 (Lib.cut (Lib.cut s [58, 47, 47]).2.1 [35]) (Lib.cut (Lib.cut (Lib.cut s [58, 47, 47]).2.1 [35]).1 [63]), 0)
  else (U8.none, 3)
 else (U8.none, 3)
def U8.tup (x : U8 × Int) : U9 := (ba x.1.sc, ba x.1.us, ba x.1.ho, x.1.po, ba x.1.pa, x.1.hq, ba x.1.qu, x.1.hf, ba x.1.fr, x.2)
theorem noUrl_tup (e : Int) : noUrl e = U8.tup (U8.none, e) := rfl
theorem lastAt_len {a us b : List UInt8} (h : lastAt a = some (us, b)) : us.length ≤ a.length ∧ b.length ≤ a.length := by
 unfold lastAt at h
 split at h
 ·simp only [Option.some.injEq, Prod.mk.injEq] at h
  obtain ⟨rfl, rfl⟩ := h
  have h1 := (List.dropWhile_sublist (· != (64 : UInt8)) (l := a.reverse)).length_le
  have h2 := (List.takeWhile_sublist (· != (64 : UInt8)) (l := a.reverse)).length_le
  simp only [List.length_reverse, List.length_tail] at *
  omega
 ·cases h
theorem hp8_len (sc a : List UInt8) : (hp8 sc a).2.1.length ≤ a.length := by
 have := cut_lens a [58]
 unfold hp8
 split <;> simp only [List.length_map] <;> omega
theorem auth8_len (sc a : List UInt8) : (auth8 sc a).2.1.length ≤ a.length ∧ (auth8 sc a).2.2.1.length ≤ a.length := by
 unfold auth8
 cases h : lastAt a with
 | none => simp only; exact ⟨by simp, hp8_len sc a⟩
 | some p =>
  obtain ⟨us, b⟩ := p
  have := lastAt_len h
  have h2 := hp8_len sc b
  simp only
  split
  ·simp
  ·simp only; omega
theorem path8_len (l : List UInt8) : (path8 l).1.length ≤ l.length ∧ (path8 l).2.length ≤ l.length + 1 := by
 have h1 := (List.dropWhile_sublist (· != (47 : UInt8)) (l := l)).length_le
 have h2 := (List.takeWhile_sublist (· != (47 : UInt8)) (l := l)).length_le
 unfold path8
 split <;> simp only [List.length_singleton] <;> omega
theorem tail8 (sc au pa : List UInt8) (hq : Bool) (qu : List UInt8) (hf : Bool) (fr : List UInt8) (h : sc.length + au.length + pa.length + qu.length + fr.length ≤ 1099511627) :
  Ev (fun k => url_Parse.tail k (ba sc) (ba au) (ba pa) hq (ba qu) hf (ba fr)) (U8.tup (if (auth8 sc au).1 = true ∧ (mk8 sc (auth8 sc au) pa (au, fr, hf) (au, qu, hq)).good = true then (mk8 sc (auth8 sc au) pa (au, fr, hf) (au, qu, hq), 0) else (U8.none, 3))) := by
 obtain ⟨us, ho, po, h1, h2⟩ := progAuth sc au (by omega)
 have hl := auth8_len sc au
 unfold url_Parse.tail
 refine Ev.some_bind (fun _ => h1) (Ev.ite (fun c => ?_) (fun c => ?_))
 ·simp only at c
  obtain ⟨rfl, rfl, rfl⟩ := h2 c
  have hg := progGood (mk8 sc (auth8 sc au) pa (au, fr, hf) (au, qu, hq)) ⟨by simp [mk8]; omega, by simp [mk8]; omega, by simp [mk8]; omega, by simp [mk8]; omega, by simp [mk8]; omega, by simp [mk8]; omega⟩
  refine Ev.bind hg (Ev.ite (fun d => ?_) (fun d => ?_))
  ·rw [if_pos ⟨c, d⟩]; exact Ev.now _
  ·rw [if_neg (fun e => d e.2), noUrl_tup]; exact Ev.now _
 ·rw [if_neg (fun e => c e.1), noUrl_tup]; exact Ev.now _
theorem progParse (s : List UInt8) (h : s.length ≤ 109951162) : Ev (fun k => url_Parse.f k (ba s)) (U8.tup (parse8 s)) := by
 unfold url_Parse.f parse8
 have c1 := cut_lens s [58, 47, 47]
 have c2 := cut_lens (Lib.cut s [58, 47, 47]).2.1 [35]
 have c3 := cut_lens (Lib.cut (Lib.cut s [58, 47, 47]).2.1 [35]).1 [63]
 have c4 := path8_len (Lib.cut (Lib.cut (Lib.cut s [58, 47, 47]).2.1 [35]).1 [63]).1
 rw [ba_size']
 refine Ev.ite (fun c => ?_) (fun c => ?_)
 ·rw [if_pos (by omega), noUrl_tup]; exact Ev.now _
 ·rw [if_neg (by omega)]
  rw [show (⟨#[58, 47, 47]⟩ : ByteArray) = ba [58, 47, 47] from rfl, show (⟨#[35]⟩ : ByteArray) = ba [35] from rfl, show (⟨#[63]⟩ : ByteArray) = ba [63] from rfl]
  refine Ev.some_bind (fun _ => progCut s [58, 47, 47] (by omega)) ?_
  refine Ev.some_bind (fun _ => progLower _ (by first | omega | (simp only; omega))) (Ev.ite (fun d => ?_) (fun d => ?_))
  ·simp only at d
   rw [if_pos d]
   refine Ev.some_bind (fun _ => progDef _) (Ev.ite (fun e => ?_) (fun e => ?_))
   ·rw [if_pos e, noUrl_tup]; exact Ev.now _
   ·rw [if_neg e]
    refine Ev.some_bind (fun _ => progCut _ [35] (by first | omega | (simp only; omega))) (Ev.some_bind (fun _ => progCut _ [63] (by first | omega | (simp only; omega))) ?_)
    simp only
    generalize hx3 : Lib.cut (Lib.cut (Lib.cut s [58, 47, 47]).2.1 [35]).1 [63] = x3 at *
    generalize hx2 : Lib.cut (Lib.cut s [58, 47, 47]).2.1 [35] = x2 at *
    generalize hx1 : Lib.cut s [58, 47, 47] = x1 at *
    obtain ⟨x31, x32, x33⟩ := x3
    obtain ⟨x21, x22, x23⟩ := x2
    obtain ⟨x11, x12, x13⟩ := x1
    simp only at *
    have ix := ixB' (ba x31) 47
    rw [ba_data, show ((47 : UInt8).toNat : Int) = 47 from rfl] at ix
    refine Ev.some_bind (fun _ => ix) ?_
    have hlm : (x11.map low8).length = x11.length := List.length_map _
    rcases split_first 47 x31 with hm | ⟨y, z, rfl, hy⟩
    ·rw [indexByte_never x31 47 hm, path8_miss x31 hm]
     refine Ev.if_pos (by decide) ?_
     exact tail8 (x11.map low8) x31 [47] x33 x32 x23 x22 (by rw [hlm]; simp; omega)
    ·rw [indexByte_first y z 47 hy, path8_hit y z hy]
     refine Ev.if_neg (by omega) (Ev.if_pos (by (first | omega | (simp only [ba_size', List.length_append, List.length_cons, List.length_nil]; omega) | (simp; omega) | (simp; done))) ?_)
     rw [Int.toNat_natCast, show (ba (y ++ 47 :: z)).extract 0 y.length = ba y from by rw [ba_extract]; simp,
      show (ba (y ++ 47 :: z)).extract y.length (ba (y ++ 47 :: z)).size = ba (47 :: z) from by rw [ba_extract, ba_size']; simp]
     simp only [List.length_append, List.length_cons] at c3
     exact tail8 (x11.map low8) y (47 :: z) x33 x32 x23 x22 (by rw [hlm]; simp; omega)
  ·simp only at d
   rw [if_neg d, noUrl_tup]; exact Ev.now _
end Go.Proofs.YtindkgcbglonhaaDoor.Hand
