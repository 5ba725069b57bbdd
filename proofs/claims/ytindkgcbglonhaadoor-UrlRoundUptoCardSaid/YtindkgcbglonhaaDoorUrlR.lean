/- The round trip of URLs: a URL that may be comes back of its text; what a text gives may be, and its text is no longer by more than one byte. No condition. -/
import Derived.Test.YtindkgcbglonhaaDoorUrlS
namespace Go.Proofs.YtindkgcbglonhaaDoor.Hand
open Go.RowKit Go.Proofs.YtindkgcbglonhaaDoorW.PrintWords Go.Proofs.YtindkgcbglonhaaDoorW.PrintLast Go.Proofs.YtindkgcbglonhaaDoorW.PrintMore
set_option linter.unusedVariables false
set_option linter.unusedSimpArgs false

theorem mem_splitD (d c : UInt8) : ∀ l : List UInt8, c ∈ l → c = d ∨ ∃ x ∈ splitD d l, c ∈ x := by
  intro l
  induction l with
  | nil => intro h; cases h
  | cons b l ih =>
    intro h
    unfold splitD
    by_cases hb : b = d
    · rw [if_pos hb]
      rcases List.mem_cons.1 h with rfl | h
      · exact .inl hb
      · rcases ih h with h | ⟨x, hx, hc⟩
        · exact .inl h
        · exact .inr ⟨x, List.mem_cons_of_mem _ hx, hc⟩
    · rw [if_neg hb]
      cases hs : splitD d l with
      | nil => exact absurd hs (splitD_ne d l)
      | cons y r =>
        rw [hs] at ih
        simp only
        rcases List.mem_cons.1 h with rfl | h
        · exact .inr ⟨c :: y, by simp, by simp⟩
        · rcases ih h with h | ⟨x, hx, hc⟩
          · exact .inl h
          · rcases List.mem_cons.1 hx with rfl | hx
            · exact .inr ⟨b :: x, by simp, by simp [hc]⟩
            · exact .inr ⟨x, by simp [hx], hc⟩
theorem host8_mem {l : List UInt8} (h : host8 l = true) {c : UInt8} (hc : c ∈ l) : letter8 c = true ∨ c = 46 := by
  rcases mem_splitD 46 c l hc with h1 | ⟨x, hx, hcx⟩
  · exact .inr h1
  · unfold host8 at h
    rw [Bool.and_eq_true] at h
    have := List.all_eq_true.1 h.2 x hx
    unfold label8 at this
    rw [Bool.and_eq_true] at this
    exact .inl (List.all_eq_true.1 this.2 c hcx)
theorem host8_not {l : List UInt8} (h : host8 l = true) (d : UInt8) (hd : letter8 d = false ∧ d ≠ 46) : d ∉ l := by
  intro hc
  rcases host8_mem h hc with h1 | h1
  · rw [hd.1] at h1; cases h1
  · exact hd.2 h1
theorem letter8_low (c : UInt8) (h : letter8 c = true ∨ c = 46) : low8 c = c := by
  have := u8_all (P := fun c => decide ((letter8 c = true ∨ c = 46) → low8 c = c)) (by decide +kernel) c
  exact of_decide_eq_true this h
theorem host8_low {l : List UInt8} (h : host8 l = true) : l.map low8 = l := by
  have : ∀ c ∈ l, low8 c = c := fun c hc => letter8_low c (host8_mem h hc)
  exact (List.map_congr_left this).trans (List.map_id l)
theorem ok8_not {bad l : List UInt8} (h : l.all (ok8 bad) = true) (d : UInt8) (hd : bad.contains d = true) : d ∉ l := by
  intro hc
  have := List.all_eq_true.1 h d hc
  unfold ok8 at this
  rw [hd] at this
  simp at this
theorem dig_not (n : Nat) (d : UInt8) (hd : dig8 d = false) : d ∉ Lib.decDigits n := by
  intro hc
  have := List.all_eq_true.1 (decDigits_spec n).1 d hc
  rw [hd] at this; cases this
theorem def8_sc {sc : List UInt8} (h : def8 sc ≠ 0) : sc = [104, 116, 116, 112] ∨ sc = [104, 116, 116, 112, 115] := by
  unfold def8 at h
  split at h
  · exact .inl ‹_›
  · split at h
    · exact .inr ‹_›
    · exact absurd rfl h
theorem cutSc {sc : List UInt8} (h : def8 sc ≠ 0) (r : List UInt8) : Lib.cut (sc ++ [58, 47, 47] ++ r) [58, 47, 47] = (sc, r, true) := by
  rcases def8_sc h with rfl | rfl <;> simp [cut_cons]
theorem low8_sc {sc : List UInt8} (h : def8 sc ≠ 0) : sc.map low8 = sc := by
  rcases def8_sc h with rfl | rfl <;> decide
structure U8.Good (u : U8) : Prop where
  sc : def8 u.sc ≠ 0
  po : 0 ≤ u.po ∧ u.po ≤ 65535 ∧ u.po ≠ def8 u.sc
  ho : host8 u.ho = true
  us : u.us.all (ok8 bad0) = true
  pa : u.pa.head? = some 47
  pa1 : u.pa.all (ok8 bad1) = true
  qu : u.qu.all (ok8 bad2) = true
  fr : u.fr.all (ok8 bad3) = true
  hq : u.hq = true ∨ u.qu = []
  hf : u.hf = true ∨ u.fr = []
  usl : u.us.length ≤ 128
  all : u.bare.text.length ≤ 1024
theorem U8.good_iff (u : U8) : u.good = true ↔ u.Good := by
  unfold U8.good
  simp only [Bool.and_eq_true, decide_eq_true_eq]
  constructor
  · rintro ⟨⟨a1, a2, a3, a4⟩, b, c, d, e, f, g, h, i, j, k⟩
    exact ⟨a1, ⟨a2, a3, a4⟩, b, c, d, e, f, g, h, i, j, k⟩
  · rintro ⟨a1, ⟨a2, a3, a4⟩, b, c, d, e, f, g, h, i, j, k⟩
    exact ⟨⟨a1, a2, a3, a4⟩, b, c, d, e, f, g, h, i, j, k⟩
theorem port8_dec (n : Nat) (h1 : 1 ≤ n) (h2 : n ≤ 65535) : port8 (Lib.decDigits n) = ((n : Int), true) := by
  obtain ⟨a, b, c, d⟩ := decDigits_spec n
  unfold port8
  rw [if_pos ⟨a, c, d h1, decDigits_len5 n h2, by rw [b]; exact h2⟩, b]
theorem hp8_text {sc ho : List UInt8} {po : Int} (hh : host8 ho = true) (hp : 0 ≤ po ∧ po ≤ 65535 ∧ po ≠ def8 sc) : hp8 sc (ho ++ portT po) = (true, ho, po) := by
  have hn := host8_not hh 58 (by decide)
  unfold hp8 portT
  by_cases c : po = 0
  · rw [if_pos c, List.append_nil, cut1_miss 58 ho hn]
    simp only [host8_low hh, c]
    rw [if_neg (by decide)]
  · rw [if_neg c, cut1_hit 58 ho _ hn]
    obtain ⟨n, rfl⟩ : ∃ n : Nat, po = n := ⟨po.toNat, by omega⟩
    simp only [host8_low hh, itoa_nat]
    rw [if_pos trivial, port8_dec n (by omega) (by omega)]
    simp only
    rw [if_neg hp.2.2]
theorem portT_not (po : Int) (h : 0 ≤ po) (d : UInt8) (hd : dig8 d = false ∧ d ≠ 58) : d ∉ portT po := by
  obtain ⟨n, rfl⟩ : ∃ n : Nat, po = n := ⟨po.toNat, by omega⟩
  unfold portT
  split
  · simp
  · rw [itoa_nat, List.mem_cons]
    rintro (h | h)
    · exact hd.2 h
    · exact dig_not n d hd.1 h
theorem auth8_text {sc us ho : List UInt8} {po : Int} (hu : us.all (ok8 bad0) = true) (hh : host8 ho = true) (hp : 0 ≤ po ∧ po ≤ 65535 ∧ po ≠ def8 sc) :
    auth8 sc ((if us = [] then [] else us ++ [64]) ++ ho ++ portT po) = (true, us, ho, po) := by
  have hn : (64 : UInt8) ∉ ho ++ portT po := by
    rw [List.mem_append]
    rintro (h | h)
    · exact host8_not hh 64 (by decide) h
    · exact portT_not po hp.1 64 (by decide) h
  unfold auth8
  by_cases c : us = []
  · rw [if_pos c, List.nil_append, lastAt_miss _ hn]
    simp only [hp8_text hh hp, c]
  · rw [if_neg c, List.append_assoc, List.append_assoc, List.singleton_append, lastAt_hit us _ hn]
    simp only [hp8_text hh hp]
    rw [if_neg c]
theorem authT_not {us ho : List UInt8} {po : Int} (hu : us.all (ok8 bad0) = true) (hh : host8 ho = true) (hp : 0 ≤ po) (d : UInt8) (hd : bad0.contains d = true ∧ d ≠ 64 ∧ letter8 d = false ∧ d ≠ 46 ∧ dig8 d = false ∧ d ≠ 58) :
    d ∉ (if us = [] then [] else us ++ [64]) ++ ho ++ portT po := by
  rw [List.mem_append, List.mem_append]
  rintro ((h | h) | h)
  · split at h
    · cases h
    · rcases List.mem_append.1 h with h | h
      · exact ok8_not hu d hd.1 h
      · exact hd.2.1 (by simpa using h)
  · exact host8_not hh d ⟨hd.2.2.1, hd.2.2.2.1⟩ h
  · exact portT_not po hp d ⟨hd.2.2.2.2.1, hd.2.2.2.2.2⟩ h
/-- The text with a path of its own. -/
def U8.textX (u : U8) (X : List UInt8) : List UInt8 := u.sc ++ [58, 47, 47] ++ (if u.us = [] then [] else u.us ++ [64]) ++ u.ho ++ portT u.po ++ X ++ (if u.hq = true then 63 :: u.qu else []) ++ (if u.hf = true then 35 :: u.fr else [])
theorem parse8_textX (u : U8) (h : u.Good) (X : List UInt8) (hX : X = u.pa ∨ (X = [] ∧ u.pa = [47])) : parse8 (u.textX X) = (u, 0) := by
  have hg := (U8.good_iff u).2 h
  have hl := bare_length u
  have hb := h.all
  have hul := h.usl
  have hlen : (u.textX X).length ≤ u.text.length := by
    unfold U8.textX U8.text
    simp only [List.length_append]
    rcases hX with rfl | ⟨rfl, _⟩
    · omega
    · simp
  have hl2 : ¬(u.textX X).length > 1161 := by split at hl <;> omega
  obtain ⟨sc, us, ho, po, pa, hq, qu, hf, fr⟩ := u
  obtain ⟨h1, h2, h3, h4, h5, h6, h7, h8, h9, h10, h11, h12⟩ := h
  simp only at h1 h2 h3 h4 h5 h6 h7 h8 h9 h10 h11 hX
  obtain ⟨pr, rfl⟩ : ∃ pr, pa = 47 :: pr := by
    cases pa with
    | nil => simp at h5
    | cons c r => simp at h5; exact ⟨r, by rw [h5]⟩
  have e0 : U8.textX ⟨sc, us, ho, po, 47 :: pr, hq, qu, hf, fr⟩ X = sc ++ [58, 47, 47] ++ ((if us = [] then [] else us ++ [64]) ++ ho ++ portT po ++ X ++ (if hq = true then 63 :: qu else []) ++ (if hf = true then 35 :: fr else [])) := by
    unfold U8.textX
    simp only [List.append_assoc]
  generalize hD : (if us = [] then [] else us ++ [64]) ++ ho ++ portT po = D at e0
  have nD : ∀ d : UInt8, (bad0.contains d = true ∧ d ≠ 64 ∧ letter8 d = false ∧ d ≠ 46 ∧ dig8 d = false ∧ d ≠ 58) → d ∉ D := fun d hd => hD ▸ authT_not h4 h3 h2.1 d hd
  have nX : ∀ d : UInt8, bad1.contains d = true → d ∉ X := by
    intro d hd hc
    rcases hX with rfl | ⟨rfl, _⟩
    · exact ok8_not h6 d hd hc
    · cases hc
  have hau : auth8 sc D = (true, us, ho, po) := hD ▸ auth8_text h4 h3 h2
  have hpath : path8 (D ++ X) = (D, 47 :: pr) := by
    rcases hX with rfl | ⟨rfl, hp⟩
    · exact path8_hit D pr (nD 47 (by decide))
    · rw [List.append_nil, path8_miss D (nD 47 (by decide)), hp]
  have n63 : (63 : UInt8) ∉ D ++ X := by
    rw [List.mem_append]
    rintro (h | h)
    · exact nD 63 (by decide) h
    · exact nX 63 (by decide) h
  have c3 : Lib.cut (D ++ X ++ (if hq = true then 63 :: qu else [])) [63] = (D ++ X, qu, hq) := by
    by_cases c : hq = true
    · rw [if_pos c, cut1_hit 63 _ _ n63, c]
    · rw [if_neg c, List.append_nil, cut1_miss 63 _ n63]
      rcases h9 with h | h
      · exact absurd h c
      · rw [h, show hq = false from by simpa using c]
  have n35 : (35 : UInt8) ∉ D ++ X ++ (if hq = true then 63 :: qu else []) := by
    rw [List.mem_append, List.mem_append]
    rintro ((h | h) | h)
    · exact nD 35 (by decide) h
    · exact nX 35 (by decide) h
    · split at h
      · rcases List.mem_cons.1 h with h | h
        · exact absurd h (by decide)
        · exact ok8_not h7 35 (by decide) h
      · cases h
  have c2 : Lib.cut (D ++ X ++ (if hq = true then 63 :: qu else []) ++ (if hf = true then 35 :: fr else [])) [35] = (D ++ X ++ (if hq = true then 63 :: qu else []), fr, hf) := by
    by_cases c : hf = true
    · rw [if_pos c, cut1_hit 35 _ _ n35, c]
    · rw [if_neg c, List.append_nil, cut1_miss 35 _ n35]
      rcases h10 with h | h
      · exact absurd h c
      · rw [h, show hf = false from by simpa using c]
  unfold parse8
  rw [if_neg hl2, e0, cutSc h1]
  simp only
  rw [if_pos trivial, low8_sc h1, if_neg h1, c2]
  simp only
  rw [c3]
  simp only
  rw [hpath]
  simp only
  rw [hau]
  have : mk8 sc (true, us, ho, po) (47 :: pr) (D ++ X ++ (if hq = true then 63 :: qu else []), fr, hf) (D ++ X, qu, hq) = ⟨sc, us, ho, po, 47 :: pr, hq, qu, hf, fr⟩ := rfl
  rw [this, if_pos ⟨rfl, hg⟩]
theorem parse8_text (u : U8) (h : u.good = true) : parse8 u.text = (u, 0) := parse8_textX u ((U8.good_iff u).1 h) u.pa (.inl rfl)

/-! ### Lengths -/
theorem isPrefixOf_len {a b : List UInt8} (h : a.isPrefixOf b = true) : a.length ≤ b.length := (List.isPrefixOf_iff_prefix.1 h).length_le
theorem cut_len (d : UInt8) (e : List UInt8) : ∀ l, (Lib.cut l (d :: e)).2.2 = true → l.length = (Lib.cut l (d :: e)).1.length + (e.length + 1) + (Lib.cut l (d :: e)).2.1.length := by
  intro l
  induction l with
  | nil => intro h; rw [cut_nil] at h; cases h
  | cons b l ih =>
    rw [cut_cons]
    by_cases hp : (d :: e).isPrefixOf (b :: l) = true
    · rw [if_pos hp]
      intro _
      have := isPrefixOf_len hp
      simp only [List.length_drop, List.length_cons, List.length_nil] at *
      omega
    · rw [if_neg hp]
      intro h
      have := ih h
      simp only [List.length_cons]
      omega
theorem cut_no (d : UInt8) (e : List UInt8) : ∀ l, (Lib.cut l (d :: e)).2.2 = false → (Lib.cut l (d :: e)).1 = l ∧ (Lib.cut l (d :: e)).2.1 = [] := by
  intro l
  unfold Lib.cut
  split
  · intro h; cases h
  · intro _; exact ⟨rfl, rfl⟩
theorem port8_len (l : List UInt8) (h : (port8 l).2 = true) : portT (port8 l).1 = 58 :: l ∧ (port8 l).1 ≠ 0 := by
  unfold port8 at h ⊢
  split
  · rename_i hc
    obtain ⟨a, b, c, d, e⟩ := hc
    obtain ⟨h1, h2⟩ := decDigits_of _ l rfl a b c
    have h0 : ((val8 l : Nat) : Int) ≠ 0 := by omega
    exact ⟨(portT_nat _ h0).trans (by rw [h1]), h0⟩
  · rename_i hc
    rw [if_neg hc] at h; cases h
theorem hp8_textlen (sc a : List UInt8) (h : (hp8 sc a).1 = true) : (hp8 sc a).2.1.length + (portT (hp8 sc a).2.2).length ≤ a.length := by
  have c1 := cut_len 58 [] a
  have c2 := cut_no 58 [] a
  unfold hp8 at h ⊢
  by_cases c : (Lib.cut a [58]).2.2 = true
  · rw [if_pos c] at h ⊢
    have hp := port8_len _ h
    have := c1 c
    simp only [List.length_map, List.length_nil] at *
    split
    · simp [portT]; omega
    · rw [hp.1]; simp only [List.length_cons]; omega
  · rw [if_neg c] at h ⊢
    have := c2 (by simpa using c)
    simp only [List.length_map, this.1]
    simp [portT]
theorem lastAt_len2 {a us b : List UInt8} (h : lastAt a = some (us, b)) : us.length + 1 + b.length = a.length := by
  rcases split_last 64 a with hm | ⟨x, y, rfl, hy⟩
  · rw [lastAt_miss a hm] at h; cases h
  · rw [lastAt_hit x y hy] at h
    simp only [Option.some.injEq, Prod.mk.injEq] at h
    obtain ⟨rfl, rfl⟩ := h
    simp; omega
def qLen (b : Bool) (d : UInt8) (l : List UInt8) : Nat := (if b = true then d :: l else []).length
def usLen (us : List UInt8) : Nat := if us = [] then 0 else us.length + 1
theorem U8.textLen (u : U8) : u.text.length = u.sc.length + 3 + usLen u.us + u.ho.length + (portT u.po).length + u.pa.length + qLen u.hq 63 u.qu + qLen u.hf 35 u.fr := by
  unfold U8.text usLen qLen
  simp only [List.length_append, List.length_cons, List.length_nil]
  split <;> simp only [List.length_append, List.length_cons, List.length_nil]
theorem auth8_textlen (sc a : List UInt8) (h : (auth8 sc a).1 = true) : usLen (auth8 sc a).2.1 + (auth8 sc a).2.2.1.length + (portT (auth8 sc a).2.2.2).length ≤ a.length := by
  unfold auth8 at h ⊢
  cases hl : lastAt a with
  | none =>
    rw [hl] at h
    simp only at h ⊢
    have := hp8_textlen sc a h
    simp [usLen]; omega
  | some p =>
    obtain ⟨us, b⟩ := p
    rw [hl] at h
    have h2 := lastAt_len2 hl
    simp only at h ⊢
    by_cases c : us = []
    · rw [if_pos c] at h; cases h
    · rw [if_neg c] at h ⊢
      have := hp8_textlen sc b h
      simp only [usLen, c, if_false]
      omega
theorem path8_textlen (l : List UInt8) : (path8 l).1.length + (path8 l).2.length ≤ l.length + 1 := by
  rcases split_first 47 l with hm | ⟨x, y, rfl, hy⟩
  · rw [path8_miss l hm]; simp
  · rw [path8_hit x y hy]; simp
theorem cut1_textlen (d : UInt8) (l : List UInt8) : (Lib.cut l [d]).1.length + qLen (Lib.cut l [d]).2.2 d (Lib.cut l [d]).2.1 = l.length := by
  unfold qLen
  have c1 := cut_len d [] l
  have c2 := cut_no d [] l
  by_cases c : (Lib.cut l [d]).2.2 = true
  · rw [if_pos c, c1 c]; simp; omega
  · rw [if_neg c, (c2 (by simpa using c)).1]; simp
theorem parse8_cases (s : List UInt8) : parse8 s = (U8.none, if s.length > 1161 then 2 else 3) ∨ ((parse8 s).2 = 0 ∧ (parse8 s).1.good = true ∧ (parse8 s).1.text.length ≤ s.length + 1) := by
  have c1 := cut_len 58 [47, 47] s
  unfold parse8
  by_cases h1 : s.length > 1161
  · rw [if_pos h1, if_pos h1]; exact .inl rfl
  · rw [if_neg h1, if_neg h1]
    by_cases h2 : (Lib.cut s [58, 47, 47]).2.2 = true
    · have c1 := c1 h2
      rw [if_pos h2]
      generalize Lib.cut s [58, 47, 47] = x1 at *
      have c2 := cut1_textlen 35 x1.2.1
      generalize Lib.cut x1.2.1 [35] = x2 at *
      have c3 := cut1_textlen 63 x2.1
      generalize Lib.cut x2.1 [63] = x3 at *
      have c4 := path8_textlen x3.1
      generalize path8 x3.1 = x4 at *
      split
      · exact .inl rfl
      · split
        · rename_i h3 h4
          have c5 := auth8_textlen (x1.1.map low8) x4.1 h4.1
          refine .inr ⟨rfl, h4.2, ?_⟩
          rw [U8.textLen]
          simp only [mk8, List.length_map, List.length_cons, List.length_nil] at c1 ⊢
          omega
        · exact .inl rfl
    · rw [if_neg h2]; exact .inl rfl
end Go.Proofs.YtindkgcbglonhaaDoor.Hand
