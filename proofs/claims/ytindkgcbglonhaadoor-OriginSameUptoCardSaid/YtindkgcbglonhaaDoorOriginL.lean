/- The law UrlTexts in plain Lean: the two packages agree on what may be, on its text and its port. Conditions: at most 2^20 bytes of bulk. -/
import Derived.Test.YtindkgcbglonhaaDoorUrlS
import Derived.Test.YtindkgcbglonhaaDoorFV3
import Derived.Test.YtindkgcbglonhaaDoorOpens
import Derived.Test.YtindkgcbglonhaaDoorFV4
namespace Go.Proofs.YtindkgcbglonhaaDoor.Hand
open Go.RowKit Go.Proofs.YtindkgcbglonhaaDoorW.PrintWords Go.Proofs.YtindkgcbglonhaaDoorW.PrintLast Go.Proofs.YtindkgcbglonhaaDoorW.PrintMore
set_option linter.unusedVariables false
set_option linter.unusedSimpArgs false

deriving instance DecidableEq for U8
def wake6 : List UInt8 := [72, 84, 84, 80, 58, 47, 47, 109, 101, 64, 65, 46, 101, 120, 97, 109, 112, 108, 101, 58, 56, 48, 63, 120, 35, 121]
def wake6u : U8 := ⟨[104, 116, 116, 112], [109, 101], [97, 46, 101, 120, 97, 109, 112, 108, 101], 0, [47], true, [120], true, [121]⟩
theorem wake6_parse : parse8 wake6 = (wake6u, 0) := by decide +kernel
theorem wake6_ftp : parse8 [102, 116, 112, 58, 47, 47, 97, 47] = (U8.none, 3) := by decide +kernel
theorem wake6_good : wake6u.good = true := by decide +kernel
theorem wake6_text : wake6u.textG = [104, 116, 116, 112, 58, 47, 47, 109, 101, 64, 97, 46, 101, 120, 97, 109, 112, 108, 101, 47, 63, 120, 35, 121] := by decide +kernel
theorem wake6_small : wake6u.Small := ⟨by decide, by decide, by decide, by decide, by decide, by decide⟩
theorem Ev.get' {α : Type} {g : Nat → Option α} {r : α} (h : Ev g r) : ∃ k, g k = some r := by obtain ⟨k, hk⟩ := h; exact ⟨k, hk k (Nat.le_refl k)⟩
theorem awake6 : Ev (fun k => pursuivantlaw06_awake.f k) true := by
  unfold pursuivantlaw06_awake.f
  have h1 := progParse wake6 (by decide)
  rw [wake6_parse] at h1
  have h2 := progParse [102, 116, 112, 58, 47, 47, 97, 47] (by decide)
  rw [wake6_ftp] at h2
  refine Ev.bind h1 (Ev.bind h2 (Ev.if_pos rfl ?_))
  refine Ev.bind (progTextG wake6u wake6_small) ?_
  rw [wake6_text]
  refine Ev.if_pos (by rw [ba_list]) (Ev.some_bind (fun _ => progPortU wake6u) (Ev.if_pos rfl (Ev.if_pos (ba_list _) (Ev.if_pos rfl ?_))))
  refine Ev.bind (progGood wake6u wake6_small) ?_
  rw [wake6_good]
  exact Ev.now _
/-- A URL of the model over lists. -/
def u8of (x : S39) : U8 := ⟨x.f0.toList, x.f1.toList, x.f2.toList, x.f3, x.f4.toList, x.f5, x.f6.toList, x.f7, x.f8.toList⟩
theorem ba_toList (x : ByteArray) : ba x.toList = x := toList_inj'.1 (ba_list _)
theorem size_toList (x : ByteArray) : x.toList.length = x.size := by rw [← ba_size', ba_toList]
theorem u8of_small (x : S39) (n : Nat) (hn : n ≤ 1099511627) (h : x.f0.size ≤ n ∧ x.f1.size ≤ n ∧ x.f2.size ≤ n ∧ x.f4.size ≤ n ∧ x.f6.size ≤ n ∧ x.f8.size ≤ n) : (u8of x).Small := by
  obtain ⟨h0, h1, h2, h4, h6, h8⟩ := h
  constructor <;> simp only [u8of, size_toList] <;> omega
theorem urlTexts_pure (x0 : S39) (hb : sz39 x0 ≤ 1048576) (hw0 : wf39 x0) : ∃ k, pursuivantlaw06_UrlTexts.f k x0.f0 x0.f1 x0.f2 x0.f3 x0.f4 x0.f5 x0.f6 x0.f7 x0.f8 = some true := by
  have hs : (u8of x0).Small := u8of_small x0 1048576 (by omega) (by simp only [sz39] at hb; omega)
  refine Ev.get' (?_ : Ev (fun k => pursuivantlaw06_UrlTexts.f k x0.f0 x0.f1 x0.f2 x0.f3 x0.f4 x0.f5 x0.f6 x0.f7 x0.f8) true)
  have g1 := progGood (u8of x0) hs
  have g2 := refGoodU (u8of x0) hs
  have t1 := progTextG (u8of x0) hs
  have t2 := refTextG (u8of x0) hs
  have p1 := progPortU (u8of x0)
  have p2 := refPortU (u8of x0)
  simp only [u8of, ba_toList] at g1 g2 t1 t2 p1 p2
  unfold pursuivantlaw06_UrlTexts.f
  refine Ev.bind awake6 (Ev.if_pos rfl (Ev.bind g1 (Ev.bind g2 (Ev.if_pos (by simp) (Ev.bind t1 (Ev.bind t2 (Ev.if_pos rfl ?_)))))))
  refine Ev.some_bind (fun _ => p1) (Ev.some_bind (fun _ => p2) ?_)
  simpa using Ev.now _
end Go.Proofs.YtindkgcbglonhaaDoor.Hand

/- The round trip of URLs: a URL that may be comes back of its text; what a text gives may be, and its text is no longer by more than one byte. No condition. -/
namespace Go.Proofs.YtindkgcbglonhaaDoor.Hand
open Go.RowKit Go.Proofs.YtindkgcbglonhaaDoorW.PrintWords Go.Proofs.YtindkgcbglonhaaDoorW.PrintLast Go.Proofs.YtindkgcbglonhaaDoorW.PrintMore
set_option linter.unusedVariables false
set_option linter.unusedSimpArgs false

theorem mem_splitD (d c : UInt8) : ∀ l : List UInt8, c ∈ l → c = d ∨ ∃ x ∈ splitD d l, c ∈ x := by
  intro l
  induction l with
  | nil => intro h; cases h
  | cons b l ih =>
    intro h
    unfold splitD
    by_cases hb : b = d
    · rw [if_pos hb]
      rcases List.mem_cons.1 h with rfl | h
      · exact .inl hb
      · rcases ih h with h | ⟨x, hx, hc⟩
        · exact .inl h
        · exact .inr ⟨x, List.mem_cons_of_mem _ hx, hc⟩
    · rw [if_neg hb]
      cases hs : splitD d l with
      | nil => exact absurd hs (splitD_ne d l)
      | cons y r =>
        rw [hs] at ih
        simp only
        rcases List.mem_cons.1 h with rfl | h
        · exact .inr ⟨c :: y, by simp, by simp⟩
        · rcases ih h with h | ⟨x, hx, hc⟩
          · exact .inl h
          · rcases List.mem_cons.1 hx with rfl | hx
            · exact .inr ⟨b :: x, by simp, by simp [hc]⟩
            · exact .inr ⟨x, by simp [hx], hc⟩
theorem host8_mem {l : List UInt8} (h : host8 l = true) {c : UInt8} (hc : c ∈ l) : letter8 c = true ∨ c = 46 := by
  rcases mem_splitD 46 c l hc with h1 | ⟨x, hx, hcx⟩
  · exact .inr h1
  · unfold host8 at h
    rw [Bool.and_eq_true] at h
    have := List.all_eq_true.1 h.2 x hx
    unfold label8 at this
    rw [Bool.and_eq_true] at this
    exact .inl (List.all_eq_true.1 this.2 c hcx)
theorem host8_not {l : List UInt8} (h : host8 l = true) (d : UInt8) (hd : letter8 d = false ∧ d ≠ 46) : d ∉ l := by
  intro hc
  rcases host8_mem h hc with h1 | h1
  · rw [hd.1] at h1; cases h1
  · exact hd.2 h1
theorem letter8_low (c : UInt8) (h : letter8 c = true ∨ c = 46) : low8 c = c := by
  have := u8_all (P := fun c => decide ((letter8 c = true ∨ c = 46) → low8 c = c)) (by decide +kernel) c
  exact of_decide_eq_true this h
theorem host8_low {l : List UInt8} (h : host8 l = true) : l.map low8 = l := by
  have : ∀ c ∈ l, low8 c = c := fun c hc => letter8_low c (host8_mem h hc)
  exact (List.map_congr_left this).trans (List.map_id l)
theorem ok8_not {bad l : List UInt8} (h : l.all (ok8 bad) = true) (d : UInt8) (hd : bad.contains d = true) : d ∉ l := by
  intro hc
  have := List.all_eq_true.1 h d hc
  unfold ok8 at this
  rw [hd] at this
  simp at this
theorem dig_not (n : Nat) (d : UInt8) (hd : dig8 d = false) : d ∉ Lib.decDigits n := by
  intro hc
  have := List.all_eq_true.1 (decDigits_spec n).1 d hc
  rw [hd] at this; cases this
theorem def8_sc {sc : List UInt8} (h : def8 sc ≠ 0) : sc = [104, 116, 116, 112] ∨ sc = [104, 116, 116, 112, 115] := by
  unfold def8 at h
  split at h
  · exact .inl ‹_›
  · split at h
    · exact .inr ‹_›
    · exact absurd rfl h
theorem cutSc {sc : List UInt8} (h : def8 sc ≠ 0) (r : List UInt8) : Lib.cut (sc ++ [58, 47, 47] ++ r) [58, 47, 47] = (sc, r, true) := by
  rcases def8_sc h with rfl | rfl <;> simp [cut_cons]
theorem low8_sc {sc : List UInt8} (h : def8 sc ≠ 0) : sc.map low8 = sc := by
  rcases def8_sc h with rfl | rfl <;> decide
structure U8.Good (u : U8) : Prop where
  sc : def8 u.sc ≠ 0
  po : 0 ≤ u.po ∧ u.po ≤ 65535 ∧ u.po ≠ def8 u.sc
  ho : host8 u.ho = true
  us : u.us.all (ok8 bad0) = true
  pa : u.pa.head? = some 47
  pa1 : u.pa.all (ok8 bad1) = true
  qu : u.qu.all (ok8 bad2) = true
  fr : u.fr.all (ok8 bad3) = true
  hq : u.hq = true ∨ u.qu = []
  hf : u.hf = true ∨ u.fr = []
  usl : u.us.length ≤ 128
  all : u.bare.text.length ≤ 1024
theorem U8.good_iff (u : U8) : u.good = true ↔ u.Good := by
  unfold U8.good
  simp only [Bool.and_eq_true, decide_eq_true_eq]
  constructor
  · rintro ⟨⟨a1, a2, a3, a4⟩, b, c, d, e, f, g, h, i, j, k⟩
    exact ⟨a1, ⟨a2, a3, a4⟩, b, c, d, e, f, g, h, i, j, k⟩
  · rintro ⟨a1, ⟨a2, a3, a4⟩, b, c, d, e, f, g, h, i, j, k⟩
    exact ⟨⟨a1, a2, a3, a4⟩, b, c, d, e, f, g, h, i, j, k⟩
theorem port8_dec (n : Nat) (h1 : 1 ≤ n) (h2 : n ≤ 65535) : port8 (Lib.decDigits n) = ((n : Int), true) := by
  obtain ⟨a, b, c, d⟩ := decDigits_spec n
  unfold port8
  rw [if_pos ⟨a, c, d h1, decDigits_len5 n h2, by rw [b]; exact h2⟩, b]
theorem hp8_text {sc ho : List UInt8} {po : Int} (hh : host8 ho = true) (hp : 0 ≤ po ∧ po ≤ 65535 ∧ po ≠ def8 sc) : hp8 sc (ho ++ portT po) = (true, ho, po) := by
  have hn := host8_not hh 58 (by decide)
  unfold hp8 portT
  by_cases c : po = 0
  · rw [if_pos c, List.append_nil, cut1_miss 58 ho hn]
    simp only [host8_low hh, c]
    rw [if_neg (by decide)]
  · rw [if_neg c, cut1_hit 58 ho _ hn]
    obtain ⟨n, rfl⟩ : ∃ n : Nat, po = n := ⟨po.toNat, by omega⟩
    simp only [host8_low hh, itoa_nat]
    rw [if_pos trivial, port8_dec n (by omega) (by omega)]
    simp only
    rw [if_neg hp.2.2]
theorem portT_not (po : Int) (h : 0 ≤ po) (d : UInt8) (hd : dig8 d = false ∧ d ≠ 58) : d ∉ portT po := by
  obtain ⟨n, rfl⟩ : ∃ n : Nat, po = n := ⟨po.toNat, by omega⟩
  unfold portT
  split
  · simp
  · rw [itoa_nat, List.mem_cons]
    rintro (h | h)
    · exact hd.2 h
    · exact dig_not n d hd.1 h
theorem auth8_text {sc us ho : List UInt8} {po : Int} (hu : us.all (ok8 bad0) = true) (hh : host8 ho = true) (hp : 0 ≤ po ∧ po ≤ 65535 ∧ po ≠ def8 sc) :
    auth8 sc ((if us = [] then [] else us ++ [64]) ++ ho ++ portT po) = (true, us, ho, po) := by
  have hn : (64 : UInt8) ∉ ho ++ portT po := by
    rw [List.mem_append]
    rintro (h | h)
    · exact host8_not hh 64 (by decide) h
    · exact portT_not po hp.1 64 (by decide) h
  unfold auth8
  by_cases c : us = []
  · rw [if_pos c, List.nil_append, lastAt_miss _ hn]
    simp only [hp8_text hh hp, c]
  · rw [if_neg c, List.append_assoc, List.append_assoc, List.singleton_append, lastAt_hit us _ hn]
    simp only [hp8_text hh hp]
    rw [if_neg c]
theorem authT_not {us ho : List UInt8} {po : Int} (hu : us.all (ok8 bad0) = true) (hh : host8 ho = true) (hp : 0 ≤ po) (d : UInt8) (hd : bad0.contains d = true ∧ d ≠ 64 ∧ letter8 d = false ∧ d ≠ 46 ∧ dig8 d = false ∧ d ≠ 58) :
    d ∉ (if us = [] then [] else us ++ [64]) ++ ho ++ portT po := by
  rw [List.mem_append, List.mem_append]
  rintro ((h | h) | h)
  · split at h
    · cases h
    · rcases List.mem_append.1 h with h | h
      · exact ok8_not hu d hd.1 h
      · exact hd.2.1 (by simpa using h)
  · exact host8_not hh d ⟨hd.2.2.1, hd.2.2.2.1⟩ h
  · exact portT_not po hp d ⟨hd.2.2.2.2.1, hd.2.2.2.2.2⟩ h
/-- The text with a path of its own. -/
def U8.textX (u : U8) (X : List UInt8) : List UInt8 := u.sc ++ [58, 47, 47] ++ (if u.us = [] then [] else u.us ++ [64]) ++ u.ho ++ portT u.po ++ X ++ (if u.hq = true then 63 :: u.qu else []) ++ (if u.hf = true then 35 :: u.fr else [])
theorem parse8_textX (u : U8) (h : u.Good) (X : List UInt8) (hX : X = u.pa ∨ (X = [] ∧ u.pa = [47])) : parse8 (u.textX X) = (u, 0) := by
  have hg := (U8.good_iff u).2 h
  have hl := bare_length u
  have hb := h.all
  have hul := h.usl
  have hlen : (u.textX X).length ≤ u.text.length := by
    unfold U8.textX U8.text
    simp only [List.length_append]
    rcases hX with rfl | ⟨rfl, _⟩
    · omega
    · simp
  have hl2 : ¬(u.textX X).length > 1161 := by split at hl <;> omega
  obtain ⟨sc, us, ho, po, pa, hq, qu, hf, fr⟩ := u
  obtain ⟨h1, h2, h3, h4, h5, h6, h7, h8, h9, h10, h11, h12⟩ := h
  simp only at h1 h2 h3 h4 h5 h6 h7 h8 h9 h10 h11 hX
  obtain ⟨pr, rfl⟩ : ∃ pr, pa = 47 :: pr := by
    cases pa with
    | nil => simp at h5
    | cons c r => simp at h5; exact ⟨r, by rw [h5]⟩
  have e0 : U8.textX ⟨sc, us, ho, po, 47 :: pr, hq, qu, hf, fr⟩ X = sc ++ [58, 47, 47] ++ ((if us = [] then [] else us ++ [64]) ++ ho ++ portT po ++ X ++ (if hq = true then 63 :: qu else []) ++ (if hf = true then 35 :: fr else [])) := by
    unfold U8.textX
    simp only [List.append_assoc]
  generalize hD : (if us = [] then [] else us ++ [64]) ++ ho ++ portT po = D at e0
  have nD : ∀ d : UInt8, (bad0.contains d = true ∧ d ≠ 64 ∧ letter8 d = false ∧ d ≠ 46 ∧ dig8 d = false ∧ d ≠ 58) → d ∉ D := fun d hd => hD ▸ authT_not h4 h3 h2.1 d hd
  have nX : ∀ d : UInt8, bad1.contains d = true → d ∉ X := by
    intro d hd hc
    rcases hX with rfl | ⟨rfl, _⟩
    · exact ok8_not h6 d hd hc
    · cases hc
  have hau : auth8 sc D = (true, us, ho, po) := hD ▸ auth8_text h4 h3 h2
  have hpath : path8 (D ++ X) = (D, 47 :: pr) := by
    rcases hX with rfl | ⟨rfl, hp⟩
    · exact path8_hit D pr (nD 47 (by decide))
    · rw [List.append_nil, path8_miss D (nD 47 (by decide)), hp]
  have n63 : (63 : UInt8) ∉ D ++ X := by
    rw [List.mem_append]
    rintro (h | h)
    · exact nD 63 (by decide) h
    · exact nX 63 (by decide) h
  have c3 : Lib.cut (D ++ X ++ (if hq = true then 63 :: qu else [])) [63] = (D ++ X, qu, hq) := by
    by_cases c : hq = true
    · rw [if_pos c, cut1_hit 63 _ _ n63, c]
    · rw [if_neg c, List.append_nil, cut1_miss 63 _ n63]
      rcases h9 with h | h
      · exact absurd h c
      · rw [h, show hq = false from by simpa using c]
  have n35 : (35 : UInt8) ∉ D ++ X ++ (if hq = true then 63 :: qu else []) := by
    rw [List.mem_append, List.mem_append]
    rintro ((h | h) | h)
    · exact nD 35 (by decide) h
    · exact nX 35 (by decide) h
    · split at h
      · rcases List.mem_cons.1 h with h | h
        · exact absurd h (by decide)
        · exact ok8_not h7 35 (by decide) h
      · cases h
  have c2 : Lib.cut (D ++ X ++ (if hq = true then 63 :: qu else []) ++ (if hf = true then 35 :: fr else [])) [35] = (D ++ X ++ (if hq = true then 63 :: qu else []), fr, hf) := by
    by_cases c : hf = true
    · rw [if_pos c, cut1_hit 35 _ _ n35, c]
    · rw [if_neg c, List.append_nil, cut1_miss 35 _ n35]
      rcases h10 with h | h
      · exact absurd h c
      · rw [h, show hf = false from by simpa using c]
  unfold parse8
  rw [if_neg hl2, e0, cutSc h1]
  simp only
  rw [if_pos trivial, low8_sc h1, if_neg h1, c2]
  simp only
  rw [c3]
  simp only
  rw [hpath]
  simp only
  rw [hau]
  have : mk8 sc (true, us, ho, po) (47 :: pr) (D ++ X ++ (if hq = true then 63 :: qu else []), fr, hf) (D ++ X, qu, hq) = ⟨sc, us, ho, po, 47 :: pr, hq, qu, hf, fr⟩ := rfl
  rw [this, if_pos ⟨rfl, hg⟩]
theorem parse8_text (u : U8) (h : u.good = true) : parse8 u.text = (u, 0) := parse8_textX u ((U8.good_iff u).1 h) u.pa (.inl rfl)

/-! ### Lengths -/
theorem isPrefixOf_len {a b : List UInt8} (h : a.isPrefixOf b = true) : a.length ≤ b.length := (List.isPrefixOf_iff_prefix.1 h).length_le
theorem cut_len (d : UInt8) (e : List UInt8) : ∀ l, (Lib.cut l (d :: e)).2.2 = true → l.length = (Lib.cut l (d :: e)).1.length + (e.length + 1) + (Lib.cut l (d :: e)).2.1.length := by
  intro l
  induction l with
  | nil => intro h; rw [cut_nil] at h; cases h
  | cons b l ih =>
    rw [cut_cons]
    by_cases hp : (d :: e).isPrefixOf (b :: l) = true
    · rw [if_pos hp]
      intro _
      have := isPrefixOf_len hp
      simp only [List.length_drop, List.length_cons, List.length_nil] at *
      omega
    · rw [if_neg hp]
      intro h
      have := ih h
      simp only [List.length_cons]
      omega
theorem cut_no (d : UInt8) (e : List UInt8) : ∀ l, (Lib.cut l (d :: e)).2.2 = false → (Lib.cut l (d :: e)).1 = l ∧ (Lib.cut l (d :: e)).2.1 = [] := by
  intro l
  unfold Lib.cut
  split
  · intro h; cases h
  · intro _; exact ⟨rfl, rfl⟩
theorem port8_len (l : List UInt8) (h : (port8 l).2 = true) : portT (port8 l).1 = 58 :: l ∧ (port8 l).1 ≠ 0 := by
  unfold port8 at h ⊢
  split
  · rename_i hc
    obtain ⟨a, b, c, d, e⟩ := hc
    obtain ⟨h1, h2⟩ := decDigits_of _ l rfl a b c
    have h0 : ((val8 l : Nat) : Int) ≠ 0 := by omega
    exact ⟨(portT_nat _ h0).trans (by rw [h1]), h0⟩
  · rename_i hc
    rw [if_neg hc] at h; cases h
theorem hp8_textlen (sc a : List UInt8) (h : (hp8 sc a).1 = true) : (hp8 sc a).2.1.length + (portT (hp8 sc a).2.2).length ≤ a.length := by
  have c1 := cut_len 58 [] a
  have c2 := cut_no 58 [] a
  unfold hp8 at h ⊢
  by_cases c : (Lib.cut a [58]).2.2 = true
  · rw [if_pos c] at h ⊢
    have hp := port8_len _ h
    have := c1 c
    simp only [List.length_map, List.length_nil] at *
    split
    · simp [portT]; omega
    · rw [hp.1]; simp only [List.length_cons]; omega
  · rw [if_neg c] at h ⊢
    have := c2 (by simpa using c)
    simp only [List.length_map, this.1]
    simp [portT]
theorem lastAt_len2 {a us b : List UInt8} (h : lastAt a = some (us, b)) : us.length + 1 + b.length = a.length := by
  rcases split_last 64 a with hm | ⟨x, y, rfl, hy⟩
  · rw [lastAt_miss a hm] at h; cases h
  · rw [lastAt_hit x y hy] at h
    simp only [Option.some.injEq, Prod.mk.injEq] at h
    obtain ⟨rfl, rfl⟩ := h
    simp; omega
def qLen (b : Bool) (d : UInt8) (l : List UInt8) : Nat := (if b = true then d :: l else []).length
def usLen (us : List UInt8) : Nat := if us = [] then 0 else us.length + 1
theorem U8.textLen (u : U8) : u.text.length = u.sc.length + 3 + usLen u.us + u.ho.length + (portT u.po).length + u.pa.length + qLen u.hq 63 u.qu + qLen u.hf 35 u.fr := by
  unfold U8.text usLen qLen
  simp only [List.length_append, List.length_cons, List.length_nil]
  split <;> simp only [List.length_append, List.length_cons, List.length_nil]
theorem auth8_textlen (sc a : List UInt8) (h : (auth8 sc a).1 = true) : usLen (auth8 sc a).2.1 + (auth8 sc a).2.2.1.length + (portT (auth8 sc a).2.2.2).length ≤ a.length := by
  unfold auth8 at h ⊢
  cases hl : lastAt a with
  | none =>
    rw [hl] at h
    simp only at h ⊢
    have := hp8_textlen sc a h
    simp [usLen]; omega
  | some p =>
    obtain ⟨us, b⟩ := p
    rw [hl] at h
    have h2 := lastAt_len2 hl
    simp only at h ⊢
    by_cases c : us = []
    · rw [if_pos c] at h; cases h
    · rw [if_neg c] at h ⊢
      have := hp8_textlen sc b h
      simp only [usLen, c, if_false]
      omega
theorem path8_textlen (l : List UInt8) : (path8 l).1.length + (path8 l).2.length ≤ l.length + 1 := by
  rcases split_first 47 l with hm | ⟨x, y, rfl, hy⟩
  · rw [path8_miss l hm]; simp
  · rw [path8_hit x y hy]; simp
theorem cut1_textlen (d : UInt8) (l : List UInt8) : (Lib.cut l [d]).1.length + qLen (Lib.cut l [d]).2.2 d (Lib.cut l [d]).2.1 = l.length := by
  unfold qLen
  have c1 := cut_len d [] l
  have c2 := cut_no d [] l
  by_cases c : (Lib.cut l [d]).2.2 = true
  · rw [if_pos c, c1 c]; simp; omega
  · rw [if_neg c, (c2 (by simpa using c)).1]; simp
theorem parse8_cases (s : List UInt8) : parse8 s = (U8.none, if s.length > 1161 then 2 else 3) ∨ ((parse8 s).2 = 0 ∧ (parse8 s).1.good = true ∧ (parse8 s).1.text.length ≤ s.length + 1) := by
  have c1 := cut_len 58 [47, 47] s
  unfold parse8
  by_cases h1 : s.length > 1161
  · rw [if_pos h1, if_pos h1]; exact .inl rfl
  · rw [if_neg h1, if_neg h1]
    by_cases h2 : (Lib.cut s [58, 47, 47]).2.2 = true
    · have c1 := c1 h2
      rw [if_pos h2]
      generalize Lib.cut s [58, 47, 47] = x1 at *
      have c2 := cut1_textlen 35 x1.2.1
      generalize Lib.cut x1.2.1 [35] = x2 at *
      have c3 := cut1_textlen 63 x2.1
      generalize Lib.cut x2.1 [63] = x3 at *
      have c4 := path8_textlen x3.1
      generalize path8 x3.1 = x4 at *
      split
      · exact .inl rfl
      · split
        · rename_i h3 h4
          have c5 := auth8_textlen (x1.1.map low8) x4.1 h4.1
          refine .inr ⟨rfl, h4.2, ?_⟩
          rw [U8.textLen]
          simp only [mk8, List.length_map, List.length_cons, List.length_nil] at c1 ⊢
          omega
        · exact .inl rfl
    · rw [if_neg h2]; exact .inl rfl
end Go.Proofs.YtindkgcbglonhaaDoor.Hand

/- The law UrlRound in plain Lean: text and parse come back of each other. Conditions: at most 2^20 bytes of bulk. -/
namespace Go.Proofs.YtindkgcbglonhaaDoor.Hand
open Go.RowKit Go.Proofs.YtindkgcbglonhaaDoorW.PrintWords Go.Proofs.YtindkgcbglonhaaDoorW.PrintLast Go.Proofs.YtindkgcbglonhaaDoorW.PrintMore
set_option linter.unusedVariables false
set_option linter.unusedSimpArgs false

theorem U8.Good.small {u : U8} (h : u.Good) : u.Small := by
  have h1 := h.all
  have h2 := h.usl
  rw [U8.textLen] at h1
  simp only [U8.bare] at h1
  have hq : u.qu.length ≤ 1024 := by
    rcases h.hq with c | c
    · rw [c] at h1; simp only [qLen, if_true, List.length_cons] at h1; omega
    · rw [c]; simp
  have hf : u.fr.length ≤ 1024 := by
    rcases h.hf with c | c
    · rw [c] at h1; simp only [qLen, if_true, List.length_cons] at h1; omega
    · rw [c]; simp
  constructor <;> omega
theorem U8.Good.len {u : U8} (h : u.Good) : u.text.length ≤ 1153 := by
  have h1 := h.all
  have h2 := h.usl
  have h3 := bare_length u
  split at h3 <;> omega
theorem U8.Good.port {u : U8} (h : u.Good) : u.port > 0 := by
  have h1 := h.po
  unfold U8.port
  split
  · rcases def8_sc h.sc with e | e <;> rw [e] <;> decide
  · omega
theorem U8.textG_good {u : U8} (h : u.good = true) : u.textG = u.text := if_pos h
theorem round_j0 (s : List UInt8) (hs : s.length ≤ 109951162) : Ev (fun k => pursuivantlaw06_UrlRound.j0 k (ba s)) true := by
  refine Ev.step (fun k => by rw [pursuivantlaw06_UrlRound.j0]) ?_
  have hp := progParse s hs
  rcases parse8_cases s with h | ⟨h1, h2, h3⟩
  · rw [h] at hp
    refine Ev.bind hp (Ev.if_neg (by simp only [U8.tup]; split <;> decide) (Ev.bind awake6 (Ev.if_pos rfl ?_)))
    refine Ev.if_pos (by simp [U8.tup, U8.none]) ?_
    rw [ba_size']
    by_cases c : s.length > 1161
    · rw [if_pos c, decide_eq_true (show (s.length : Int) > 1161 by omega)]; exact Ev.now _
    · rw [if_neg c, decide_eq_false (show ¬(s.length : Int) > 1161 by omega)]; exact Ev.now _
  · obtain ⟨⟨u, e⟩, hu⟩ : ∃ p, parse8 s = p := ⟨_, rfl⟩
    rw [hu] at hp h1 h2 h3
    simp only at h1 h2 h3
    subst h1
    have hg := (U8.good_iff u).1 h2
    have ht := progTextG u hg.small
    rw [U8.textG_good h2] at ht
    have hp2 := progParse u.text (by have := hg.len; omega)
    rw [parse8_text u h2] at hp2
    have hgd := progGood u hg.small
    rw [h2] at hgd
    refine Ev.bind hp (Ev.if_pos rfl (Ev.bind ht (Ev.bind hp2 (Ev.bind awake6 (Ev.if_pos rfl (Ev.bind hgd (Ev.if_pos rfl (Ev.bind ht (Ev.if_pos ?_ (Ev.if_pos rfl (Ev.if_pos (by simp) (Ev.some_bind (fun _ => progPortU u) ?_))))))))))))
    · rw [ba_size', ba_size', wrap_ok _ (by omega) (by omega)]; omega
    · rw [decide_eq_true hg.port]; exact Ev.now _
theorem urlRound_pure (x0 : S39) (x1 : ByteArray) (hb : sz39 x0 + (fun s : ByteArray => s.size + 1) x1 ≤ 1048576) (hw0 : wf39 x0) (hw1 : (fun _ => True) x1) :
    ∃ k, pursuivantlaw06_UrlRound.f k x0.f0 x0.f1 x0.f2 x0.f3 x0.f4 x0.f5 x0.f6 x0.f7 x0.f8 x1 = some true := by
  have hs : (u8of x0).Small := u8of_small x0 1048576 (by omega) (by simp only [sz39] at hb; omega)
  refine Ev.get' (?_ : Ev (fun k => pursuivantlaw06_UrlRound.f k x0.f0 x0.f1 x0.f2 x0.f3 x0.f4 x0.f5 x0.f6 x0.f7 x0.f8 x1) true)
  have g1 := progGood (u8of x0) hs
  have t1 := progTextG (u8of x0) hs
  have hj := round_j0 x1.toList (by rw [size_toList]; simp only [sz39] at hb; omega)
  rw [ba_toList] at hj
  by_cases hg : (u8of x0).good = true
  · rw [hg] at g1
    rw [U8.textG_good hg] at t1
    have hG := (U8.good_iff _).1 hg
    have hp2 := progParse (u8of x0).text (by have := hG.len; omega)
    rw [parse8_text _ hg] at hp2
    simp only [u8of, ba_toList] at g1 t1
    unfold pursuivantlaw06_UrlRound.f
    refine Ev.bind g1 (Ev.if_pos rfl (Ev.bind t1 (Ev.bind hp2 (Ev.if_pos rfl (Ev.if_neg (by simp [U8.tup, u8of, ba_toList]) hj)))))
  · rw [show (u8of x0).good = false from by simpa using hg] at g1
    simp only [u8of, ba_toList] at g1
    unfold pursuivantlaw06_UrlRound.f
    exact Ev.bind g1 (Ev.if_neg (by simp) hj)
end Go.Proofs.YtindkgcbglonhaaDoor.Hand

/- The laws OriginTexts and OriginSame in plain Lean. Conditions: at most 2^20 bytes of bulk. -/
namespace Go.Proofs.YtindkgcbglonhaaDoor.Hand
open Go.RowKit Go.Proofs.YtindkgcbglonhaaDoorW.PrintWords Go.Proofs.YtindkgcbglonhaaDoorW.PrintLast Go.Proofs.YtindkgcbglonhaaDoorW.PrintMore
set_option linter.unusedVariables false
set_option linter.unusedSimpArgs false

structure O8 where
  (sc ho : List UInt8) (po : Int)
deriving DecidableEq
def O8.nob (o : O8) : Bool := decide (o.sc = [] ∧ o.ho = [] ∧ o.po = 0)
def O8.bare (o : O8) : U8 := ⟨o.sc, [], o.ho, if o.po = def8 o.sc then 0 else o.po, [47], false, [], false, []⟩
def O8.one (o : O8) : Bool := decide (def8 o.sc ≠ 0 ∧ 0 < o.po ∧ o.po ≤ 65535) && host8 o.ho
def O8.good (o : O8) : Bool := o.nob || o.one
def O8.long (o : O8) : List UInt8 := o.bare.textX []
def null8 : List UInt8 := [110, 117, 108, 108]
def O8.text (o : O8) : List UInt8 := if o.nob = true then null8 else if o.one = true then o.long else []
structure O8.Small (o : O8) : Prop where
  sc : o.sc.length ≤ 1099511627
  ho : o.ho.length ≤ 1099511627
  po : -9223372036854775808 ≤ o.po ∧ o.po ≤ 9223372036854775807
theorem nob_ba (o : O8) : nobody (ba o.sc) (ba o.ho) o.po = o.nob := by
  unfold nobody O8.nob
  have e : (⟨#[]⟩ : ByteArray) = ba [] := rfl
  rw [e, Bool.eq_iff_iff, decide_eq_true_iff, decide_eq_true_iff]
  constructor
  · rintro ⟨h1, h2, h3⟩; exact ⟨ba_inj h1, ba_inj h2, h3⟩
  · rintro ⟨h1, h2, h3⟩; exact ⟨by rw [h1], by rw [h2], h3⟩
theorem O8.bare_small {o : O8} (h : o.Small) : o.bare.Small := ⟨h.sc, by simp [O8.bare], h.ho, by simp [O8.bare], by simp [O8.bare], by simp [O8.bare]⟩
theorem def8_nat (l : List UInt8) : def8 l = 0 ∨ def8 l = 80 ∨ def8 l = 443 := by
  unfold def8
  split
  · exact .inr (.inl rfl)
  · split
    · exact .inr (.inr rfl)
    · exact .inl rfl
theorem portT_len (p : Int) (h : 0 ≤ p ∧ p ≤ 65535) : (portT p).length ≤ 6 := by
  obtain ⟨n, rfl⟩ : ∃ n : Nat, p = n := ⟨p.toNat, by omega⟩
  unfold portT
  split
  · simp
  · have := decDigits_len5 n (by omega)
    rw [itoa_nat, List.length_cons]; omega
theorem O8.bare_good (o : O8) (h0 : o.po ≠ 0) : o.bare.good = o.one := by
  rw [Bool.eq_iff_iff, U8.good_iff]
  unfold O8.one
  rw [Bool.and_eq_true, decide_eq_true_iff]
  have hd := def8_nat o.sc
  constructor
  · intro h
    have h1 := h.sc
    have h2 := h.po
    have h3 := h.ho
    simp only [O8.bare] at h1 h2 h3
    refine ⟨⟨h1, ?_⟩, h3⟩
    split at h2 <;> omega
  · rintro ⟨⟨h1, h2, h3⟩, h4⟩
    have h5 : 0 ≤ o.bare.po ∧ o.bare.po ≤ 65535 ∧ o.bare.po ≠ def8 o.sc := by
      simp only [O8.bare]
      split <;> omega
    refine ⟨h1, h5, h4, rfl, rfl, (by decide : ([47] : List UInt8).all (ok8 bad1) = true), rfl, rfl, .inr rfl, .inr rfl, by simp [O8.bare], ?_⟩
    have h6 := portT_len o.bare.po (by omega)
    have h7 : o.ho.length ≤ 253 := by
      unfold host8 at h4
      rw [Bool.and_eq_true] at h4
      exact of_decide_eq_true h4.1
    have h8 : o.sc.length ≤ 5 := by rcases def8_sc h1 with e | e <;> rw [e] <;> decide
    rw [U8.textLen]
    have e1 : o.bare.bare.us = [] := rfl
    have e2 : o.bare.bare.hq = false := rfl
    have e3 : o.bare.bare.hf = false := rfl
    have e4 : o.bare.bare.pa = [47] := rfl
    have e5 : o.bare.bare.sc = o.sc := rfl
    have e6 : o.bare.bare.ho = o.ho := rfl
    have e7 : o.bare.bare.po = o.bare.po := rfl
    rw [e1, e2, e3, e4, e5, e6, e7]
    simp [usLen, qLen]
    omega
theorem O8.good_nob {o : O8} (h : o.nob = true) : o.good = true := by unfold O8.good; rw [h]; rfl
theorem O8.good_zero {o : O8} (h : ¬o.nob = true) (h0 : o.po = 0) : o.good = false := by
  unfold O8.good O8.one
  rw [show o.nob = false from by simpa using h, decide_eq_false (fun e => by omega)]; rfl
theorem O8.good_one {o : O8} (h : ¬o.nob = true) : o.good = o.one := by
  unfold O8.good
  rw [show o.nob = false from by simpa using h]; rfl
theorem progBare (o : O8) : origin_bare.f (ba o.sc) (ba o.ho) o.po = some (ba o.bare.sc, ba o.bare.us, ba o.bare.ho, o.bare.po, ba o.bare.pa, o.bare.hq, ba o.bare.qu, o.bare.hf, ba o.bare.fr) := by
  unfold origin_bare.f
  rw [progDef]
  rfl
theorem progGoodO (o : O8) (h : o.Small) : Ev (fun k => origin_Good.f k (ba o.sc) (ba o.ho) o.po) o.good := by
  unfold origin_Good.f
  rw [nob_ba]
  refine Ev.ite (fun c => ?_) (fun c => Ev.ite (fun d => ?_) (fun d => ?_))
  · rw [O8.good_nob c]; exact Ev.now _
  · rw [O8.good_zero c d]; exact Ev.now _
  · rw [O8.good_one c, ← O8.bare_good o d, progBare]
    exact progGood o.bare (O8.bare_small h)
theorem refNob (o : O8) : pursuivantref08_Nobody.f (ba o.sc) (ba o.ho) o.po = some o.nob := by
  unfold pursuivantref08_Nobody.f O8.nob
  rw [ba_list, ba_list]
  split
  · split
    · congr 1
      rw [Bool.eq_iff_iff, decide_eq_true_iff]
      rename_i h1 h2
      exact ⟨fun h => ⟨h1, h2, by simpa using h⟩, fun h => by simpa using h.2.2⟩
    · rename_i h2
      rw [decide_eq_false (fun h => h2 h.2.1)]
  · rename_i h1
    rw [decide_eq_false (fun h => h1 h.1)]
theorem refGoodO (o : O8) (h : o.Small) : Ev (fun k => pursuivantref08_Good.f k (ba o.sc) (ba o.ho) o.po) o.good := by
  unfold pursuivantref08_Good.f
  have hd := def8_nat o.sc
  refine Ev.some_bind (fun _ => refNob o) (Ev.ite (fun c => ?_) (fun c => ?_))
  · rw [O8.good_nob c]; exact Ev.now _
  · rw [O8.good_one c]
    unfold O8.one
    refine Ev.some_bind (fun _ => refDef _) (Ev.ite (fun d => ?_) (fun d => ?_))
    · refine Ev.bind (refHost o.ho (by have := h.ho; omega)) (Ev.ite (fun e => ?_) (fun e => ?_))
      · rw [e, Bool.and_true]
        refine Ev.ite (fun f => ?_) (fun f => ?_)
        · rw [show decide (o.po < 65536) = decide (def8 o.sc ≠ 0 ∧ 0 < o.po ∧ o.po ≤ 65535) from by rw [Bool.eq_iff_iff, decide_eq_true_iff, decide_eq_true_iff]; omega]
          exact Ev.now _
        · rw [decide_eq_false (fun g => by omega)]; exact Ev.now _
      · rw [show host8 o.ho = false from by simpa using e, Bool.and_false]; exact Ev.now _
    · rw [decide_eq_false (fun g => by omega), Bool.false_and]; exact Ev.now _
theorem trimSlash (l : List UInt8) : Lib.trimSuffix (l ++ [47]) [47] = l := by
  unfold Lib.trimSuffix Lib.hasSuffix
  simp
theorem O8.bare_text (o : O8) : o.bare.text = o.long ++ [47] := by
  unfold O8.long U8.text U8.textX O8.bare
  simp
theorem O8.one_small {o : O8} (h : o.one = true) : o.bare.text.length ≤ 1153 ∧ o.bare.good = true ∧ o.po ≠ 0 := by
  have h0 : o.po ≠ 0 := by
    unfold O8.one at h
    rw [Bool.and_eq_true, decide_eq_true_iff] at h
    omega
  have h1 : o.bare.good = true := by rw [O8.bare_good o h0, h]
  exact ⟨((U8.good_iff _).1 h1).len, h1, h0⟩
theorem progTextO (o : O8) (h : o.Small) : Ev (fun k => origin_Text.f k (ba o.sc) (ba o.ho) o.po) (ba o.text) := by
  unfold origin_Text.f O8.text
  rw [nob_ba]
  refine Ev.ite (fun c => ?_) (fun c => ?_)
  · rw [if_pos c]; exact Ev.now _
  · rw [if_neg c]
    refine Ev.bind (progGoodO o h) ?_
    rw [O8.good_one c]
    refine Ev.ite (fun d => ?_) (fun d => ?_)
    · rw [if_pos d]
      have hs := O8.one_small d
      have ht := progTextG o.bare (O8.bare_small h)
      rw [U8.textG_good hs.2.1] at ht
      refine Ev.some_bind (fun _ => progBare o) (Ev.bind ht (Ev.of_all (fun _ => ?_)))
      unfold strings_TrimSuffix.f
      rw [if_pos (by rw [ba_size']; omega), ba_data, O8.bare_text, show (⟨#[47]⟩ : ByteArray).data.toList = [47] from rfl, trimSlash]
      rfl
    · rw [if_neg d]; exact Ev.now _
theorem long_eq (o : O8) : o.long = o.sc ++ [58, 47, 47] ++ o.ho ++ portT o.bare.po := by
  unfold O8.long U8.textX
  simp [O8.bare]
theorem refTextO (o : O8) (h : o.Small) : Ev (fun k => pursuivantref08_Text.f k (ba o.sc) (ba o.ho) o.po) (ba o.text) := by
  unfold pursuivantref08_Text.f O8.text
  obtain ⟨h1, h2, h3⟩ := h
  have l1 : (⟨#[58, 47, 47]⟩ : ByteArray) = ba [58, 47, 47] := rfl
  have l2 : (⟨#[58]⟩ : ByteArray) = ba [58] := rfl
  refine Ev.some_bind (fun _ => refNob o) (Ev.ite (fun c => ?_) (fun c => ?_))
  · rw [if_pos c]; exact Ev.now _
  · rw [if_neg c]
    refine Ev.bind (refGoodO o ⟨h1, h2, h3⟩) ?_
    rw [O8.good_one c]
    refine Ev.ite (fun d => ?_) (fun d => ?_)
    · rw [if_pos d, long_eq, l1, l2, ba_app]
      have hs := O8.one_small d
      unfold O8.one at d
      rw [Bool.and_eq_true, decide_eq_true_iff] at d
      refine Ev.if_pos (by (first | omega | (simp only [ba_size', List.length_append, List.length_cons, List.length_nil]; omega) | (simp; omega) | (simp; done))) (Ev.if_pos (by (first | omega | (simp only [ba_size', List.length_append, List.length_cons, List.length_nil]; omega) | (simp; omega) | (simp; done))) (Ev.some_bind (fun _ => refDef _) (Ev.ite (fun e => ?_) (fun e => ?_))))
      · rw [ba_app, show portT o.bare.po = [] from by simp [O8.bare, portT, e], List.append_nil]
        exact Ev.now _
      · obtain ⟨n, hn⟩ : ∃ n : Nat, o.po = n := ⟨o.po.toNat, by omega⟩
        have hl := decDigits_len5 n (by omega)
        have hpo : o.bare.po = (n : Int) := by simp only [O8.bare]; rw [if_neg e, hn]
        rw [hn, hpo, portT_nat n (by omega)]
        refine Ev.bind (refDigits n (by omega)) ?_
        simp only [ba_app]
        refine Ev.if_pos (by (first | omega | (simp only [ba_size', List.length_append, List.length_cons, List.length_nil]; omega) | (simp; omega) | (simp; done))) (Ev.if_pos (by (first | omega | (simp only [ba_size', List.length_append, List.length_cons, List.length_nil]; omega) | (simp; omega) | (simp; done))) ?_)
        exact Ev.now _
    · rw [if_neg d]; exact Ev.now _
def ofU (u : U8) : O8 := if u.good = true then ⟨u.sc, u.ho, u.port⟩ else ⟨[], [], 0⟩
theorem progOf (u : U8) (h : u.Small) : Ev (fun k => origin_Of.f k (ba u.sc) (ba u.us) (ba u.ho) u.po (ba u.pa) u.hq (ba u.qu) u.hf (ba u.fr)) (ba (ofU u).sc, ba (ofU u).ho, (ofU u).po) := by
  unfold origin_Of.f ofU
  refine Ev.bind (progGood u h) (Ev.ite (fun c => ?_) (fun c => ?_))
  · rw [if_pos c]; exact Ev.some_bind (fun _ => progPortU u) (Ev.now _)
  · rw [if_neg c]; exact Ev.now _
theorem refOf (u : U8) (h : u.Small) : Ev (fun k => pursuivantref08_Of.f k (ba u.sc) (ba u.us) (ba u.ho) u.po (ba u.pa) u.hq (ba u.qu) u.hf (ba u.fr)) (ba (ofU u).sc, ba (ofU u).ho, (ofU u).po) := by
  unfold pursuivantref08_Of.f ofU
  refine Ev.bind (refGoodU u h) (Ev.ite (fun c => ?_) (fun c => ?_))
  · rw [if_pos c]; exact Ev.some_bind (fun _ => refPortU u) (Ev.now _)
  · rw [if_neg c]; exact Ev.now _
theorem ofU_small {u : U8} (h : u.good = true) : (ofU u).Small := by
  have hG := (U8.good_iff _).1 h
  have h1 := hG.small
  have h2 := hG.po
  have h3 := def8_nat u.sc
  unfold ofU
  rw [if_pos h]
  refine ⟨h1.sc, h1.ho, ?_⟩
  simp only [U8.port]
  split <;> omega
def oNone : O8 := ⟨[], [], 0⟩
def parseO (s : List UInt8) : O8 × Int := if s = null8 then (oNone, 0) else if (parse8 s).2 = 0 ∧ (ofU (parse8 s).1).text = s then (ofU (parse8 s).1, 0) else (oNone, 3)
def O8.tup (x : O8 × Int) : ByteArray × ByteArray × Int × Int := (ba x.1.sc, ba x.1.ho, x.1.po, x.2)
theorem none_small : U8.none.Small := ⟨by decide, by decide, by decide, by decide, by decide, by decide⟩
theorem progParseO (s : List UInt8) (hs : s.length ≤ 109951162) : Ev (fun k => origin_Parse.f k (ba s)) (O8.tup (parseO s)) := by
  unfold origin_Parse.f parseO
  rw [ba_list]
  refine Ev.ite (fun c => ?_) (fun c => ?_)
  · rw [if_pos (show s = null8 from c)]; exact Ev.now _
  · rw [if_neg (show ¬s = null8 from c)]
    have hp := progParse s hs
    rcases parse8_cases s with h | ⟨h1, h2, h3⟩
    · rw [h] at hp ⊢
      refine Ev.bind hp (Ev.bind (progOf U8.none none_small) (Ev.if_neg ?_ ?_))
      · simp only [U8.tup]; split <;> decide
      · rw [if_neg (fun e => by have := e.1; revert this; simp only; split <;> decide)]; exact Ev.now _
    · obtain ⟨⟨u, e⟩, hu⟩ : ∃ p, parse8 s = p := ⟨_, rfl⟩
      rw [hu] at hp h1 h2 h3 ⊢
      simp only at h1 h2 h3
      subst h1
      have hG := (U8.good_iff _).1 h2
      refine Ev.bind hp (Ev.bind (progOf u hG.small) (Ev.if_pos rfl (Ev.bind (progTextO (ofU u) (ofU_small h2)) ?_)))
      rw [ba_list]
      refine Ev.ite (fun d => ?_) (fun d => ?_)
      · rw [if_pos ⟨rfl, d⟩]; exact Ev.now _
      · rw [if_neg (fun e => d e.2)]; exact Ev.now _
theorem ofU_bare {o : O8} (h : o.one = true) : ofU o.bare = o := by
  obtain ⟨h1, h2, h3⟩ := O8.one_small h
  unfold ofU
  rw [if_pos h2]
  obtain ⟨sc, ho, po⟩ := o
  simp only [O8.bare, U8.port] at h3 ⊢
  congr 1
  split <;> omega
theorem parseO_text (o : O8) (h : o.good = true) : parseO o.text = (o, 0) := by
  unfold O8.text
  by_cases c : o.nob = true
  · rw [if_pos c]
    unfold parseO
    rw [if_pos rfl]
    unfold O8.nob at c
    have c := of_decide_eq_true c
    obtain ⟨sc, ho, po⟩ := o
    simp only at c
    rw [c.1, c.2.1, c.2.2]; rfl
  · rw [O8.good_one c] at h
    rw [if_neg c, if_pos h]
    obtain ⟨h1, h2, h3⟩ := O8.one_small h
    have hp : parse8 o.long = (o.bare, 0) := parse8_textX o.bare ((U8.good_iff _).1 h2) [] (.inr ⟨rfl, rfl⟩)
    have ht : o.text = o.long := by unfold O8.text; rw [if_neg c, if_pos h]
    have hn : o.long ≠ null8 := by
      intro e
      rw [e] at hp
      have : parse8 null8 = (U8.none, 3) := by decide +kernel
      rw [this] at hp
      exact absurd (congrArg Prod.snd hp) (show ¬(3 : Int) = 0 by decide)
    unfold parseO
    rw [if_neg hn, hp]
    simp only
    rw [ofU_bare h, if_pos ⟨trivial, ht⟩]
theorem text_inj {a b : O8} (ha : a.good = true) (hb : b.good = true) (h : a.text = b.text) : a = b := by
  have h1 := parseO_text a ha
  rw [h, parseO_text b hb] at h1
  exact (congrArg Prod.fst h1).symm
def O8.same (a b : O8) : Bool := decide (a.nob = false ∧ a.one = true ∧ a = b)
theorem O8.eq_ba (a b : O8) : (ba a.sc = ba b.sc ∧ ba a.ho = ba b.ho ∧ a.po = b.po) ↔ a = b := by
  constructor
  · rintro ⟨h1, h2, h3⟩
    obtain ⟨a1, a2, a3⟩ := a
    obtain ⟨b1, b2, b3⟩ := b
    simp only at h1 h2 h3
    rw [ba_inj h1, ba_inj h2, h3]
  · rintro rfl; exact ⟨rfl, rfl, rfl⟩
theorem progSameO (a b : O8) (h : a.Small) : Ev (fun k => origin_Same.f k (ba a.sc) (ba a.ho) a.po (ba b.sc) (ba b.ho) b.po) (a.same b) := by
  unfold origin_Same.f O8.same
  rw [nob_ba]
  refine Ev.ite (fun c => ?_) (fun c => ?_)
  · rw [decide_eq_false (fun e => by rw [c] at e; cases e.1)]; exact Ev.now _
  · have c' : a.nob = false := by simpa using c
    refine Ev.bind (progGoodO a h) ?_
    rw [O8.good_one c]
    refine Ev.ite (fun d => ?_) (fun d => ?_)
    · rw [show decide (ba a.sc = ba b.sc ∧ ba a.ho = ba b.ho ∧ a.po = b.po) = decide (a.nob = false ∧ a.one = true ∧ a = b) from by
        rw [Bool.eq_iff_iff, decide_eq_true_iff, decide_eq_true_iff, O8.eq_ba]
        exact ⟨fun e => ⟨c', d, e⟩, fun e => e.2.2⟩]
      exact Ev.now _
    · rw [decide_eq_false (fun e => d e.2.1)]; exact Ev.now _
theorem refSameO (a b : O8) (h : a.Small) : Ev (fun k => pursuivantref08_Same.f k (ba a.sc) (ba a.ho) a.po (ba b.sc) (ba b.ho) b.po) (a.same b) := by
  unfold pursuivantref08_Same.f O8.same
  refine Ev.bind (refGoodO a h) (Ev.ite (fun c => ?_) (fun c => ?_))
  · refine Ev.some_bind (fun _ => refNob a) (Ev.ite (fun d => ?_) (fun d => ?_))
    · rw [decide_eq_false (fun e => by rw [d] at e; cases e.1)]; exact Ev.now _
    · have d' : a.nob = false := by simpa using d
      rw [O8.good_one d] at c
      simp only [ba_list]
      have e0 := O8.eq_ba a b
      refine Ev.ite (fun e => ?_) (fun e => ?_)
      · refine Ev.ite (fun f => ?_) (fun f => ?_)
        · rw [show (a.po == b.po) = decide (a.nob = false ∧ a.one = true ∧ a = b) from by
            rw [Bool.eq_iff_iff, decide_eq_true_iff, beq_iff_eq]
            exact ⟨fun g => ⟨d', c, e0.1 ⟨by rw [e], by rw [f], g⟩⟩, fun g => by rw [g.2.2]⟩]
          exact Ev.now _
        · rw [decide_eq_false (fun g => f (by rw [g.2.2]))]; exact Ev.now _
      · rw [decide_eq_false (fun g => e (by rw [g.2.2]))]; exact Ev.now _
  · rw [decide_eq_false (fun e => c (by unfold O8.good; rw [e.2.1]; simp))]; exact Ev.now _
theorem same_comm (a b : O8) : a.same b = b.same a := by
  unfold O8.same
  rw [Bool.eq_iff_iff, decide_eq_true_iff, decide_eq_true_iff]
  constructor
  · rintro ⟨h1, h2, rfl⟩; exact ⟨h1, h2, rfl⟩
  · rintro ⟨h1, h2, rfl⟩; exact ⟨h1, h2, rfl⟩
def wake8a : O8 := ⟨[104, 116, 116, 112], [97], 8080⟩
theorem small8 (o : O8) (h : decide (o.sc.length ≤ 100 ∧ o.ho.length ≤ 100 ∧ 0 ≤ o.po ∧ o.po ≤ 65535) = true) : o.Small := by
  have := of_decide_eq_true h
  exact ⟨by omega, by omega, by omega⟩
theorem awake8 : Ev (fun k => pursuivantlaw08_awake.f k) true := by
  unfold pursuivantlaw08_awake.f
  have h1 := progParseO [104, 116, 116, 112, 58, 47, 47, 97, 58, 56, 48, 56, 48] (by decide)
  have p1 : parseO [104, 116, 116, 112, 58, 47, 47, 97, 58, 56, 48, 56, 48] = (wake8a, 0) := by decide +kernel
  rw [p1] at h1
  have h2 := progParseO null8 (by decide)
  have p2 : parseO null8 = (oNone, 0) := by decide +kernel
  rw [p2] at h2
  have h3 := progParseO [104, 116, 116, 112, 58, 47, 47, 97, 58, 56, 48] (by decide)
  have p3 : parseO [104, 116, 116, 112, 58, 47, 47, 97, 58, 56, 48] = (oNone, 3) := by decide +kernel
  rw [p3] at h3
  refine Ev.bind h1 (Ev.bind h2 (Ev.bind h3 (Ev.if_pos (by simp [O8.tup, wake8a]) (Ev.if_pos rfl (Ev.if_pos (by simp [O8.tup, oNone]) (Ev.if_pos rfl (Ev.if_pos rfl ?_)))))))
  have t1 := progTextO wake8a (small8 _ (by decide))
  have q1 : wake8a.text = [104, 116, 116, 112, 58, 47, 47, 97, 58, 56, 48, 56, 48] := by decide +kernel
  rw [q1] at t1
  have s1 := progSameO wake8a wake8a (small8 _ (by decide))
  have q2 : wake8a.same wake8a = true := by decide +kernel
  rw [q2] at s1
  have s2 := progSameO oNone oNone (small8 _ (by decide))
  have q3 : oNone.same oNone = false := by decide +kernel
  rw [q3] at s2
  have o1 := progOf ⟨[104, 116, 116, 112, 115], [], [97], 0, [47], false, [], false, []⟩ ⟨by decide, by decide, by decide, by decide, by decide, by decide⟩
  have q4 : ofU ⟨[104, 116, 116, 112, 115], [], [97], 0, [47], false, [], false, []⟩ = ⟨[104, 116, 116, 112, 115], [97], 443⟩ := by decide +kernel
  rw [q4] at o1
  refine Ev.bind t1 (Ev.if_pos (ba_list _) (Ev.bind s1 (Ev.if_pos rfl (Ev.bind s2 (Ev.if_neg (by decide) (Ev.bind o1 ?_))))))
  exact Ev.now _
def o8of (x : S50) : O8 := ⟨x.f0.toList, x.f1.toList, x.f2⟩
theorem originTexts_pure (x0 : S50) (x1 : S39) (hb : sz50 x0 + sz39 x1 ≤ 1048576) (hw0 : wf50 x0) (hw1 : wf39 x1) :
    ∃ k, pursuivantlaw08_OriginTexts.f k x0.f0 x0.f1 x0.f2 x1.f0 x1.f1 x1.f2 x1.f3 x1.f4 x1.f5 x1.f6 x1.f7 x1.f8 = some true := by
  have hs : (u8of x1).Small := u8of_small x1 1048576 (by omega) (by simp only [sz39] at hb; omega)
  have hw : -9223372036854775808 ≤ x0.f2 ∧ x0.f2 ≤ 9223372036854775807 := by
    have := hw0.2.2
    simp [Lit.wf] at this
    rwa [show IntKind.i64.min = -9223372036854775808 from rfl] at this
  have ho : (o8of x0).Small := ⟨by simp only [o8of, size_toList]; simp only [sz50] at hb; omega, by simp only [o8of, size_toList]; simp only [sz50] at hb; omega, hw⟩
  refine Ev.get' (?_ : Ev (fun k => pursuivantlaw08_OriginTexts.f k x0.f0 x0.f1 x0.f2 x1.f0 x1.f1 x1.f2 x1.f3 x1.f4 x1.f5 x1.f6 x1.f7 x1.f8) true)
  have g1 := progGoodO (o8of x0) ho
  have g2 := refGoodO (o8of x0) ho
  have t1 := progTextO (o8of x0) ho
  have t2 := refTextO (o8of x0) ho
  have o1 := progOf (u8of x1) hs
  have o2 := refOf (u8of x1) hs
  simp only [u8of, o8of, ba_toList] at g1 g2 t1 t2 o1 o2
  unfold pursuivantlaw08_OriginTexts.f
  refine Ev.bind awake8 (Ev.if_pos rfl (Ev.bind g1 (Ev.bind g2 (Ev.if_pos (by simp) (Ev.bind t1 (Ev.bind t2 (Ev.if_pos rfl (Ev.bind o1 (Ev.bind o2 ?_)))))))))
  simpa using Ev.now _
theorem originSame_pure (x0 x1 : S50) (hb : sz50 x0 + sz50 x1 ≤ 1048576) (hw0 : wf50 x0) (hw1 : wf50 x1) :
    ∃ k, pursuivantlaw08_OriginSame.f k x0.f0 x0.f1 x0.f2 x1.f0 x1.f1 x1.f2 = some true := by
  have hw : -9223372036854775808 ≤ x0.f2 ∧ x0.f2 ≤ 9223372036854775807 := by
    have := hw0.2.2
    simp [Lit.wf] at this
    rwa [show IntKind.i64.min = -9223372036854775808 from rfl] at this
  have hw' : -9223372036854775808 ≤ x1.f2 ∧ x1.f2 ≤ 9223372036854775807 := by
    have := hw1.2.2
    simp [Lit.wf] at this
    rwa [show IntKind.i64.min = -9223372036854775808 from rfl] at this
  have ha : (o8of x0).Small := ⟨by simp only [o8of, size_toList]; simp only [sz50] at hb; omega, by simp only [o8of, size_toList]; simp only [sz50] at hb; omega, hw⟩
  have hb : (o8of x1).Small := ⟨by simp only [o8of, size_toList]; simp only [sz50] at hb; omega, by simp only [o8of, size_toList]; simp only [sz50] at hb; omega, hw'⟩
  refine Ev.get' (?_ : Ev (fun k => pursuivantlaw08_OriginSame.f k x0.f0 x0.f1 x0.f2 x1.f0 x1.f1 x1.f2) true)
  have e0 : x0.f0 = ba (o8of x0).sc ∧ x0.f1 = ba (o8of x0).ho ∧ x0.f2 = (o8of x0).po := by simp [o8of, ba_toList]
  have e1 : x1.f0 = ba (o8of x1).sc ∧ x1.f1 = ba (o8of x1).ho ∧ x1.f2 = (o8of x1).po := by simp [o8of, ba_toList]
  rw [e0.1, e0.2.1, e0.2.2, e1.1, e1.2.1, e1.2.2]
  generalize o8of x0 = a at *
  generalize o8of x1 = b at *
  unfold pursuivantlaw08_OriginSame.f
  refine Ev.bind (progSameO a b ha) (Ev.bind (refSameO a b ha) (Ev.if_neg (by simp) (Ev.bind (progSameO a b ha) (Ev.bind (progSameO b a hb) ?_))))
  rw [same_comm b a, show (a.same b != a.same b) = false from by simp]
  have jt : ∀ a b : O8, Ev (fun k => pursuivantlaw08_OriginSame.j1 k true (ba a.sc) (ba a.ho) a.po (ba b.sc) (ba b.ho) b.po) true := by
    intro a b
    refine Ev.step (fun k => by rw [pursuivantlaw08_OriginSame.j1]) ?_
    exact Ev.if_pos rfl (Ev.bind awake8 (Ev.now _))
  refine Ev.step (fun k => by rw [pursuivantlaw08_OriginSame.j0]) ?_
  refine Ev.if_neg (by simp) (Ev.bind (progGoodO a ha) (Ev.ite (fun c => ?_) (fun c => ?_)))
  · refine Ev.bind (progGoodO b hb) ?_
    by_cases d : b.good = true
    · rw [d]
      refine Ev.step (fun k => by rw [pursuivantlaw08_OriginSame.j1]) ?_
      have hp : Ev (fun k => origin_Parse.f k (ba a.text)) (O8.tup (a, 0)) := by
        rw [← parseO_text a c]
        refine progParseO a.text ?_
        unfold O8.text
        split
        · decide
        · split
          · rename_i e
            have := O8.one_small e
            rw [O8.bare_text] at this
            simp at this
            omega
          · simp
      refine Ev.if_neg (by simp) (Ev.bind (progTextO a ha) (Ev.bind hp (Ev.bind awake8 (Ev.if_pos rfl (Ev.if_pos (by simp [O8.tup]) (Ev.if_pos rfl (Ev.bind (progTextO a ha) (Ev.bind (progTextO b hb) ?_))))))))
      simp only [ba_list]
      have : ((a.text == b.text) == (a.sc == b.sc && (a.ho == b.ho && (a.po == b.po)))) = true := by
        by_cases e : a = b
        · rw [e]; simp
        · have h1 : (a.text == b.text) = false := by simpa using fun f => e (text_inj c d f)
          have h2 : (a.sc == b.sc && (a.ho == b.ho && (a.po == b.po))) = false := by
            rw [Bool.eq_false_iff]
            intro f
            simp only [Bool.and_eq_true, beq_iff_eq] at f
            exact e ((O8.eq_ba a b).1 ⟨by rw [f.1], by rw [f.2.1], f.2.2⟩)
          rw [h1, h2]; rfl
      rw [this]
      exact Ev.now _
    · rw [show b.good = false from by simpa using d]
      exact jt a b
  · exact jt a b
end Go.Proofs.YtindkgcbglonhaaDoor.Hand
