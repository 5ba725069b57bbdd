/- Sources: for which URLs one stands, over lists of bytes; the fixed fact of the laws. Conditions: at most 2^26 bytes a part. -/
import Derived.Test.YtfibkgmbgdaeoaaDoorSrcI
import Derived.Test.YtfibkgmbgdaeoaaDoorHostL
import Derived.Test.YtfibkgmbgdaeoaaDoorFTX1
namespace Go.Proofs.YtfibkgmbgdaeoaaDoor.Hand
open Go.RowKit Go.Proofs.YtfibkgmbgdaeoaaDoorW.PrintWords Go.Proofs.YtfibkgmbgdaeoaaDoorW.PrintLast Go.Proofs.YtfibkgmbgdaeoaaDoorW.PrintMore
set_option linter.unusedVariables false
set_option linter.unusedSimpArgs false

abbrev http8 : List UInt8 := [104, 116, 116, 112]
abbrev https8 : List UInt8 := [104, 116, 116, 112, 115]
def goes8 (a b : List UInt8) : Bool := decide (a = b ∨ a = http8 ∧ b = https8)
def own8 (u : U8) (o : O8) : Bool := (ofU u).same o || decide ((ofU u).ho = o.ho ∧ o.sc = http8 ∧ u.sc = https8 ∧ o.po = 80 ∧ (ofU u).po = 443)
def Src8.there (x : Src8) (u : U8) : Bool := if x.sub = true then under8 u.ho x.ho else decide (u.ho = x.ho)
def Src8.port (x : Src8) (u : U8) : Bool := decide (x.po = -1 ∨ x.po = u.port ∨ x.po = 0 ∧ u.port = def8 u.sc ∨ x.po = 80 ∧ u.port = 443 ∧ u.sc = https8)
def Src8.path (x : Src8) (u : U8) : Bool := if Lib.hasSuffix x.pa [47] = true then Lib.hasPrefix u.pa x.pa else decide (u.pa = x.pa)
def Src8.match8 (x : Src8) (u : U8) (o : O8) (mv : Bool) : Bool :=
 if x.ki = 2 then true else if x.ki = 5 then false else if x.ki = 3 then goes8 x.sc u.sc else if x.ki = 1 then own8 u o else
 goes8 (if x.sc = [] then o.sc else x.sc) u.sc && (x.there u && (x.port u && (mv || (decide (x.pa = []) || x.path u))))
structure U8.Sm (u : U8) : Prop where
 sc : u.sc.length ≤ 109951162
 us : u.us.length ≤ 109951162
 ho : u.ho.length ≤ 109951162
 pa : u.pa.length ≤ 109951162
 qu : u.qu.length ≤ 109951162
 fr : u.fr.length ≤ 109951162
theorem U8.Sm.small {u : U8} (h : u.Sm) : u.Small := ⟨by have := h.sc; omega, by have := h.us; omega, by have := h.ho; omega, by have := h.pa; omega, by have := h.qu; omega, by have := h.fr; omega⟩
theorem goesP (a b : List UInt8) : source_goes.f (ba a) (ba b) = some (goes8 a b) := by
 unfold source_goes.f goes8
 simp only [ba_list]
 by_cases h : a = b
 ·rw [if_pos h, decide_eq_true (.inl h)]
 ·rw [if_neg h]
  by_cases g : a = http8
  ·rw [if_pos g]
   congr 1
   rw [Bool.eq_iff_iff, beq_iff_eq, decide_eq_true_iff]
   exact ⟨fun e => .inr ⟨g, e⟩, fun e => (e.resolve_left h).2⟩
  ·rw [if_neg g, decide_eq_false (fun e => by rcases e with e | e; exact h e; exact g e.1)]
theorem ba_eq (a b : List UInt8) : (ba a = ba b) ↔ a = b := ⟨ba_inj, fun h => by rw [h]⟩
theorem ofU_len {u : U8} (h : u.Sm) : (ofU u).Small := by
 by_cases g : u.good = true
 ·exact ofU_small g
 ·unfold ofU
  rw [if_neg g]
  exact ⟨by simp, by simp, by simp⟩
theorem ownP (u : U8) (o : O8) (hu : u.Sm) : Ev (fun k => source_own.f k (ba u.sc) (ba u.us) (ba u.ho) u.po (ba u.pa) u.hq (ba u.qu) u.hf (ba u.fr) (ba o.sc) (ba o.ho) o.po) (own8 u o) := by
 unfold source_own.f own8
 refine Ev.bind (progOf u hu.small) (Ev.bind (progSameO (ofU u) o (ofU_len hu)) ?_)
 rw [show (⟨#[104, 116, 116, 112]⟩ : ByteArray) = ba http8 from rfl, show (⟨#[104, 116, 116, 112, 115]⟩ : ByteArray) = ba https8 from rfl]
 simp only [ba_eq]
 exact Ev.now _
theorem portP (x : Src8) (u : U8) : Ev (fun k => source_port.f k x.ki (ba x.sc) x.sub (ba x.ho) x.po (ba x.pa) (ba x.no) (ba u.sc) (ba u.us) (ba u.ho) u.po (ba u.pa) u.hq (ba u.qu) u.hf (ba u.fr)) (x.port u) := by
 have j0 : ∀ (b : Bool), b = decide (x.po = -1 ∨ x.po = u.port) → Ev (fun k => source_port.j0 k u.port x.po b (ba u.sc) (ba u.us) (ba u.ho) u.po (ba u.pa) u.hq (ba u.qu) u.hf (ba u.fr)) (x.port u) := by
  rintro b rfl
  unfold Src8.port
  refine Ev.step (fun k => by rw [source_port.j0]) ?_
  by_cases c : x.po = -1 ∨ x.po = u.port
  ·refine Ev.if_pos (by rw [decide_eq_true c]) ?_
   rw [decide_eq_true (by rcases c with c | c; exact .inl c; exact .inr (.inl c))]
   exact Ev.now _
  ·refine Ev.if_neg (by rw [decide_eq_false c]; simp) ?_
   have hred : decide (x.po = -1 ∨ x.po = u.port ∨ x.po = 0 ∧ u.port = def8 u.sc ∨ x.po = 80 ∧ u.port = 443 ∧ u.sc = https8) = decide (x.po = 0 ∧ u.port = def8 u.sc ∨ x.po = 80 ∧ u.port = 443 ∧ u.sc = https8) := by
    rw [Bool.eq_iff_iff, decide_eq_true_iff, decide_eq_true_iff]
    exact ⟨fun e => by rcases e with e | e | e; exact absurd (.inl e) c; exact absurd (.inr e) c; exact e, fun e => .inr (.inr e)⟩
   rw [hred]
   refine Ev.ite (fun d => ?_) (fun d => ?_)
   ·refine Ev.some_bind (fun _ => progDef u.sc) ?_
    rw [show (u.port == def8 u.sc) = decide (x.po = 0 ∧ u.port = def8 u.sc ∨ x.po = 80 ∧ u.port = 443 ∧ u.sc = https8) from by
     rw [Bool.eq_iff_iff, beq_iff_eq, decide_eq_true_iff]
     exact ⟨fun e => .inl ⟨d, e⟩, fun e => by rcases e with e | e; exact e.2; exact absurd (e.1.symm.trans d) (by decide)⟩]
    exact Ev.now _
   ·refine Ev.ite (fun e => Ev.ite (fun f => ?_) (fun f => ?_)) (fun e => ?_)
    ·rw [ba_list, show (u.sc == https8) = decide (x.po = 0 ∧ u.port = def8 u.sc ∨ x.po = 80 ∧ u.port = 443 ∧ u.sc = https8) from by
      rw [Bool.eq_iff_iff, beq_iff_eq, decide_eq_true_iff]
      exact ⟨fun g => .inr ⟨e, f, g⟩, fun g => by rcases g with g | g; exact absurd g.1 d; exact g.2.2⟩]
     exact Ev.now _
    ·rw [decide_eq_false (fun g => by rcases g with g | g; exact d g.1; exact f g.2.1)]; exact Ev.now _
    ·rw [decide_eq_false (fun g => by rcases g with g | g; exact d g.1; exact e g.1)]; exact Ev.now _
 unfold source_port.f
 refine Ev.some_bind (fun _ => progPortU u) (Ev.ite (fun c => j0 _ ?_) (fun c => j0 _ ?_))
 ·rw [Bool.eq_iff_iff, beq_iff_eq, decide_eq_true_iff]; exact ⟨fun e => .inl e, fun _ => c⟩
 ·rw [Bool.eq_iff_iff, beq_iff_eq, decide_eq_true_iff]; exact ⟨fun e => .inr e, fun e => e.resolve_left c⟩
theorem pathP (x : Src8) (u : U8) (hx : x.pa.length ≤ 1099511627776) : source_path.f x.ki (ba x.sc) x.sub (ba x.ho) x.po (ba x.pa) (ba x.no) (ba u.sc) (ba u.us) (ba u.ho) u.po (ba u.pa) u.hq (ba u.qu) u.hf (ba u.fr) = some (x.path u) := by
 unfold source_path.f Src8.path strings_HasSuffix.f strings_HasPrefix.f
 rw [if_pos (by rw [ba_size']; omega), show (⟨#[47]⟩ : ByteArray) = ba [47] from rfl]
 simp only [ba_data, ba_list, Option.bind_some]
 by_cases c : Lib.hasSuffix x.pa [47] = true
 ·rw [if_pos c, if_pos c]
 ·rw [if_neg c, if_neg c]
  congr 1
  rw [Bool.eq_iff_iff, beq_iff_eq, decide_eq_true_iff]
theorem matchP (x : Src8) (u : U8) (o : O8) (mv : Bool) (hx : x.Small) (hu : u.Sm) :
  Ev (fun k => source_Match.f k x.ki (ba x.sc) x.sub (ba x.ho) x.po (ba x.pa) (ba x.no) (ba u.sc) (ba u.us) (ba u.ho) u.po (ba u.pa) u.hq (ba u.qu) u.hf (ba u.fr) (ba o.sc) (ba o.ho) o.po mv) (x.match8 u o mv) := by
 unfold source_Match.f Src8.match8
 refine Ev.ite (fun c => ?_) (fun c => ?_)
 ·rw [if_pos c]; exact Ev.now _
 rw [if_neg c]
 refine Ev.ite (fun c => ?_) (fun c => ?_)
 ·rw [if_pos c]; exact Ev.now _
 rw [if_neg c]
 refine Ev.ite (fun c => ?_) (fun c => ?_)
 ·rw [if_pos c, goesP]; exact Ev.now _
 rw [if_neg c]
 refine Ev.ite (fun c => ?_) (fun c => ?_)
 ·rw [if_pos c]; exact ownP u o hu
 rw [if_neg c]
 have hT : Ev (fun k => srcThere k x.sub (ba x.ho) (ba u.ho)) (x.there u) := by
  unfold srcThere Src8.there
  refine Ev.ite (fun d => ?_) (fun d => ?_)
  ·rw [if_pos d]; exact progUnder u.ho x.ho (by have := hu.ho; omega) (by have := hx.ho; omega)
  ·rw [if_neg d]
   simp only [ba_list]
   rw [show (u.ho == x.ho) = decide (u.ho = x.ho) from by rw [Bool.eq_iff_iff, beq_iff_eq, decide_eq_true_iff]]
   exact Ev.now _
 have hS : (if (ba x.sc).toList = [] then ba o.sc else ba x.sc) = ba (if x.sc = [] then o.sc else x.sc) := by
  rw [ba_list]; split <;> rfl
 rw [hS]
 refine Ev.bind hT (Ev.some_bind (fun _ => goesP _ _) (Ev.ite (fun d => ?_) (fun d => ?_)))
 ·rw [d, Bool.true_and]
  refine Ev.ite (fun e => ?_) (fun e => ?_)
  ·rw [e, Bool.true_and]
   refine Ev.bind (portP x u) (Ev.ite (fun f => ?_) (fun f => ?_))
   ·rw [f, Bool.true_and]
    refine Ev.ite (fun g => ?_) (fun g => ?_)
    ·rw [g, Bool.true_or]; exact Ev.now _
    ·rw [show mv = false from by simpa using g, Bool.false_or, ba_list]
     refine Ev.ite (fun i => ?_) (fun i => ?_)
     ·rw [decide_eq_true i, Bool.true_or]; exact Ev.now _
     ·rw [decide_eq_false i, Bool.false_or, pathP x u (by have := hx.pa; omega)]; exact Ev.now _
   ·rw [show x.port u = false from by simpa using f, Bool.false_and]; exact Ev.now _
  ·rw [show x.there u = false from by simpa using e, Bool.false_and]; exact Ev.now _
 ·rw [show goes8 (if x.sc = [] then o.sc else x.sc) u.sc = false from by simpa using d, Bool.false_and]; exact Ev.now _
def wake11 : List UInt8 := [72, 84, 84, 80, 83, 58, 47, 47, 42, 46, 69, 120, 97, 109, 112, 108, 101, 58, 42, 47, 97, 47]
def wake11x : Src8 := ⟨4, https8, true, [101, 120, 97, 109, 112, 108, 101], -1, [47, 97, 47], []⟩
def wake11u : U8 := ⟨https8, [], [97, 46, 101, 120, 97, 109, 112, 108, 101], 8, [47, 97, 47, 98], false, [], false, []⟩
theorem wake11_parse : parse11 wake11 = (wake11x, true) := by decide +kernel
theorem wake11_no : parse11 [39, 117, 110, 115, 97, 102, 101, 45, 105, 110, 108, 105, 110, 101, 39] = (Src8.no_, false) := by decide +kernel
theorem wake11_text : wake11x.text = [104, 116, 116, 112, 115, 58, 47, 47, 42, 46, 101, 120, 97, 109, 112, 108, 101, 58, 42, 47, 97, 47] := by decide +kernel
theorem wake11_good : wake11x.good = true := by decide +kernel
theorem wake11_match : wake11x.match8 wake11u ⟨[], [], 0⟩ false = true := by decide +kernel
theorem wake11_small : wake11x.Small := ⟨by decide, by decide, by decide, by decide, by decide⟩
theorem wake11_sm : wake11u.Sm := ⟨by decide, by decide, by decide, by decide, by decide, by decide⟩
theorem awake11 : Ev (fun k => pursuivantlaw11_awake.f k) true := by
 unfold pursuivantlaw11_awake.f
 have h1 := progParse11 wake11 (by decide)
 rw [wake11_parse] at h1
 have h2 := progParse11 [39, 117, 110, 115, 97, 102, 101, 45, 105, 110, 108, 105, 110, 101, 39] (by decide)
 rw [wake11_no] at h2
 refine Ev.bind h1 (Ev.bind h2 (Ev.if_pos rfl (Ev.if_neg (by decide) ?_)))
 refine Ev.bind (progTextS wake11x wake11_small) ?_
 rw [wake11_text]
 refine Ev.if_pos (by rw [ba_list]) ?_
 have h3 := matchP wake11x wake11u ⟨[], [], 0⟩ false wake11_small wake11_sm
 rw [wake11_match] at h3
 refine Ev.bind h3 (Ev.if_pos rfl ?_)
 have h4 := progGoodS wake11x wake11_small
 rw [wake11_good] at h4
 exact Ev.bind h4 (Ev.now _)
def short11 (l : List UInt8) : List UInt8 := l.take 1100
theorem shortP (l : List UInt8) (h : l.length ≤ 1099511627776) : pursuivantlaw11_short.f (ba l) = some (ba (short11 l)) := by
 unfold pursuivantlaw11_short.f short11
 rw [ba_size']
 by_cases c : (l.length : Int) > 1100
 ·rw [if_pos c, if_pos (by omega), if_pos (by omega), ba_extract]
  rfl
 ·rw [if_neg c, List.take_of_length_le (by omega)]
theorem short11_len (l : List UInt8) : (short11 l).length ≤ 1100 := by unfold short11; rw [List.length_take]; omega
end Go.Proofs.YtfibkgmbgdaeoaaDoor.Hand
