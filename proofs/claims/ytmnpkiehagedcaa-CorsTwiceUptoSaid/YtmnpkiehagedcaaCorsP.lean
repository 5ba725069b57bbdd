/- The plain law of CorsChecks: what the program's functions compute is what the reference's compute. Condition: names and values of at most 2^40 bytes together. -/
import Derived.Test.YtmnpkiehagedcaaFB1
import Derived.Test.YtmnpkiehagedcaaOpens
namespace Go.Proofs.Ytmnpkiehagedcaa.Hand
open Go.RowKit Go.Proofs.YtmnpkiehagedcaaW.PrintWords Go.Proofs.YtmnpkiehagedcaaW.PrintLast Go.Proofs.YtmnpkiehagedcaaW.PrintMore
set_option linter.unusedVariables false
set_option linter.unusedSimpArgs false

theorem wrap_succ (i n : Nat) (h : i < n) (hn : n ≤ 9223372036854775807) : wrap64 ((i : Int) + 1) = ((i + 1 : Nat) : Int) := by
  unfold wrap64; omega
theorem bytes_take_succ (s : ByteArray) (i : Nat) (h : i < s.size) : (bytesOf s).take (i + 1) = (bytesOf s).take i ++ [bt s i] := by
  have hl : i < (bytesOf s).length := by rw [bytesOf_length]; exact h
  rw [List.take_succ_eq_append_getElem hl]
  have h1 := rd_bytesOf s i
  unfold rd at h1
  rw [← h1, Int.toNat_natCast, List.getD_eq_getElem?_getD, List.getElem?_eq_getElem hl]
  rfl
theorem bytes_take_all (s : ByteArray) : (bytesOf s).take s.size = bytesOf s := List.take_of_length_le (by rw [bytesOf_length]; omega)

theorem refLower_loop (s : ByteArray) (hs : s.size ≤ 1099511627776) : ∀ (d k i : Nat), s.size - i = d → i ≤ s.size → d < k →
    pursuivantref04_Lower.l0 k s (((bytesOf s).take i).map (turnC 65 90 32)) (i : Int) = some (lowBA s) := by
  intro d
  induction d with
  | zero =>
    intro k i hd hi hk
    obtain ⟨k, rfl⟩ : ∃ m, k = m + 1 := ⟨k - 1, by omega⟩
    obtain rfl : i = s.size := by omega
    simp only [pursuivantref04_Lower.l0]
    rw [if_neg (by omega), bytes_take_all]
    rfl
  | succ d ih =>
    intro k i hd hi hk
    obtain ⟨k, rfl⟩ : ∃ m, k = m + 1 := ⟨k - 1, by omega⟩
    have hlt : i < s.size := by omega
    have hlen : (((bytesOf s).take i).map (turnC 65 90 32)).length < 140737488355328 := by
      rw [List.length_map, List.length_take, bytesOf_length]; omega
    have hn := ih k (i + 1) (by omega) (by omega) (by omega)
    rw [bytes_take_succ s i hlt, List.map_append, List.map_cons, List.map_nil] at hn
    simp only [pursuivantref04_Lower.l0]
    rw [if_pos (by omega), if_pos (by omega), wrap_succ i s.size hlt (by omega)]
    generalize ((bytesOf s).take i).map (turnC 65 90 32) = pre at *
    by_cases h1 : bt s i ≥ 65
    · rw [if_pos h1]
      by_cases h2 : bt s i ≤ 90
      · rw [if_pos h2, if_pos hlen]
        rw [show turnC 65 90 32 (bt s i) = (bt s i + 32) % 256 from if_pos ⟨h1, h2⟩] at hn
        exact hn
      · rw [if_neg h2, if_pos hlen]
        rw [show turnC 65 90 32 (bt s i) = bt s i from if_neg (fun h => h2 h.2)] at hn
        exact hn
    · rw [if_neg h1, if_pos hlen]
      rw [show turnC 65 90 32 (bt s i) = bt s i from if_neg (fun h => h1 h.1)] at hn
      exact hn
theorem refLower (s : ByteArray) (hs : s.size ≤ 1099511627776) (k : Nat) (hk : s.size < k) : pursuivantref04_Lower.f k s = some (lowBA s) := by
  have := refLower_loop s hs s.size k 0 (by omega) (by omega) hk
  simpa [pursuivantref04_Lower.f] using this
theorem refAlike (a b : ByteArray) (ha : a.size ≤ 1099511627776) (hb : b.size ≤ 1099511627776) (k : Nat) (hka : a.size < k) (hkb : b.size < k) :
    pursuivantref09_Alike.f k a b = some ((lowBA a).toList == (lowBA b).toList) := by
  unfold pursuivantref09_Alike.f
  rw [refLower a ha k hka, refLower b hb k hkb]
  rfl

theorem join_snoc (xs : List (List UInt8)) (x sep : List UInt8) : Lib.join (xs ++ [x]) sep = if xs = [] then x else Lib.join xs sep ++ sep ++ x := by
  cases xs with
  | nil => simp [Lib.join_one]
  | cons y r => rw [List.cons_append, Lib.join_cons, Lib.join_cons, if_neg (by simp)]; simp [Lib.joinTail]
theorem ba_append (a b : List UInt8) : (⟨a.toArray⟩ : ByteArray) ++ ⟨b.toArray⟩ = ⟨(a ++ b).toArray⟩ := by
  apply ByteArray.ext
  simp
theorem ba_mk (s : ByteArray) : (⟨s.data.toList.toArray⟩ : ByteArray) = s := by simp
theorem ba_size (l : List UInt8) : (⟨l.toArray⟩ : ByteArray).size = l.length := by simp [ByteArray.size]

def getBA (nm : ByteArray) (l : List S27) : ByteArray := ⟨(Lib.join ((getV nm l).map (·.data.toList)) [44, 32]).toArray⟩

theorem refGet_loop (l : List S27) (nm : ByteArray) (hs : hdrSum l + nm.size ≤ 1099511627776) : ∀ (d k i : Nat), l.length - i = d → i ≤ l.length → d + 1099511627776 < k →
    pursuivantref09_Get.l0 k l nm (getBA nm (l.take i)) (decide (0 < (getV nm (l.take i)).length)) (i : Int) = some (getBA nm l, decide (0 < (getV nm l).length)) := by
  have hlen := hdrSum_length l
  intro d
  induction d with
  | zero =>
    intro k i hd hi hk
    obtain ⟨k, rfl⟩ : ∃ m, k = m + 1 := ⟨k - 1, by omega⟩
    obtain rfl : i = l.length := by omega
    simp only [pursuivantref09_Get.l0]
    rw [if_neg (by omega), List.take_length]
  | succ d ih =>
    intro k i hd hi hk
    obtain ⟨k, rfl⟩ : ∃ m, k = m + 1 := ⟨k - 1, by omega⟩
    have hlt : i < l.length := by omega
    have hn := ih k (i + 1) (by omega) (by omega) (by omega)
    have hm := hdrSum_mem (rd_mem hlt)
    have hJ := getV_join nm (l.take i)
    have hJ2 := hdrSum_take l i
    have hbs : (getBA nm (l.take i)).size = (Lib.join ((getV nm (l.take i)).map (·.data.toList)) [44, 32]).length := by unfold getBA; rw [ba_size]
    simp only [pursuivantref09_Get.l0]
    rw [if_pos (by omega), if_pos (by omega), refAlike _ _ (by omega) (by omega) k (by omega) (by omega), wrap_succ i l.length hlt (by omega)]
    simp only [Option.bind_some]
    rw [getV_snoc nm l i hlt] at hn
    by_cases hq : ((lowBA (rd_T27 l i).f0).toList == (lowBA nm).toList) = true
    · rw [if_pos hq]
      unfold getBA at hn ⊢
      rw [getV_snoc nm l i hlt] at hn
      rw [if_pos hq] at hn
      rw [List.map_append, List.map_cons, List.map_nil, join_snoc] at hn
      rw [show decide (0 < (getV nm (l.take i) ++ [(rd_T27 l i).f1]).length) = true from by simp] at hn
      by_cases h0 : getV nm (l.take i) = []
      · rw [h0] at hn ⊢
        rw [if_neg (by simp), if_pos (by rw [ba_size, List.map_nil, Lib.join_nil, List.length_nil]; omega)]
        rw [if_pos (by simp)] at hn
        rw [← hn]
        congr 1
      · have hpos : decide (0 < (getV nm (l.take i)).length) = true := decide_eq_true (List.length_pos_iff.2 h0)
        rw [if_pos hpos, if_pos (by rw [ba_size]; omega), if_pos (by rw [show (⟨#[44, 32]⟩ : ByteArray) = ⟨([44, 32] : List UInt8).toArray⟩ from rfl, ba_append, ba_size, List.length_append]; simp only [List.length_cons, List.length_nil]; omega)]
        rw [if_neg (by simpa using h0)] at hn
        rw [← hn]
        congr 1
    · rw [if_neg hq]
      unfold getBA at hn ⊢
      rw [getV_snoc nm l i hlt] at hn
      rw [if_neg hq] at hn
      exact hn
theorem refGet (l : List S27) (nm : ByteArray) (hs : hdrSum l + nm.size ≤ 1099511627776) (k : Nat) (hk : 2199023255552 ≤ k) :
    pursuivantref09_Get.f k l nm = some (getBA nm l, decide (0 < (getV nm l).length)) := by
  have hlen := hdrSum_length l
  have := refGet_loop l nm hs l.length k 0 (by omega) (by omega) (by omega)
  simpa [pursuivantref09_Get.f, getBA, getV, Lib.join_nil] using this
theorem progGet (l : List S27) (nm : ByteArray) (hs : hdrSum l + nm.size ≤ 1099511627776) : head_Get.f l nm = some (getBA nm l, decide (0 < (getV nm l).length)) := by
  unfold head_Get.f
  rw [if_pos hs]; rfl

theorem check_same (l : List S27) (a1 : ByteArray) (a2 : Int) (hs : hdrSum l ≤ 1099511627000) : ∃ k r, cors_Check.f l a1 a2 = some r ∧ pursuivantref13_Check.f k l a1 a2 = some r := by
  refine ⟨2199023255553, ?_⟩
  unfold cors_Check.f pursuivantref13_Check.f
  rw [progGet _ _ (by simp [ByteArray.size]; omega), progGet _ _ (by simp [ByteArray.size]; omega), refGet _ _ (by simp [ByteArray.size]; omega) _ (by omega)]
  simp only [Option.bind_some]
  simp only [pursuivantref13_Check.j0]
  rw [refGet _ _ (by simp [ByteArray.size]; omega) _ (by omega)]
  simp only [Option.bind_some]
  generalize decide (0 < (getV _ l).length) = b
  generalize getBA _ l = g
  generalize getBA _ l = h
  by_cases hb : b = true
  · rw [if_pos hb, if_pos hb]
    by_cases h3 : a2 = 3
    · subst h3
      simp only [if_true]
      by_cases he : g.toList = a1.toList
      · refine ⟨_, if_pos he, ?_⟩
        simp [he]
      · refine ⟨_, if_neg he, ?_⟩
        simp [he]
    · rw [if_neg h3]
      have hne : (a2 != 3) = true := by simpa using h3
      rw [hne]
      by_cases hs : g.toList = [42]
      · exact ⟨true, if_pos hs, by simp [hs]⟩
      · refine ⟨_, if_neg hs, ?_⟩
        by_cases he : g.toList = a1.toList <;> simp [hs, he, h3]
  · rw [if_neg hb, if_neg hb]; exact ⟨_, rfl, rfl⟩
theorem awake_true : pursuivantlaw13_awake.f = some true := by decide +kernel
end Go.Proofs.Ytmnpkiehagedcaa.Hand
