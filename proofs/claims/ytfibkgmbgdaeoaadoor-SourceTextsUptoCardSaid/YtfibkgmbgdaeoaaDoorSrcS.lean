/- Sources over lists of bytes: which may be, their texts, the source of a word; the round trip. No condition. -/
import Derived.Test.YtfibkgmbgdaeoaaDoorUrlQ
import Derived.Test.YtfibkgmbgdaeoaaDoorOriginS
namespace Go.Proofs.YtfibkgmbgdaeoaaDoor.Hand
open Go.RowKit Go.Proofs.YtfibkgmbgdaeoaaDoorW.PrintWords Go.Proofs.YtfibkgmbgdaeoaaDoorW.PrintLast Go.Proofs.YtfibkgmbgdaeoaaDoorW.PrintMore
set_option linter.unusedVariables false
set_option linter.unusedSimpArgs false

structure Src8 where
 (ki : Int) (sc : List UInt8) (sub : Bool) (ho : List UInt8) (po : Int) (pa no : List UInt8)
deriving DecidableEq
def nonceC (c : UInt8) : Bool := decide ((48 ≤ c.toNat ∧ c.toNat ≤ 57) ∨ (65 ≤ c.toNat ∧ c.toNat ≤ 90) ∨ (97 ≤ c.toNat ∧ c.toNat ≤ 122)) || [43, 47, 95, 45, 61].contains c
def nonce11 (l : List UInt8) : Bool := l.all nonceC && decide (l ≠ [])
def path11 (l : List UInt8) : Bool := decide (l.head? = some 47) && l.all (ok8 bad1)
def Src8.host (x : Src8) : Bool := decide (x.sc = [] ∨ def8 x.sc ≠ 0) && (host8 x.ho && (decide (-1 ≤ x.po ∧ x.po ≤ 65535) && ((decide (x.pa = []) || path11 x.pa) && decide (x.no = []))))
def Src8.good (x : Src8) : Bool :=
 if x.ki = 1 ∨ x.ki = 2 then decide (x = ⟨x.ki, [], false, [], 0, [], []⟩)
 else if x.ki = 3 then decide (x = ⟨3, x.sc, false, [], 0, [], []⟩) && decide (def8 x.sc ≠ 0)
 else if x.ki = 5 then decide (x = ⟨5, [], false, [], 0, [], x.no⟩) && nonce11 x.no
 else if x.ki = 4 then x.host else false
def portS (po : Int) : List UInt8 := if po = -1 then [58, 42] else if po > 0 then 58 :: Lib.itoa po else []
def Src8.long (x : Src8) : List UInt8 := (if x.sc = [] then [] else x.sc ++ [58, 47, 47]) ++ (if x.sub = true then [42, 46] else []) ++ x.ho ++ portS x.po ++ x.pa
abbrev self11 : List UInt8 := [39, 115, 101, 108, 102, 39]
abbrev nonceP : List UInt8 := [39, 110, 111, 110, 99, 101, 45]
def Src8.text (x : Src8) : List UInt8 := if x.good = true then (if x.ki = 1 then self11 else if x.ki = 2 then [42] else if x.ki = 3 then x.sc ++ [58] else if x.ki = 5 then nonceP ++ x.no ++ [39] else x.long) else []
def Src8.no_ : Src8 := ⟨0, [], false, [], 0, [], []⟩
def scut (s : List UInt8) : List UInt8 × List UInt8 := if (Lib.cut s [58, 47, 47]).2.2 = true ∧ def8 ((Lib.cut s [58, 47, 47]).1.map low8) ≠ 0 then ((Lib.cut s [58, 47, 47]).1.map low8, (Lib.cut s [58, 47, 47]).2.1) else ([], s)
def port11 (b : Bool) (l : List UInt8) : Option Int := if b = true then (if l = [42] then some (-1) else if (port8 l).2 = true then some (port8 l).1 else none) else some 0
def sub11 (l : List UInt8) : List UInt8 × Bool := if [42, 46].isPrefixOf l = true then (l.drop 2, true) else (l, false)
def hosted8 (s : List UInt8) : Src8 × Bool :=
 match port11 (Lib.cut (til [47] (scut s).2) [58]).2.2 (Lib.cut (til [47] (scut s).2) [58]).2.1 with
 | none => (Src8.no_, false)
 | some p => if (Src8.mk 4 (scut s).1 (sub11 ((Lib.cut (til [47] (scut s).2) [58]).1.map low8)).2 (sub11 ((Lib.cut (til [47] (scut s).2) [58]).1.map low8)).1 p (aft [47] (scut s).2) []).good = true
  then (Src8.mk 4 (scut s).1 (sub11 ((Lib.cut (til [47] (scut s).2) [58]).1.map low8)).2 (sub11 ((Lib.cut (til [47] (scut s).2) [58]).1.map low8)).1 p (aft [47] (scut s).2) [], true) else (Src8.no_, false)
def parse11 (s : List UInt8) : Src8 × Bool :=
 if s.map low8 = self11 then (⟨1, [], false, [], 0, [], []⟩, true)
 else if s = [42] then (⟨2, [], false, [], 0, [], []⟩, true)
 else if s.map low8 = [104, 116, 116, 112, 58] ∨ s.map low8 = [104, 116, 116, 112, 115, 58] then (⟨3, (s.map low8).dropLast, false, [], 0, [], []⟩, true)
 else if nonceP.isPrefixOf (s.map low8) = true then
  (if (s.drop 7).getLast? = some 39 ∧ nonce11 (s.drop 7).dropLast = true then (⟨5, [], false, [], 0, [], (s.drop 7).dropLast⟩, true) else (Src8.no_, false))
 else hosted8 s

def Src8.pre (x : Src8) : List UInt8 := (if x.sub = true then [42, 46] else []) ++ x.ho
def Src8.rest (x : Src8) : List UInt8 := x.pre ++ portS x.po ++ x.pa
end Go.Proofs.YtfibkgmbgdaeoaaDoor.Hand
