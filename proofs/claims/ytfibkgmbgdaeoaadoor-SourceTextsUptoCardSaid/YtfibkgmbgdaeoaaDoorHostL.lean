/- The plain laws of host. -/
import Derived.Test.YtfibkgmbgdaeoaaDoorFS2
import Derived.Test.YtfibkgmbgdaeoaaDoorHostF
import Derived.Test.YtfibkgmbgdaeoaaDoorCut
import Derived.Test.YtfibkgmbgdaeoaaDoorOriginS
namespace Go.Proofs.YtfibkgmbgdaeoaaDoor.Hand
open Go.RowKit Go.Proofs.YtfibkgmbgdaeoaaDoorW.PrintWords Go.Proofs.YtfibkgmbgdaeoaaDoorW.PrintLast Go.Proofs.YtfibkgmbgdaeoaaDoorW.PrintMore
set_option linter.unusedVariables false
set_option linter.unusedSimpArgs false

def under8 (s t : List UInt8) : Bool := host8 s && host8 t && Lib.hasSuffix s (46 :: t)
theorem progUnder (s t : List UInt8) (hs : s.length ≤ 1099511627776) (ht : t.length ≤ 1099511627776) : Ev (fun k => host_Under.f k (ba s) (ba t)) (under8 s t) := by
 unfold host_Under.f under8
 refine Ev.bind (progHost s hs) ?_
 by_cases h1 : host8 s = true
 ·refine Ev.if_pos h1 (Ev.bind (progHost t ht) ?_)
  by_cases h2 : host8 t = true
  ·refine Ev.if_pos h2 (Ev.if_pos (by (first | omega | (simp only [ba_size', List.length_append, List.length_cons, List.length_nil]; omega) | (simp; omega) | (simp; done))) ?_)
   rw [show ((⟨#[46]⟩ : ByteArray) ++ ba t) = ba (46 :: t) from ba_app [46] t]
   unfold strings_HasSuffix.f
   rw [if_pos (by (first | omega | (simp only [ba_size', List.length_append, List.length_cons, List.length_nil]; omega) | (simp; omega) | (simp; done))), ba_data, ba_data, h1, h2]
   simpa using Ev.now _
  ·refine Ev.if_neg h2 ?_
   rw [show host8 t = false from by simpa using h2]
   simpa using Ev.now _
 ·refine Ev.if_neg h1 ?_
  rw [show host8 s = false from by simpa using h1]
  simpa using Ev.now _
end Go.Proofs.YtfibkgmbgdaeoaaDoor.Hand
