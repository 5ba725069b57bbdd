/-
  DERIVED. GIVEN WITH THE SEED: THE CARDS: each row of YtfibkgmbgdaeoaaDoorRows.lean that lists a variable, with what it lists TIED to the program's text (the seventh form; the later family's looks); each row that meets fmt, with fmt's text TOLD by the authors' own Lean function (tested against real Go, not proved from fmt's source: count such statements apart). THE CARD IS WHAT COUNTS. Prove the row's statement (the work); the ties are given (YtfibkgmbgdaeoaaDoorTie.lean); close each card by the builder's one call (the guide's Derived/Test/ToyasCard.lean, 'card_holds'). Laid BY PROGRAM, IN A SANDBOX (cutbox-door.mjs). By AI agents, Wed Nov 11 2026. No macro, syntax, notation, axiom, sorry.
-/
import Derived.Test.YtfibkgmbgdaeoaaDoorRows
import GoSem.ClaimSeven
namespace Go.Proofs.YtfibkgmbgdaeoaaDoor
namespace Rows

/-- THE TIED CARD OF 'pursuivantlaw11.SourceTexts'. -/
def sourceTextsCard : Claim7 := { stood := { row := sourceTextsRow, standIns := [], harness := (true, "96fd781a0e3b081bb128a9c1edaeea50e3f6a7dde276174157658639067b7450"), looks := true }, kinds := [], alts := [], laidByText := true, laidKinds := [.data, .data, .data, .data, .sentinel, .sentinel, .pinned], laidTests := true, laidLooks := .later }
def SourceTextsCardSaid : Prop := Claim7.holds Tryd.pinned (.plain (OpenSpec.ofChange sourceTextsSpec)) sourceTextsCard

/-- THE SECOND FORM's CARD OF 'pursuivantlaw11.SourceTexts'. -/
def sourceTextsUptoCard : Claim7 := { stood := { row := sourceTextsUptoRow, standIns := [], harness := (true, "96fd781a0e3b081bb128a9c1edaeea50e3f6a7dde276174157658639067b7450"), looks := true }, kinds := [], alts := [], laidByText := true, laidKinds := [.data, .data, .data, .data, .sentinel, .sentinel, .pinned], laidTests := true, laidLooks := .later }
def SourceTextsUptoCardSaid : Prop := Claim7.holds Tryd.pinned (.plain (OpenSpec.upto sourceTextsSpec)) sourceTextsUptoCard
end Rows
end Go.Proofs.YtfibkgmbgdaeoaaDoor
