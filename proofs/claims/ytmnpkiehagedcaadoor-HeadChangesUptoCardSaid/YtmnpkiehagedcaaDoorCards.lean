/-
  DERIVED. GIVEN WITH THE SEED: THE CARDS: each row of YtmnpkiehagedcaaDoorRows.lean that lists a variable, with what it lists TIED to the program's text (the seventh form; the later family's looks); each row that meets fmt, with fmt's text TOLD by the authors' own Lean function (tested against real Go, not proved from fmt's source: count such statements apart). THE CARD IS WHAT COUNTS. Prove the row's statement (the work); the ties are given (YtmnpkiehagedcaaDoorTie.lean); close each card by the builder's one call (the guide's Derived/Test/ToyasCard.lean, 'card_holds'). Laid BY PROGRAM, IN A SANDBOX (cutbox-door.mjs). By AI agents, Wed Nov 11 2026. No macro, syntax, notation, axiom, sorry.
-/
import Derived.Test.YtmnpkiehagedcaaDoorRows
import GoSem.ClaimSeven
namespace Go.Proofs.YtmnpkiehagedcaaDoor
namespace Rows

/-- THE TIED CARD OF 'pursuivantlaw09.HeadGoods'. -/
def headGoodsCard : Claim7 := { stood := { row := headGoodsRow, standIns := [], harness := (true, "c595a3b2c7605541392fa00d56bb23a9464c74f372580c4bc782a901c475bd4d"), looks := false }, kinds := [], alts := [], laidByText := true, laidKinds := [.data, .pinned], laidTests := true, laidLooks := .later }
def HeadGoodsCardSaid : Prop := Claim7.holds Tryd.pinned (.plain (OpenSpec.ofChange headGoodsSpec)) headGoodsCard

/-- THE TIED CARD OF 'pursuivantlaw09.HeadChanges'. -/
def headChangesCard : Claim7 := { stood := { row := headChangesRow, standIns := [], harness := (true, "c595a3b2c7605541392fa00d56bb23a9464c74f372580c4bc782a901c475bd4d"), looks := false }, kinds := [], alts := [], laidByText := true, laidKinds := [.data, .pinned], laidTests := true, laidLooks := .later }
def HeadChangesCardSaid : Prop := Claim7.holds Tryd.pinned (.plain (OpenSpec.ofChange headChangesSpec)) headChangesCard

/-- THE TIED CARD OF 'pursuivantlaw09.HeadSets'. -/
def headSetsCard : Claim7 := { stood := { row := headSetsRow, standIns := [], harness := (true, "c595a3b2c7605541392fa00d56bb23a9464c74f372580c4bc782a901c475bd4d"), looks := false }, kinds := [], alts := [], laidByText := true, laidKinds := [.data, .pinned], laidTests := true, laidLooks := .later }
def HeadSetsCardSaid : Prop := Claim7.holds Tryd.pinned (.plain (OpenSpec.ofChange headSetsSpec)) headSetsCard

/-- THE TIED CARD OF 'pursuivantlaw04.AsciiTurns'. -/
def asciiTurnsCard : Claim7 := { stood := { row := asciiTurnsRow, standIns := [], harness := (true, "c595a3b2c7605541392fa00d56bb23a9464c74f372580c4bc782a901c475bd4d"), looks := false }, kinds := [], alts := [], laidByText := true, laidKinds := [.data, .pinned], laidTests := true, laidLooks := .later }
def AsciiTurnsCardSaid : Prop := Claim7.holds Tryd.pinned (.plain (OpenSpec.ofChange asciiTurnsSpec)) asciiTurnsCard

/-- THE TIED CARD OF 'pursuivantlaw04.AsciiLists'. -/
def asciiListsCard : Claim7 := { stood := { row := asciiListsRow, standIns := [], harness := (true, "c595a3b2c7605541392fa00d56bb23a9464c74f372580c4bc782a901c475bd4d"), looks := false }, kinds := [], alts := [], laidByText := true, laidKinds := [.data, .pinned], laidTests := true, laidLooks := .later }
def AsciiListsCardSaid : Prop := Claim7.holds Tryd.pinned (.plain (OpenSpec.ofChange asciiListsSpec)) asciiListsCard

/-- THE TIED CARD OF 'pursuivantlaw04.AsciiNumbers'. -/
def asciiNumbersCard : Claim7 := { stood := { row := asciiNumbersRow, standIns := [], harness := (true, "c595a3b2c7605541392fa00d56bb23a9464c74f372580c4bc782a901c475bd4d"), looks := false }, kinds := [], alts := [], laidByText := true, laidKinds := [.data, .pinned], laidTests := true, laidLooks := .later }
def AsciiNumbersCardSaid : Prop := Claim7.holds Tryd.pinned (.plain (OpenSpec.ofChange asciiNumbersSpec)) asciiNumbersCard

/-- THE TIED CARD OF 'pursuivantlaw04.AsciiRound'. -/
def asciiRoundCard : Claim7 := { stood := { row := asciiRoundRow, standIns := [], harness := (true, "c595a3b2c7605541392fa00d56bb23a9464c74f372580c4bc782a901c475bd4d"), looks := false }, kinds := [], alts := [], laidByText := true, laidKinds := [.data, .pinned], laidTests := true, laidLooks := .later }
def AsciiRoundCardSaid : Prop := Claim7.holds Tryd.pinned (.plain (OpenSpec.ofChange asciiRoundSpec)) asciiRoundCard

/-- THE SECOND FORM's CARD OF 'pursuivantlaw09.HeadGoods'. -/
def headGoodsUptoCard : Claim7 := { stood := { row := headGoodsUptoRow, standIns := [], harness := (true, "c595a3b2c7605541392fa00d56bb23a9464c74f372580c4bc782a901c475bd4d"), looks := false }, kinds := [], alts := [], laidByText := true, laidKinds := [.data, .pinned], laidTests := true, laidLooks := .later }
def HeadGoodsUptoCardSaid : Prop := Claim7.holds Tryd.pinned (.plain (OpenSpec.upto headGoodsSpec)) headGoodsUptoCard

/-- THE SECOND FORM's CARD OF 'pursuivantlaw09.HeadChanges'. -/
def headChangesUptoCard : Claim7 := { stood := { row := headChangesUptoRow, standIns := [], harness := (true, "c595a3b2c7605541392fa00d56bb23a9464c74f372580c4bc782a901c475bd4d"), looks := false }, kinds := [], alts := [], laidByText := true, laidKinds := [.data, .pinned], laidTests := true, laidLooks := .later }
def HeadChangesUptoCardSaid : Prop := Claim7.holds Tryd.pinned (.plain (OpenSpec.upto headChangesSpec)) headChangesUptoCard

/-- THE SECOND FORM's CARD OF 'pursuivantlaw09.HeadSets'. -/
def headSetsUptoCard : Claim7 := { stood := { row := headSetsUptoRow, standIns := [], harness := (true, "c595a3b2c7605541392fa00d56bb23a9464c74f372580c4bc782a901c475bd4d"), looks := false }, kinds := [], alts := [], laidByText := true, laidKinds := [.data, .pinned], laidTests := true, laidLooks := .later }
def HeadSetsUptoCardSaid : Prop := Claim7.holds Tryd.pinned (.plain (OpenSpec.upto headSetsSpec)) headSetsUptoCard

/-- THE SECOND FORM's CARD OF 'pursuivantlaw04.AsciiTurns'. -/
def asciiTurnsUptoCard : Claim7 := { stood := { row := asciiTurnsUptoRow, standIns := [], harness := (true, "c595a3b2c7605541392fa00d56bb23a9464c74f372580c4bc782a901c475bd4d"), looks := false }, kinds := [], alts := [], laidByText := true, laidKinds := [.data, .pinned], laidTests := true, laidLooks := .later }
def AsciiTurnsUptoCardSaid : Prop := Claim7.holds Tryd.pinned (.plain (OpenSpec.upto asciiTurnsSpec)) asciiTurnsUptoCard

/-- THE SECOND FORM's CARD OF 'pursuivantlaw04.AsciiLists'. -/
def asciiListsUptoCard : Claim7 := { stood := { row := asciiListsUptoRow, standIns := [], harness := (true, "c595a3b2c7605541392fa00d56bb23a9464c74f372580c4bc782a901c475bd4d"), looks := false }, kinds := [], alts := [], laidByText := true, laidKinds := [.data, .pinned], laidTests := true, laidLooks := .later }
def AsciiListsUptoCardSaid : Prop := Claim7.holds Tryd.pinned (.plain (OpenSpec.upto asciiListsSpec)) asciiListsUptoCard

/-- THE SECOND FORM's CARD OF 'pursuivantlaw04.AsciiNumbers'. -/
def asciiNumbersUptoCard : Claim7 := { stood := { row := asciiNumbersUptoRow, standIns := [], harness := (true, "c595a3b2c7605541392fa00d56bb23a9464c74f372580c4bc782a901c475bd4d"), looks := false }, kinds := [], alts := [], laidByText := true, laidKinds := [.data, .pinned], laidTests := true, laidLooks := .later }
def AsciiNumbersUptoCardSaid : Prop := Claim7.holds Tryd.pinned (.plain (OpenSpec.upto asciiNumbersSpec)) asciiNumbersUptoCard

/-- THE SECOND FORM's CARD OF 'pursuivantlaw04.AsciiRound'. -/
def asciiRoundUptoCard : Claim7 := { stood := { row := asciiRoundUptoRow, standIns := [], harness := (true, "c595a3b2c7605541392fa00d56bb23a9464c74f372580c4bc782a901c475bd4d"), looks := false }, kinds := [], alts := [], laidByText := true, laidKinds := [.data, .pinned], laidTests := true, laidLooks := .later }
def AsciiRoundUptoCardSaid : Prop := Claim7.holds Tryd.pinned (.plain (OpenSpec.upto asciiRoundSpec)) asciiRoundUptoCard
end Rows
end Go.Proofs.YtmnpkiehagedcaaDoor
