/-
  DERIVED. GIVEN WITH THE SEED: THE CARDS: each row of YteemgpciheheoaaGreatDoorRRRRows.lean that lists a variable, with what it lists TIED to the program's text (the seventh form; the later family's looks); each row that meets fmt, with fmt's text TOLD by the authors' own Lean function (tested against real Go, not proved from fmt's source: count such statements apart). THE CARD IS WHAT COUNTS. Prove the row's statement (the work); the ties are given (YteemgpciheheoaaGreatDoorRRRTie.lean); close each card by the builder's one call (the guide's Derived/Test/ToyasCard.lean, 'card_holds'). Laid BY PROGRAM, IN A SANDBOX (cutbox-door.mjs). By AI agents, Wed Nov 11 2026. No macro, syntax, notation, axiom, sorry.
-/
import Derived.Test.YteemgpciheheoaaGreatDoorRRRRows
import GoSem.ClaimSeven
namespace Go.Proofs.YteemgpciheheoaaGreatDoorRRR
namespace Rows

/-- THE TIED CARD OF 'pursuivantlaw11.SourceParses'. -/
def sourceParsesCard : Claim7 := { stood := { row := sourceParsesRow, standIns := [], harness := (true, "8471b6e31bed0ea6f3f9c9781c2af594e4611a1f51c60000e24ba1d6c0495782"), looks := true }, kinds := [], alts := [], laidByText := true, laidKinds := [.data, .data, .data, .data, .sentinel, .sentinel, .pinned], laidTests := true, laidLooks := .later }
def SourceParsesCardSaid : Prop := Claim7.holds Tryz.pinned (.plain (OpenSpec.ofChange sourceParsesSpec)) sourceParsesCard

/-- THE TIED CARD OF 'pursuivantlaw11.SourceMatches'. -/
def sourceMatchesCard : Claim7 := { stood := { row := sourceMatchesRow, standIns := [], harness := (true, "8471b6e31bed0ea6f3f9c9781c2af594e4611a1f51c60000e24ba1d6c0495782"), looks := true }, kinds := [], alts := [], laidByText := true, laidKinds := [.data, .data, .data, .data, .sentinel, .sentinel, .pinned], laidTests := true, laidLooks := .later }
def SourceMatchesCardSaid : Prop := Claim7.holds Tryz.pinned (.plain (OpenSpec.ofChange sourceMatchesSpec)) sourceMatchesCard

/-- THE TIED CARD OF 'pursuivantlaw11.SourceRound'. -/
def sourceRoundCard : Claim7 := { stood := { row := sourceRoundRow, standIns := [], harness := (true, "8471b6e31bed0ea6f3f9c9781c2af594e4611a1f51c60000e24ba1d6c0495782"), looks := true }, kinds := [], alts := [], laidByText := true, laidKinds := [.data, .data, .data, .data, .sentinel, .sentinel, .pinned], laidTests := true, laidLooks := .later }
def SourceRoundCardSaid : Prop := Claim7.holds Tryz.pinned (.plain (OpenSpec.ofChange sourceRoundSpec)) sourceRoundCard

/-- THE TIED CARD OF 'pursuivantlaw14.PreAsks'. -/
def preAsksCard : Claim7 := { stood := { row := preAsksRow, standIns := [], harness := (true, "8471b6e31bed0ea6f3f9c9781c2af594e4611a1f51c60000e24ba1d6c0495782"), looks := true }, kinds := [], alts := [], laidByText := true, laidKinds := [.data, .pinned], laidTests := true, laidLooks := .later }
def PreAsksCardSaid : Prop := Claim7.holds Tryz.pinned (.plain (OpenSpec.ofChange preAsksSpec)) preAsksCard

/-- THE TIED CARD OF 'pursuivantlaw14.PreReads'. -/
def preReadsCard : Claim7 := { stood := { row := preReadsRow, standIns := [], harness := (true, "8471b6e31bed0ea6f3f9c9781c2af594e4611a1f51c60000e24ba1d6c0495782"), looks := true }, kinds := [], alts := [], laidByText := true, laidKinds := [.data, .pinned], laidTests := true, laidLooks := .later }
def PreReadsCardSaid : Prop := Claim7.holds Tryz.pinned (.plain (OpenSpec.ofChange preReadsSpec)) preReadsCard

/-- THE TIED CARD OF 'pursuivantlaw14.PreMore'. -/
def preMoreCard : Claim7 := { stood := { row := preMoreRow, standIns := [], harness := (true, "8471b6e31bed0ea6f3f9c9781c2af594e4611a1f51c60000e24ba1d6c0495782"), looks := true }, kinds := [], alts := [], laidByText := true, laidKinds := [.data, .pinned], laidTests := true, laidLooks := .later }
def PreMoreCardSaid : Prop := Claim7.holds Tryz.pinned (.plain (OpenSpec.ofChange preMoreSpec)) preMoreCard

/-- THE SECOND FORM's CARD OF 'pursuivantlaw11.SourceParses'. -/
def sourceParsesUptoCard : Claim7 := { stood := { row := sourceParsesUptoRow, standIns := [], harness := (true, "8471b6e31bed0ea6f3f9c9781c2af594e4611a1f51c60000e24ba1d6c0495782"), looks := true }, kinds := [], alts := [], laidByText := true, laidKinds := [.data, .data, .data, .data, .sentinel, .sentinel, .pinned], laidTests := true, laidLooks := .later }
def SourceParsesUptoCardSaid : Prop := Claim7.holds Tryz.pinned (.plain (OpenSpec.upto sourceParsesSpec)) sourceParsesUptoCard

/-- THE SECOND FORM's CARD OF 'pursuivantlaw11.SourceMatches'. -/
def sourceMatchesUptoCard : Claim7 := { stood := { row := sourceMatchesUptoRow, standIns := [], harness := (true, "8471b6e31bed0ea6f3f9c9781c2af594e4611a1f51c60000e24ba1d6c0495782"), looks := true }, kinds := [], alts := [], laidByText := true, laidKinds := [.data, .data, .data, .data, .sentinel, .sentinel, .pinned], laidTests := true, laidLooks := .later }
def SourceMatchesUptoCardSaid : Prop := Claim7.holds Tryz.pinned (.plain (OpenSpec.upto sourceMatchesSpec)) sourceMatchesUptoCard

/-- THE SECOND FORM's CARD OF 'pursuivantlaw11.SourceRound'. -/
def sourceRoundUptoCard : Claim7 := { stood := { row := sourceRoundUptoRow, standIns := [], harness := (true, "8471b6e31bed0ea6f3f9c9781c2af594e4611a1f51c60000e24ba1d6c0495782"), looks := true }, kinds := [], alts := [], laidByText := true, laidKinds := [.data, .data, .data, .data, .sentinel, .sentinel, .pinned], laidTests := true, laidLooks := .later }
def SourceRoundUptoCardSaid : Prop := Claim7.holds Tryz.pinned (.plain (OpenSpec.upto sourceRoundSpec)) sourceRoundUptoCard

/-- THE SECOND FORM's CARD OF 'pursuivantlaw14.PreAsks'. -/
def preAsksUptoCard : Claim7 := { stood := { row := preAsksUptoRow, standIns := [], harness := (true, "8471b6e31bed0ea6f3f9c9781c2af594e4611a1f51c60000e24ba1d6c0495782"), looks := true }, kinds := [], alts := [], laidByText := true, laidKinds := [.data, .pinned], laidTests := true, laidLooks := .later }
def PreAsksUptoCardSaid : Prop := Claim7.holds Tryz.pinned (.plain (OpenSpec.upto preAsksSpec)) preAsksUptoCard

/-- THE SECOND FORM's CARD OF 'pursuivantlaw14.PreReads'. -/
def preReadsUptoCard : Claim7 := { stood := { row := preReadsUptoRow, standIns := [], harness := (true, "8471b6e31bed0ea6f3f9c9781c2af594e4611a1f51c60000e24ba1d6c0495782"), looks := true }, kinds := [], alts := [], laidByText := true, laidKinds := [.data, .pinned], laidTests := true, laidLooks := .later }
def PreReadsUptoCardSaid : Prop := Claim7.holds Tryz.pinned (.plain (OpenSpec.upto preReadsSpec)) preReadsUptoCard

/-- THE SECOND FORM's CARD OF 'pursuivantlaw14.PreMore'. -/
def preMoreUptoCard : Claim7 := { stood := { row := preMoreUptoRow, standIns := [], harness := (true, "8471b6e31bed0ea6f3f9c9781c2af594e4611a1f51c60000e24ba1d6c0495782"), looks := true }, kinds := [], alts := [], laidByText := true, laidKinds := [.data, .pinned], laidTests := true, laidLooks := .later }
def PreMoreUptoCardSaid : Prop := Claim7.holds Tryz.pinned (.plain (OpenSpec.upto preMoreSpec)) preMoreUptoCard
end Rows
end Go.Proofs.YteemgpciheheoaaGreatDoorRRR
