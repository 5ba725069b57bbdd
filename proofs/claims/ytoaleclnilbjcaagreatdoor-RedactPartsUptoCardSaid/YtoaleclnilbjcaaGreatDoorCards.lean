/-
  DERIVED. GIVEN WITH THE SEED: THE CARDS: each row of YtoaleclnilbjcaaGreatDoorRows.lean that lists a variable, with what it lists TIED to the program's text (the seventh form; the later family's looks); each row that meets fmt, with fmt's text TOLD by the authors' own Lean function (tested against real Go, not proved from fmt's source: count such statements apart). THE CARD IS WHAT COUNTS. Prove the row's statement (the work); the ties are given (YtoaleclnilbjcaaGreatDoorTie.lean); close each card by the builder's one call (the guide's Derived/Test/ToyasCard.lean, 'card_holds'). Laid BY PROGRAM, IN A SANDBOX (cutbox-door.mjs). By AI agents, Wed Nov 11 2026. No macro, syntax, notation, axiom, sorry.
-/
import Derived.Test.YtoaleclnilbjcaaGreatDoorRows
import GoSem.ClaimSeven
namespace Go.Proofs.YtoaleclnilbjcaaGreatDoor
namespace Rows

/-- THE TIED CARD OF 'pursuivantlaw27.RedactRedacts'. -/
def redactRedactsCard : Claim7 := { stood := { row := redactRedactsRow, standIns := [], harness := (true, "896fd3868c514834fd22b2734ff38a5dc5955749cb2c095e8dc918299351a880"), looks := false }, kinds := [], alts := [], laidByText := true, laidKinds := [.data, .data, .data, .data, .pinned], laidTests := true, laidLooks := .later }
def RedactRedactsCardSaid : Prop := Claim7.holds Tryz.pinned (.plain (OpenSpec.ofChange redactRedactsSpec)) redactRedactsCard

/-- THE TIED CARD OF 'pursuivantlaw27.RedactTwice'. -/
def redactTwiceCard : Claim7 := { stood := { row := redactTwiceRow, standIns := [], harness := (true, "896fd3868c514834fd22b2734ff38a5dc5955749cb2c095e8dc918299351a880"), looks := false }, kinds := [], alts := [], laidByText := true, laidKinds := [.data, .data, .data, .data, .pinned], laidTests := true, laidLooks := .later }
def RedactTwiceCardSaid : Prop := Claim7.holds Tryz.pinned (.plain (OpenSpec.ofChange redactTwiceSpec)) redactTwiceCard

/-- THE TIED CARD OF 'pursuivantlaw27.RedactParts'. -/
def redactPartsCard : Claim7 := { stood := { row := redactPartsRow, standIns := [], harness := (true, "896fd3868c514834fd22b2734ff38a5dc5955749cb2c095e8dc918299351a880"), looks := false }, kinds := [], alts := [], laidByText := true, laidKinds := [.data, .data, .data, .data, .pinned], laidTests := true, laidLooks := .later }
def RedactPartsCardSaid : Prop := Claim7.holds Tryz.pinned (.plain (OpenSpec.ofChange redactPartsSpec)) redactPartsCard

/-- THE SECOND FORM's CARD OF 'pursuivantlaw27.RedactRedacts'. -/
def redactRedactsUptoCard : Claim7 := { stood := { row := redactRedactsUptoRow, standIns := [], harness := (true, "896fd3868c514834fd22b2734ff38a5dc5955749cb2c095e8dc918299351a880"), looks := false }, kinds := [], alts := [], laidByText := true, laidKinds := [.data, .data, .data, .data, .pinned], laidTests := true, laidLooks := .later }
def RedactRedactsUptoCardSaid : Prop := Claim7.holds Tryz.pinned (.plain (OpenSpec.upto redactRedactsSpec)) redactRedactsUptoCard

/-- THE SECOND FORM's CARD OF 'pursuivantlaw27.RedactTwice'. -/
def redactTwiceUptoCard : Claim7 := { stood := { row := redactTwiceUptoRow, standIns := [], harness := (true, "896fd3868c514834fd22b2734ff38a5dc5955749cb2c095e8dc918299351a880"), looks := false }, kinds := [], alts := [], laidByText := true, laidKinds := [.data, .data, .data, .data, .pinned], laidTests := true, laidLooks := .later }
def RedactTwiceUptoCardSaid : Prop := Claim7.holds Tryz.pinned (.plain (OpenSpec.upto redactTwiceSpec)) redactTwiceUptoCard

/-- THE SECOND FORM's CARD OF 'pursuivantlaw27.RedactParts'. -/
def redactPartsUptoCard : Claim7 := { stood := { row := redactPartsUptoRow, standIns := [], harness := (true, "896fd3868c514834fd22b2734ff38a5dc5955749cb2c095e8dc918299351a880"), looks := false }, kinds := [], alts := [], laidByText := true, laidKinds := [.data, .data, .data, .data, .pinned], laidTests := true, laidLooks := .later }
def RedactPartsUptoCardSaid : Prop := Claim7.holds Tryz.pinned (.plain (OpenSpec.upto redactPartsSpec)) redactPartsUptoCard
end Rows
end Go.Proofs.YtoaleclnilbjcaaGreatDoor
