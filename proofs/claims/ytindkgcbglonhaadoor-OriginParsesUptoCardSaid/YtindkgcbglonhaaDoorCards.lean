/-
  DERIVED. GIVEN WITH THE SEED: THE CARDS: each row of YtindkgcbglonhaaDoorRows.lean that lists a variable, with what it lists TIED to the program's text (the seventh form; the later family's looks); each row that meets fmt, with fmt's text TOLD by the authors' own Lean function (tested against real Go, not proved from fmt's source: count such statements apart). THE CARD IS WHAT COUNTS. Prove the row's statement (the work); the ties are given (YtindkgcbglonhaaDoorTie.lean); close each card by the builder's one call (the guide's Derived/Test/ToyasCard.lean, 'card_holds'). Laid BY PROGRAM, IN A SANDBOX (cutbox-door.mjs). By AI agents, Wed Nov 11 2026. No macro, syntax, notation, axiom, sorry.
-/
import Derived.Test.YtindkgcbglonhaaDoorRows
import GoSem.ClaimSeven
namespace Go.Proofs.YtindkgcbglonhaaDoor
namespace Rows

/-- THE TIED CARD OF 'pursuivantlaw05.HostGoods'. -/
def hostGoodsCard : Claim7 := { stood := { row := hostGoodsRow, standIns := [], harness := (true, "a203c465da9521cec024bfabbf1188a07531df8383244c59277f53c6f7d962eb"), looks := true }, kinds := [], alts := [], laidByText := true, laidKinds := [.data, .data, .data, .data, .sentinel, .sentinel, .pinned], laidTests := true, laidLooks := .later }
def HostGoodsCardSaid : Prop := Claim7.holds Tryd.pinned (.plain (OpenSpec.ofChange hostGoodsSpec)) hostGoodsCard

/-- THE TIED CARD OF 'pursuivantlaw05.HostPorts'. -/
def hostPortsCard : Claim7 := { stood := { row := hostPortsRow, standIns := [], harness := (true, "a203c465da9521cec024bfabbf1188a07531df8383244c59277f53c6f7d962eb"), looks := true }, kinds := [], alts := [], laidByText := true, laidKinds := [.data, .data, .data, .data, .sentinel, .sentinel, .pinned], laidTests := true, laidLooks := .later }
def HostPortsCardSaid : Prop := Claim7.holds Tryd.pinned (.plain (OpenSpec.ofChange hostPortsSpec)) hostPortsCard

/-- THE TIED CARD OF 'pursuivantlaw05.HostJoins'. -/
def hostJoinsCard : Claim7 := { stood := { row := hostJoinsRow, standIns := [], harness := (true, "a203c465da9521cec024bfabbf1188a07531df8383244c59277f53c6f7d962eb"), looks := true }, kinds := [], alts := [], laidByText := true, laidKinds := [.data, .data, .data, .data, .sentinel, .sentinel, .pinned], laidTests := true, laidLooks := .later }
def HostJoinsCardSaid : Prop := Claim7.holds Tryd.pinned (.plain (OpenSpec.ofChange hostJoinsSpec)) hostJoinsCard

/-- THE TIED CARD OF 'pursuivantlaw10.SafeMethods'. -/
def safeMethodsCard : Claim7 := { stood := { row := safeMethodsRow, standIns := [], harness := (true, "a203c465da9521cec024bfabbf1188a07531df8383244c59277f53c6f7d962eb"), looks := true }, kinds := [], alts := [], laidByText := true, laidKinds := [.data, .pinned], laidTests := true, laidLooks := .later }
def SafeMethodsCardSaid : Prop := Claim7.holds Tryd.pinned (.plain (OpenSpec.ofChange safeMethodsSpec)) safeMethodsCard

/-- THE TIED CARD OF 'pursuivantlaw10.SafeHeaders'. -/
def safeHeadersCard : Claim7 := { stood := { row := safeHeadersRow, standIns := [], harness := (true, "a203c465da9521cec024bfabbf1188a07531df8383244c59277f53c6f7d962eb"), looks := true }, kinds := [], alts := [], laidByText := true, laidKinds := [.data, .pinned], laidTests := true, laidLooks := .later }
def SafeHeadersCardSaid : Prop := Claim7.holds Tryd.pinned (.plain (OpenSpec.ofChange safeHeadersSpec)) safeHeadersCard

/-- THE TIED CARD OF 'pursuivantlaw10.SafeUnsafe'. -/
def safeUnsafeCard : Claim7 := { stood := { row := safeUnsafeRow, standIns := [], harness := (true, "a203c465da9521cec024bfabbf1188a07531df8383244c59277f53c6f7d962eb"), looks := true }, kinds := [], alts := [], laidByText := true, laidKinds := [.data, .pinned], laidTests := true, laidLooks := .later }
def SafeUnsafeCardSaid : Prop := Claim7.holds Tryd.pinned (.plain (OpenSpec.ofChange safeUnsafeSpec)) safeUnsafeCard

/-- THE TIED CARD OF 'pursuivantlaw06.UrlParses'. -/
def urlParsesCard : Claim7 := { stood := { row := urlParsesRow, standIns := [], harness := (true, "a203c465da9521cec024bfabbf1188a07531df8383244c59277f53c6f7d962eb"), looks := true }, kinds := [], alts := [], laidByText := true, laidKinds := [.data, .data, .data, .data, .sentinel, .sentinel, .pinned], laidTests := true, laidLooks := .later }
def UrlParsesCardSaid : Prop := Claim7.holds Tryd.pinned (.plain (OpenSpec.ofChange urlParsesSpec)) urlParsesCard

/-- THE TIED CARD OF 'pursuivantlaw06.UrlTexts'. -/
def urlTextsCard : Claim7 := { stood := { row := urlTextsRow, standIns := [], harness := (true, "a203c465da9521cec024bfabbf1188a07531df8383244c59277f53c6f7d962eb"), looks := true }, kinds := [], alts := [], laidByText := true, laidKinds := [.data, .data, .data, .data, .sentinel, .sentinel, .pinned], laidTests := true, laidLooks := .later }
def UrlTextsCardSaid : Prop := Claim7.holds Tryd.pinned (.plain (OpenSpec.ofChange urlTextsSpec)) urlTextsCard

/-- THE TIED CARD OF 'pursuivantlaw06.UrlRound'. -/
def urlRoundCard : Claim7 := { stood := { row := urlRoundRow, standIns := [], harness := (true, "a203c465da9521cec024bfabbf1188a07531df8383244c59277f53c6f7d962eb"), looks := true }, kinds := [], alts := [], laidByText := true, laidKinds := [.data, .data, .data, .data, .sentinel, .sentinel, .pinned], laidTests := true, laidLooks := .later }
def UrlRoundCardSaid : Prop := Claim7.holds Tryd.pinned (.plain (OpenSpec.ofChange urlRoundSpec)) urlRoundCard

/-- THE TIED CARD OF 'pursuivantlaw08.OriginTexts'. -/
def originTextsCard : Claim7 := { stood := { row := originTextsRow, standIns := [], harness := (true, "a203c465da9521cec024bfabbf1188a07531df8383244c59277f53c6f7d962eb"), looks := true }, kinds := [], alts := [], laidByText := true, laidKinds := [.data, .data, .data, .data, .sentinel, .sentinel, .pinned], laidTests := true, laidLooks := .later }
def OriginTextsCardSaid : Prop := Claim7.holds Tryd.pinned (.plain (OpenSpec.ofChange originTextsSpec)) originTextsCard

/-- THE TIED CARD OF 'pursuivantlaw08.OriginParses'. -/
def originParsesCard : Claim7 := { stood := { row := originParsesRow, standIns := [], harness := (true, "a203c465da9521cec024bfabbf1188a07531df8383244c59277f53c6f7d962eb"), looks := true }, kinds := [], alts := [], laidByText := true, laidKinds := [.data, .data, .data, .data, .sentinel, .sentinel, .pinned], laidTests := true, laidLooks := .later }
def OriginParsesCardSaid : Prop := Claim7.holds Tryd.pinned (.plain (OpenSpec.ofChange originParsesSpec)) originParsesCard

/-- THE TIED CARD OF 'pursuivantlaw08.OriginSame'. -/
def originSameCard : Claim7 := { stood := { row := originSameRow, standIns := [], harness := (true, "a203c465da9521cec024bfabbf1188a07531df8383244c59277f53c6f7d962eb"), looks := true }, kinds := [], alts := [], laidByText := true, laidKinds := [.data, .data, .data, .data, .sentinel, .sentinel, .pinned], laidTests := true, laidLooks := .later }
def OriginSameCardSaid : Prop := Claim7.holds Tryd.pinned (.plain (OpenSpec.ofChange originSameSpec)) originSameCard

/-- THE SECOND FORM's CARD OF 'pursuivantlaw05.HostGoods'. -/
def hostGoodsUptoCard : Claim7 := { stood := { row := hostGoodsUptoRow, standIns := [], harness := (true, "a203c465da9521cec024bfabbf1188a07531df8383244c59277f53c6f7d962eb"), looks := true }, kinds := [], alts := [], laidByText := true, laidKinds := [.data, .data, .data, .data, .sentinel, .sentinel, .pinned], laidTests := true, laidLooks := .later }
def HostGoodsUptoCardSaid : Prop := Claim7.holds Tryd.pinned (.plain (OpenSpec.upto hostGoodsSpec)) hostGoodsUptoCard

/-- THE SECOND FORM's CARD OF 'pursuivantlaw05.HostPorts'. -/
def hostPortsUptoCard : Claim7 := { stood := { row := hostPortsUptoRow, standIns := [], harness := (true, "a203c465da9521cec024bfabbf1188a07531df8383244c59277f53c6f7d962eb"), looks := true }, kinds := [], alts := [], laidByText := true, laidKinds := [.data, .data, .data, .data, .sentinel, .sentinel, .pinned], laidTests := true, laidLooks := .later }
def HostPortsUptoCardSaid : Prop := Claim7.holds Tryd.pinned (.plain (OpenSpec.upto hostPortsSpec)) hostPortsUptoCard

/-- THE SECOND FORM's CARD OF 'pursuivantlaw05.HostJoins'. -/
def hostJoinsUptoCard : Claim7 := { stood := { row := hostJoinsUptoRow, standIns := [], harness := (true, "a203c465da9521cec024bfabbf1188a07531df8383244c59277f53c6f7d962eb"), looks := true }, kinds := [], alts := [], laidByText := true, laidKinds := [.data, .data, .data, .data, .sentinel, .sentinel, .pinned], laidTests := true, laidLooks := .later }
def HostJoinsUptoCardSaid : Prop := Claim7.holds Tryd.pinned (.plain (OpenSpec.upto hostJoinsSpec)) hostJoinsUptoCard

/-- THE SECOND FORM's CARD OF 'pursuivantlaw10.SafeMethods'. -/
def safeMethodsUptoCard : Claim7 := { stood := { row := safeMethodsUptoRow, standIns := [], harness := (true, "a203c465da9521cec024bfabbf1188a07531df8383244c59277f53c6f7d962eb"), looks := true }, kinds := [], alts := [], laidByText := true, laidKinds := [.data, .pinned], laidTests := true, laidLooks := .later }
def SafeMethodsUptoCardSaid : Prop := Claim7.holds Tryd.pinned (.plain (OpenSpec.upto safeMethodsSpec)) safeMethodsUptoCard

/-- THE SECOND FORM's CARD OF 'pursuivantlaw10.SafeHeaders'. -/
def safeHeadersUptoCard : Claim7 := { stood := { row := safeHeadersUptoRow, standIns := [], harness := (true, "a203c465da9521cec024bfabbf1188a07531df8383244c59277f53c6f7d962eb"), looks := true }, kinds := [], alts := [], laidByText := true, laidKinds := [.data, .pinned], laidTests := true, laidLooks := .later }
def SafeHeadersUptoCardSaid : Prop := Claim7.holds Tryd.pinned (.plain (OpenSpec.upto safeHeadersSpec)) safeHeadersUptoCard

/-- THE SECOND FORM's CARD OF 'pursuivantlaw10.SafeUnsafe'. -/
def safeUnsafeUptoCard : Claim7 := { stood := { row := safeUnsafeUptoRow, standIns := [], harness := (true, "a203c465da9521cec024bfabbf1188a07531df8383244c59277f53c6f7d962eb"), looks := true }, kinds := [], alts := [], laidByText := true, laidKinds := [.data, .pinned], laidTests := true, laidLooks := .later }
def SafeUnsafeUptoCardSaid : Prop := Claim7.holds Tryd.pinned (.plain (OpenSpec.upto safeUnsafeSpec)) safeUnsafeUptoCard

/-- THE SECOND FORM's CARD OF 'pursuivantlaw06.UrlParses'. -/
def urlParsesUptoCard : Claim7 := { stood := { row := urlParsesUptoRow, standIns := [], harness := (true, "a203c465da9521cec024bfabbf1188a07531df8383244c59277f53c6f7d962eb"), looks := true }, kinds := [], alts := [], laidByText := true, laidKinds := [.data, .data, .data, .data, .sentinel, .sentinel, .pinned], laidTests := true, laidLooks := .later }
def UrlParsesUptoCardSaid : Prop := Claim7.holds Tryd.pinned (.plain (OpenSpec.upto urlParsesSpec)) urlParsesUptoCard

/-- THE SECOND FORM's CARD OF 'pursuivantlaw06.UrlTexts'. -/
def urlTextsUptoCard : Claim7 := { stood := { row := urlTextsUptoRow, standIns := [], harness := (true, "a203c465da9521cec024bfabbf1188a07531df8383244c59277f53c6f7d962eb"), looks := true }, kinds := [], alts := [], laidByText := true, laidKinds := [.data, .data, .data, .data, .sentinel, .sentinel, .pinned], laidTests := true, laidLooks := .later }
def UrlTextsUptoCardSaid : Prop := Claim7.holds Tryd.pinned (.plain (OpenSpec.upto urlTextsSpec)) urlTextsUptoCard

/-- THE SECOND FORM's CARD OF 'pursuivantlaw06.UrlRound'. -/
def urlRoundUptoCard : Claim7 := { stood := { row := urlRoundUptoRow, standIns := [], harness := (true, "a203c465da9521cec024bfabbf1188a07531df8383244c59277f53c6f7d962eb"), looks := true }, kinds := [], alts := [], laidByText := true, laidKinds := [.data, .data, .data, .data, .sentinel, .sentinel, .pinned], laidTests := true, laidLooks := .later }
def UrlRoundUptoCardSaid : Prop := Claim7.holds Tryd.pinned (.plain (OpenSpec.upto urlRoundSpec)) urlRoundUptoCard

/-- THE SECOND FORM's CARD OF 'pursuivantlaw08.OriginTexts'. -/
def originTextsUptoCard : Claim7 := { stood := { row := originTextsUptoRow, standIns := [], harness := (true, "a203c465da9521cec024bfabbf1188a07531df8383244c59277f53c6f7d962eb"), looks := true }, kinds := [], alts := [], laidByText := true, laidKinds := [.data, .data, .data, .data, .sentinel, .sentinel, .pinned], laidTests := true, laidLooks := .later }
def OriginTextsUptoCardSaid : Prop := Claim7.holds Tryd.pinned (.plain (OpenSpec.upto originTextsSpec)) originTextsUptoCard

/-- THE SECOND FORM's CARD OF 'pursuivantlaw08.OriginParses'. -/
def originParsesUptoCard : Claim7 := { stood := { row := originParsesUptoRow, standIns := [], harness := (true, "a203c465da9521cec024bfabbf1188a07531df8383244c59277f53c6f7d962eb"), looks := true }, kinds := [], alts := [], laidByText := true, laidKinds := [.data, .data, .data, .data, .sentinel, .sentinel, .pinned], laidTests := true, laidLooks := .later }
def OriginParsesUptoCardSaid : Prop := Claim7.holds Tryd.pinned (.plain (OpenSpec.upto originParsesSpec)) originParsesUptoCard

/-- THE SECOND FORM's CARD OF 'pursuivantlaw08.OriginSame'. -/
def originSameUptoCard : Claim7 := { stood := { row := originSameUptoRow, standIns := [], harness := (true, "a203c465da9521cec024bfabbf1188a07531df8383244c59277f53c6f7d962eb"), looks := true }, kinds := [], alts := [], laidByText := true, laidKinds := [.data, .data, .data, .data, .sentinel, .sentinel, .pinned], laidTests := true, laidLooks := .later }
def OriginSameUptoCardSaid : Prop := Claim7.holds Tryd.pinned (.plain (OpenSpec.upto originSameSpec)) originSameUptoCard
end Rows
end Go.Proofs.YtindkgcbglonhaaDoor
