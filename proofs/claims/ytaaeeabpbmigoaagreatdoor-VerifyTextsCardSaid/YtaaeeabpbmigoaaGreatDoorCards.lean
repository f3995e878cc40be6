/-
  DERIVED. GIVEN WITH THE SEED: THE CARDS: each row of YtaaeeabpbmigoaaGreatDoorRows.lean that lists a variable, with what it lists TIED to the program's text (the seventh form; the later family's looks); each row that meets fmt, with fmt's text TOLD by the authors' own Lean function (tested against real Go, not proved from fmt's source: count such statements apart). THE CARD IS WHAT COUNTS. Prove the row's statement (the work); the ties are given (YtaaeeabpbmigoaaGreatDoorTie.lean); close each card by the builder's one call (the guide's Derived/Test/ToyasCard.lean, 'card_holds'). Laid BY PROGRAM, IN A SANDBOX (cutbox-door.mjs). By AI agents, Wed Nov 11 2026. No macro, syntax, notation, axiom, sorry.
-/
import Derived.Test.YtaaeeabpbmigoaaGreatDoorRows
import GoSem.ClaimSeven
namespace Go.Proofs.YtaaeeabpbmigoaaGreatDoor
namespace Rows

/-- THE TIED CARD OF 'tsblocklaw21.QueryFilters'. -/
def queryFiltersCard : Claim7 := { stood := { row := queryFiltersRow, standIns := [], harness := (true, "e3a4f09d885368300cba5177a6e638f2ce5891b0cb7d797910c9fd19d53a6750"), looks := true }, kinds := [], alts := [], laidByText := true, laidKinds := [.data, .data, .data], laidTests := true, laidLooks := .later }
def QueryFiltersCardSaid : Prop := Claim7.holds Tryz.pinned (.plain (OpenSpec.ofChange queryFiltersSpec)) queryFiltersCard

/-- THE TIED CARD OF 'tsblocklaw21.QuerySelects'. -/
def querySelectsCard : Claim7 := { stood := { row := querySelectsRow, standIns := [], harness := (true, "e3a4f09d885368300cba5177a6e638f2ce5891b0cb7d797910c9fd19d53a6750"), looks := true }, kinds := [], alts := [], laidByText := true, laidKinds := [.data, .data, .data], laidTests := true, laidLooks := .later }
def QuerySelectsCardSaid : Prop := Claim7.holds Tryz.pinned (.plain (OpenSpec.ofChange querySelectsSpec)) querySelectsCard

/-- THE TIED CARD OF 'tsblocklaw21.QueryOpens'. -/
def queryOpensCard : Claim7 := { stood := { row := queryOpensRow, standIns := [], harness := (true, "e3a4f09d885368300cba5177a6e638f2ce5891b0cb7d797910c9fd19d53a6750"), looks := true }, kinds := [], alts := [], laidByText := true, laidKinds := [.data, .data, .data], laidTests := true, laidLooks := .later }
def QueryOpensCardSaid : Prop := Claim7.holds Tryz.pinned (.plain (OpenSpec.ofChange queryOpensSpec)) queryOpensCard

/-- THE TIED CARD OF 'tsblocklaw21.QuerySplits'. -/
def querySplitsCard : Claim7 := { stood := { row := querySplitsRow, standIns := [], harness := (true, "e3a4f09d885368300cba5177a6e638f2ce5891b0cb7d797910c9fd19d53a6750"), looks := true }, kinds := [], alts := [], laidByText := true, laidKinds := [.data, .data, .data], laidTests := true, laidLooks := .later }
def QuerySplitsCardSaid : Prop := Claim7.holds Tryz.pinned (.plain (OpenSpec.ofChange querySplitsSpec)) querySplitsCard

/-- THE TIED CARD OF 'tsblocklaw21.QueryValues'. -/
def queryValuesCard : Claim7 := { stood := { row := queryValuesRow, standIns := [], harness := (true, "e3a4f09d885368300cba5177a6e638f2ce5891b0cb7d797910c9fd19d53a6750"), looks := true }, kinds := [], alts := [], laidByText := true, laidKinds := [.data, .data, .data], laidTests := true, laidLooks := .later }
def QueryValuesCardSaid : Prop := Claim7.holds Tryz.pinned (.plain (OpenSpec.ofChange queryValuesSpec)) queryValuesCard

/-- THE TIED CARD OF 'tsblocklaw20.VerifyReports'. -/
def verifyReportsCard : Claim7 := { stood := { row := verifyReportsRow, standIns := [], harness := (true, "e3a4f09d885368300cba5177a6e638f2ce5891b0cb7d797910c9fd19d53a6750"), looks := true }, kinds := [], alts := [], laidByText := true, laidKinds := [.data, .data, .handle, .data], laidTests := true, laidLooks := .later }
def VerifyReportsCardSaid : Prop := Claim7.holds Tryz.pinned (.plain (OpenSpec.ofChange verifyReportsSpec)) verifyReportsCard

/-- THE TIED CARD OF 'tsblocklaw20.VerifyTexts'. -/
def verifyTextsCard : Claim7 := { stood := { row := verifyTextsRow, standIns := [], harness := (true, "e3a4f09d885368300cba5177a6e638f2ce5891b0cb7d797910c9fd19d53a6750"), looks := true }, kinds := [], alts := [], laidByText := true, laidKinds := [.data, .data, .data, .data, .handle, .data, .data], laidTests := true, laidLooks := .later }
def VerifyTextsCardSaid : Prop := Claim7.holds Tryz.pinned (.plain (OpenSpec.ofChange verifyTextsSpec)) verifyTextsCard

/-- THE TIED CARD OF 'tsblocklaw20.VerifyAccepts'. -/
def verifyAcceptsCard : Claim7 := { stood := { row := verifyAcceptsRow, standIns := [], harness := (true, "e3a4f09d885368300cba5177a6e638f2ce5891b0cb7d797910c9fd19d53a6750"), looks := true }, kinds := [], alts := [], laidByText := true, laidKinds := [.data, .data, .handle, .data], laidTests := true, laidLooks := .later }
def VerifyAcceptsCardSaid : Prop := Claim7.holds Tryz.pinned (.plain (OpenSpec.ofChange verifyAcceptsSpec)) verifyAcceptsCard

/-- THE TIED CARD OF 'tsblocklaw20.VerifyFindsDamage'. -/
def verifyFindsDamageCard : Claim7 := { stood := { row := verifyFindsDamageRow, standIns := [], harness := (true, "e3a4f09d885368300cba5177a6e638f2ce5891b0cb7d797910c9fd19d53a6750"), looks := true }, kinds := [], alts := [], laidByText := true, laidKinds := [.data, .data, .handle, .data], laidTests := true, laidLooks := .later }
def VerifyFindsDamageCardSaid : Prop := Claim7.holds Tryz.pinned (.plain (OpenSpec.ofChange verifyFindsDamageSpec)) verifyFindsDamageCard

/-- THE TIED CARD OF 'tsblocklaw20.VerifyClasses'. -/
def verifyClassesCard : Claim7 := { stood := { row := verifyClassesRow, standIns := [], harness := (true, "e3a4f09d885368300cba5177a6e638f2ce5891b0cb7d797910c9fd19d53a6750"), looks := true }, kinds := [], alts := [], laidByText := true, laidKinds := [.data, .data, .handle, .data], laidTests := true, laidLooks := .later }
def VerifyClassesCardSaid : Prop := Claim7.holds Tryz.pinned (.plain (OpenSpec.ofChange verifyClassesSpec)) verifyClassesCard

/-- THE TIED CARD OF 'tsblocklaw20.VerifyChecks'. -/
def verifyChecksCard : Claim7 := { stood := { row := verifyChecksRow, standIns := [], harness := (true, "e3a4f09d885368300cba5177a6e638f2ce5891b0cb7d797910c9fd19d53a6750"), looks := true }, kinds := [], alts := [], laidByText := true, laidKinds := [.data, .data, .handle, .data], laidTests := true, laidLooks := .later }
def VerifyChecksCardSaid : Prop := Claim7.holds Tryz.pinned (.plain (OpenSpec.ofChange verifyChecksSpec)) verifyChecksCard

/-- THE TIED CARD OF 'tsblocklaw18.DecodeChunks'. -/
def decodeChunksCard : Claim7 := { stood := { row := decodeChunksRow, standIns := [], harness := (true, "e3a4f09d885368300cba5177a6e638f2ce5891b0cb7d797910c9fd19d53a6750"), looks := true }, kinds := [], alts := [], laidByText := true, laidKinds := [.data, .data, .data], laidTests := true, laidLooks := .later }
def DecodeChunksCardSaid : Prop := Claim7.holds Tryz.pinned (.plain (OpenSpec.ofChange decodeChunksSpec)) decodeChunksCard

/-- THE SECOND FORM's CARD OF 'tsblocklaw21.QueryFilters'. -/
def queryFiltersUptoCard : Claim7 := { stood := { row := queryFiltersUptoRow, standIns := [], harness := (true, "e3a4f09d885368300cba5177a6e638f2ce5891b0cb7d797910c9fd19d53a6750"), looks := true }, kinds := [], alts := [], laidByText := true, laidKinds := [.data, .data, .data], laidTests := true, laidLooks := .later }
def QueryFiltersUptoCardSaid : Prop := Claim7.holds Tryz.pinned (.plain (OpenSpec.upto queryFiltersSpec)) queryFiltersUptoCard

/-- THE SECOND FORM's CARD OF 'tsblocklaw21.QuerySelects'. -/
def querySelectsUptoCard : Claim7 := { stood := { row := querySelectsUptoRow, standIns := [], harness := (true, "e3a4f09d885368300cba5177a6e638f2ce5891b0cb7d797910c9fd19d53a6750"), looks := true }, kinds := [], alts := [], laidByText := true, laidKinds := [.data, .data, .data], laidTests := true, laidLooks := .later }
def QuerySelectsUptoCardSaid : Prop := Claim7.holds Tryz.pinned (.plain (OpenSpec.upto querySelectsSpec)) querySelectsUptoCard

/-- THE SECOND FORM's CARD OF 'tsblocklaw21.QueryOpens'. -/
def queryOpensUptoCard : Claim7 := { stood := { row := queryOpensUptoRow, standIns := [], harness := (true, "e3a4f09d885368300cba5177a6e638f2ce5891b0cb7d797910c9fd19d53a6750"), looks := true }, kinds := [], alts := [], laidByText := true, laidKinds := [.data, .data, .data], laidTests := true, laidLooks := .later }
def QueryOpensUptoCardSaid : Prop := Claim7.holds Tryz.pinned (.plain (OpenSpec.upto queryOpensSpec)) queryOpensUptoCard

/-- THE SECOND FORM's CARD OF 'tsblocklaw21.QuerySplits'. -/
def querySplitsUptoCard : Claim7 := { stood := { row := querySplitsUptoRow, standIns := [], harness := (true, "e3a4f09d885368300cba5177a6e638f2ce5891b0cb7d797910c9fd19d53a6750"), looks := true }, kinds := [], alts := [], laidByText := true, laidKinds := [.data, .data, .data], laidTests := true, laidLooks := .later }
def QuerySplitsUptoCardSaid : Prop := Claim7.holds Tryz.pinned (.plain (OpenSpec.upto querySplitsSpec)) querySplitsUptoCard

/-- THE SECOND FORM's CARD OF 'tsblocklaw21.QueryValues'. -/
def queryValuesUptoCard : Claim7 := { stood := { row := queryValuesUptoRow, standIns := [], harness := (true, "e3a4f09d885368300cba5177a6e638f2ce5891b0cb7d797910c9fd19d53a6750"), looks := true }, kinds := [], alts := [], laidByText := true, laidKinds := [.data, .data, .data], laidTests := true, laidLooks := .later }
def QueryValuesUptoCardSaid : Prop := Claim7.holds Tryz.pinned (.plain (OpenSpec.upto queryValuesSpec)) queryValuesUptoCard

/-- THE SECOND FORM's CARD OF 'tsblocklaw20.VerifyReports'. -/
def verifyReportsUptoCard : Claim7 := { stood := { row := verifyReportsUptoRow, standIns := [], harness := (true, "e3a4f09d885368300cba5177a6e638f2ce5891b0cb7d797910c9fd19d53a6750"), looks := true }, kinds := [], alts := [], laidByText := true, laidKinds := [.data, .data, .handle, .data], laidTests := true, laidLooks := .later }
def VerifyReportsUptoCardSaid : Prop := Claim7.holds Tryz.pinned (.plain (OpenSpec.upto verifyReportsSpec)) verifyReportsUptoCard

/-- THE SECOND FORM's CARD OF 'tsblocklaw20.VerifyTexts'. -/
def verifyTextsUptoCard : Claim7 := { stood := { row := verifyTextsUptoRow, standIns := [], harness := (true, "e3a4f09d885368300cba5177a6e638f2ce5891b0cb7d797910c9fd19d53a6750"), looks := true }, kinds := [], alts := [], laidByText := true, laidKinds := [.data, .data, .data, .data, .handle, .data, .data], laidTests := true, laidLooks := .later }
def VerifyTextsUptoCardSaid : Prop := Claim7.holds Tryz.pinned (.plain (OpenSpec.upto verifyTextsSpec)) verifyTextsUptoCard

/-- THE SECOND FORM's CARD OF 'tsblocklaw20.VerifyAccepts'. -/
def verifyAcceptsUptoCard : Claim7 := { stood := { row := verifyAcceptsUptoRow, standIns := [], harness := (true, "e3a4f09d885368300cba5177a6e638f2ce5891b0cb7d797910c9fd19d53a6750"), looks := true }, kinds := [], alts := [], laidByText := true, laidKinds := [.data, .data, .handle, .data], laidTests := true, laidLooks := .later }
def VerifyAcceptsUptoCardSaid : Prop := Claim7.holds Tryz.pinned (.plain (OpenSpec.upto verifyAcceptsSpec)) verifyAcceptsUptoCard

/-- THE SECOND FORM's CARD OF 'tsblocklaw20.VerifyFindsDamage'. -/
def verifyFindsDamageUptoCard : Claim7 := { stood := { row := verifyFindsDamageUptoRow, standIns := [], harness := (true, "e3a4f09d885368300cba5177a6e638f2ce5891b0cb7d797910c9fd19d53a6750"), looks := true }, kinds := [], alts := [], laidByText := true, laidKinds := [.data, .data, .handle, .data], laidTests := true, laidLooks := .later }
def VerifyFindsDamageUptoCardSaid : Prop := Claim7.holds Tryz.pinned (.plain (OpenSpec.upto verifyFindsDamageSpec)) verifyFindsDamageUptoCard

/-- THE SECOND FORM's CARD OF 'tsblocklaw20.VerifyClasses'. -/
def verifyClassesUptoCard : Claim7 := { stood := { row := verifyClassesUptoRow, standIns := [], harness := (true, "e3a4f09d885368300cba5177a6e638f2ce5891b0cb7d797910c9fd19d53a6750"), looks := true }, kinds := [], alts := [], laidByText := true, laidKinds := [.data, .data, .handle, .data], laidTests := true, laidLooks := .later }
def VerifyClassesUptoCardSaid : Prop := Claim7.holds Tryz.pinned (.plain (OpenSpec.upto verifyClassesSpec)) verifyClassesUptoCard

/-- THE SECOND FORM's CARD OF 'tsblocklaw20.VerifyChecks'. -/
def verifyChecksUptoCard : Claim7 := { stood := { row := verifyChecksUptoRow, standIns := [], harness := (true, "e3a4f09d885368300cba5177a6e638f2ce5891b0cb7d797910c9fd19d53a6750"), looks := true }, kinds := [], alts := [], laidByText := true, laidKinds := [.data, .data, .handle, .data], laidTests := true, laidLooks := .later }
def VerifyChecksUptoCardSaid : Prop := Claim7.holds Tryz.pinned (.plain (OpenSpec.upto verifyChecksSpec)) verifyChecksUptoCard

/-- THE SECOND FORM's CARD OF 'tsblocklaw18.DecodeChunks'. -/
def decodeChunksUptoCard : Claim7 := { stood := { row := decodeChunksUptoRow, standIns := [], harness := (true, "e3a4f09d885368300cba5177a6e638f2ce5891b0cb7d797910c9fd19d53a6750"), looks := true }, kinds := [], alts := [], laidByText := true, laidKinds := [.data, .data, .data], laidTests := true, laidLooks := .later }
def DecodeChunksUptoCardSaid : Prop := Claim7.holds Tryz.pinned (.plain (OpenSpec.upto decodeChunksSpec)) decodeChunksUptoCard
end Rows
end Go.Proofs.YtaaeeabpbmigoaaGreatDoor
