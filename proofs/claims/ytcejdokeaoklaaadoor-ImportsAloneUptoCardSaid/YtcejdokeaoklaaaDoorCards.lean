/-
  DERIVED. GIVEN WITH THE SEED: THE CARDS: each row of YtcejdokeaoklaaaDoorRows.lean that lists a variable, with what it lists TIED to the program's text (the seventh form; the later family's looks); each row that meets fmt, with fmt's text TOLD by the authors' own Lean function (tested against real Go, not proved from fmt's source: count such statements apart). THE CARD IS WHAT COUNTS. Prove the row's statement (the work); the ties are given (YtcejdokeaoklaaaDoorTie.lean); close each card by the builder's one call (the guide's Derived/Test/ToyasCard.lean, 'card_holds'). Laid BY PROGRAM, IN A SANDBOX (cutbox-door.mjs). By AI agents, Wed Nov 11 2026. No macro, syntax, notation, axiom, sorry.
-/
import Derived.Test.YtcejdokeaoklaaaDoorRows
import GoSem.ClaimSeven
namespace Go.Proofs.YtcejdokeaoklaaaDoor
namespace Rows

/-- THE TIED CARD OF 'scholiastlaw13.ImportsSplits'. -/
def importsSplitsCard : Claim7 := { stood := { row := importsSplitsRow, standIns := [], harness := (true, "3a301c4f4efca416e74d2142517ee0d03dd4a2e23dd5e6194501bb29247a5967"), looks := false }, kinds := [], alts := [], laidByText := true, laidKinds := [.data, .pinned], laidTests := true, laidLooks := .later }
def ImportsSplitsCardSaid : Prop := Claim7.holds Tryd.pinned (.plain (OpenSpec.ofChange importsSplitsSpec)) importsSplitsCard

/-- THE TIED CARD OF 'scholiastlaw13.ImportsFolders'. -/
def importsFoldersCard : Claim7 := { stood := { row := importsFoldersRow, standIns := [], harness := (true, "3a301c4f4efca416e74d2142517ee0d03dd4a2e23dd5e6194501bb29247a5967"), looks := false }, kinds := [], alts := [], laidByText := true, laidKinds := [.data, .pinned], laidTests := true, laidLooks := .later }
def ImportsFoldersCardSaid : Prop := Claim7.holds Tryd.pinned (.plain (OpenSpec.ofChange importsFoldersSpec)) importsFoldersCard

/-- THE TIED CARD OF 'scholiastlaw13.ImportsOrders'. -/
def importsOrdersCard : Claim7 := { stood := { row := importsOrdersRow, standIns := [], harness := (true, "3a301c4f4efca416e74d2142517ee0d03dd4a2e23dd5e6194501bb29247a5967"), looks := false }, kinds := [], alts := [], laidByText := true, laidKinds := [.data, .pinned], laidTests := true, laidLooks := .later }
def ImportsOrdersCardSaid : Prop := Claim7.holds Tryd.pinned (.plain (OpenSpec.ofChange importsOrdersSpec)) importsOrdersCard

/-- THE TIED CARD OF 'scholiastlaw13.ImportsAlone'. -/
def importsAloneCard : Claim7 := { stood := { row := importsAloneRow, standIns := [], harness := (true, "3a301c4f4efca416e74d2142517ee0d03dd4a2e23dd5e6194501bb29247a5967"), looks := false }, kinds := [], alts := [], laidByText := true, laidKinds := [.data, .pinned], laidTests := true, laidLooks := .later }
def ImportsAloneCardSaid : Prop := Claim7.holds Tryd.pinned (.plain (OpenSpec.ofChange importsAloneSpec)) importsAloneCard

/-- THE TIED CARD OF 'scholiastlaw13.ImportsStand'. -/
def importsStandCard : Claim7 := { stood := { row := importsStandRow, standIns := [], harness := (true, "3a301c4f4efca416e74d2142517ee0d03dd4a2e23dd5e6194501bb29247a5967"), looks := false }, kinds := [], alts := [], laidByText := true, laidKinds := [.data, .pinned], laidTests := true, laidLooks := .later }
def ImportsStandCardSaid : Prop := Claim7.holds Tryd.pinned (.plain (OpenSpec.ofChange importsStandSpec)) importsStandCard

/-- THE SECOND FORM's CARD OF 'scholiastlaw13.ImportsSplits'. -/
def importsSplitsUptoCard : Claim7 := { stood := { row := importsSplitsUptoRow, standIns := [], harness := (true, "3a301c4f4efca416e74d2142517ee0d03dd4a2e23dd5e6194501bb29247a5967"), looks := false }, kinds := [], alts := [], laidByText := true, laidKinds := [.data, .pinned], laidTests := true, laidLooks := .later }
def ImportsSplitsUptoCardSaid : Prop := Claim7.holds Tryd.pinned (.plain (OpenSpec.upto importsSplitsSpec)) importsSplitsUptoCard

/-- THE SECOND FORM's CARD OF 'scholiastlaw13.ImportsFolders'. -/
def importsFoldersUptoCard : Claim7 := { stood := { row := importsFoldersUptoRow, standIns := [], harness := (true, "3a301c4f4efca416e74d2142517ee0d03dd4a2e23dd5e6194501bb29247a5967"), looks := false }, kinds := [], alts := [], laidByText := true, laidKinds := [.data, .pinned], laidTests := true, laidLooks := .later }
def ImportsFoldersUptoCardSaid : Prop := Claim7.holds Tryd.pinned (.plain (OpenSpec.upto importsFoldersSpec)) importsFoldersUptoCard

/-- THE SECOND FORM's CARD OF 'scholiastlaw13.ImportsOrders'. -/
def importsOrdersUptoCard : Claim7 := { stood := { row := importsOrdersUptoRow, standIns := [], harness := (true, "3a301c4f4efca416e74d2142517ee0d03dd4a2e23dd5e6194501bb29247a5967"), looks := false }, kinds := [], alts := [], laidByText := true, laidKinds := [.data, .pinned], laidTests := true, laidLooks := .later }
def ImportsOrdersUptoCardSaid : Prop := Claim7.holds Tryd.pinned (.plain (OpenSpec.upto importsOrdersSpec)) importsOrdersUptoCard

/-- THE SECOND FORM's CARD OF 'scholiastlaw13.ImportsAlone'. -/
def importsAloneUptoCard : Claim7 := { stood := { row := importsAloneUptoRow, standIns := [], harness := (true, "3a301c4f4efca416e74d2142517ee0d03dd4a2e23dd5e6194501bb29247a5967"), looks := false }, kinds := [], alts := [], laidByText := true, laidKinds := [.data, .pinned], laidTests := true, laidLooks := .later }
def ImportsAloneUptoCardSaid : Prop := Claim7.holds Tryd.pinned (.plain (OpenSpec.upto importsAloneSpec)) importsAloneUptoCard

/-- THE SECOND FORM's CARD OF 'scholiastlaw13.ImportsStand'. -/
def importsStandUptoCard : Claim7 := { stood := { row := importsStandUptoRow, standIns := [], harness := (true, "3a301c4f4efca416e74d2142517ee0d03dd4a2e23dd5e6194501bb29247a5967"), looks := false }, kinds := [], alts := [], laidByText := true, laidKinds := [.data, .pinned], laidTests := true, laidLooks := .later }
def ImportsStandUptoCardSaid : Prop := Claim7.holds Tryd.pinned (.plain (OpenSpec.upto importsStandSpec)) importsStandUptoCard
end Rows
end Go.Proofs.YtcejdokeaoklaaaDoor
