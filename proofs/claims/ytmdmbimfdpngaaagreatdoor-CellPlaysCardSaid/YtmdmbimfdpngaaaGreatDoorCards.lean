/-
  DERIVED. GIVEN WITH THE SEED: THE CARDS: each row of YtmdmbimfdpngaaaGreatDoorRows.lean that lists a variable, with what it lists TIED to the program's text (the seventh form; the later family's looks); each row that meets fmt, with fmt's text TOLD by the authors' own Lean function (tested against real Go, not proved from fmt's source: count such statements apart). THE CARD IS WHAT COUNTS. Prove the row's statement (the work); the ties are given (YtmdmbimfdpngaaaGreatDoorTie.lean); close each card by the builder's one call (the guide's Derived/Test/ToyasCard.lean, 'card_holds'). Laid BY PROGRAM, IN A SANDBOX (cutbox-door.mjs). By AI agents, Wed Nov 11 2026. No macro, syntax, notation, axiom, sorry.
-/
import Derived.Test.YtmdmbimfdpngaaaGreatDoorRows
import GoSem.ClaimSeven
namespace Go.Proofs.YtmdmbimfdpngaaaGreatDoor
namespace Rows

/-- THE TIED CARD OF 'forebaylaw27.LinesTell'. -/
def linesTellCard : Claim7 := { stood := { row := linesTellRow, standIns := [], harness := (true, "4af723ad0de897bf1a0ee07ab2c34fda9eb42d8c234b514668753810973e649a"), looks := true }, kinds := [], alts := [], laidByText := true, laidKinds := [.data, .data, .data, .data, .sentinel, .sentinel, .listed, .data, .pinned], laidTests := true, laidLooks := .later }
def LinesTellCardSaid : Prop := Claim7.holds Tryz.pinned (.plain (OpenSpec.ofChange linesTellSpec)) linesTellCard

/-- THE TIED CARD OF 'forebaylaw28.AuditDiffs'. -/
def auditDiffsCard : Claim7 := { stood := { row := auditDiffsRow, standIns := [], harness := (true, "4af723ad0de897bf1a0ee07ab2c34fda9eb42d8c234b514668753810973e649a"), looks := true }, kinds := [], alts := [], laidByText := true, laidKinds := [.data, .data, .data, .listed, .data], laidTests := true, laidLooks := .later }
def AuditDiffsCardSaid : Prop := Claim7.holds Tryz.pinned (.plain (OpenSpec.ofChange auditDiffsSpec)) auditDiffsCard

/-- THE TIED CARD OF 'forebaylaw07.CellApart'. -/
def cellApartCard : Claim7 := { stood := { row := cellApartRow, standIns := [], harness := (true, "4af723ad0de897bf1a0ee07ab2c34fda9eb42d8c234b514668753810973e649a"), looks := true }, kinds := [], alts := [], laidByText := true, laidKinds := [.data, .data, .data, .sentinel, .sentinel, .listed, .data], laidTests := true, laidLooks := .later }
def CellApartCardSaid : Prop := Claim7.holds Tryz.pinned (.plain (OpenSpec.ofChange cellApartSpec)) cellApartCard

/-- THE TIED CARD OF 'forebaylaw07.CellGroups'. -/
def cellGroupsCard : Claim7 := { stood := { row := cellGroupsRow, standIns := [], harness := (true, "4af723ad0de897bf1a0ee07ab2c34fda9eb42d8c234b514668753810973e649a"), looks := true }, kinds := [], alts := [], laidByText := true, laidKinds := [.data, .data, .data, .sentinel, .sentinel, .listed, .data], laidTests := true, laidLooks := .later }
def CellGroupsCardSaid : Prop := Claim7.holds Tryz.pinned (.plain (OpenSpec.ofChange cellGroupsSpec)) cellGroupsCard

/-- THE TIED CARD OF 'forebaylaw07.CellPlays'. -/
def cellPlaysCard : Claim7 := { stood := { row := cellPlaysRow, standIns := [], harness := (true, "4af723ad0de897bf1a0ee07ab2c34fda9eb42d8c234b514668753810973e649a"), looks := true }, kinds := [], alts := [], laidByText := true, laidKinds := [.data, .data, .data, .sentinel, .sentinel, .listed, .data], laidTests := true, laidLooks := .later }
def CellPlaysCardSaid : Prop := Claim7.holds Tryz.pinned (.plain (OpenSpec.ofChange cellPlaysSpec)) cellPlaysCard

/-- THE SECOND FORM's CARD OF 'forebaylaw27.LinesTell'. -/
def linesTellUptoCard : Claim7 := { stood := { row := linesTellUptoRow, standIns := [], harness := (true, "4af723ad0de897bf1a0ee07ab2c34fda9eb42d8c234b514668753810973e649a"), looks := true }, kinds := [], alts := [], laidByText := true, laidKinds := [.data, .data, .data, .data, .sentinel, .sentinel, .listed, .data, .pinned], laidTests := true, laidLooks := .later }
def LinesTellUptoCardSaid : Prop := Claim7.holds Tryz.pinned (.plain (OpenSpec.upto linesTellSpec)) linesTellUptoCard

/-- THE SECOND FORM's CARD OF 'forebaylaw28.AuditDiffs'. -/
def auditDiffsUptoCard : Claim7 := { stood := { row := auditDiffsUptoRow, standIns := [], harness := (true, "4af723ad0de897bf1a0ee07ab2c34fda9eb42d8c234b514668753810973e649a"), looks := true }, kinds := [], alts := [], laidByText := true, laidKinds := [.data, .data, .data, .listed, .data], laidTests := true, laidLooks := .later }
def AuditDiffsUptoCardSaid : Prop := Claim7.holds Tryz.pinned (.plain (OpenSpec.upto auditDiffsSpec)) auditDiffsUptoCard

/-- THE SECOND FORM's CARD OF 'forebaylaw07.CellApart'. -/
def cellApartUptoCard : Claim7 := { stood := { row := cellApartUptoRow, standIns := [], harness := (true, "4af723ad0de897bf1a0ee07ab2c34fda9eb42d8c234b514668753810973e649a"), looks := true }, kinds := [], alts := [], laidByText := true, laidKinds := [.data, .data, .data, .sentinel, .sentinel, .listed, .data], laidTests := true, laidLooks := .later }
def CellApartUptoCardSaid : Prop := Claim7.holds Tryz.pinned (.plain (OpenSpec.upto cellApartSpec)) cellApartUptoCard

/-- THE SECOND FORM's CARD OF 'forebaylaw07.CellGroups'. -/
def cellGroupsUptoCard : Claim7 := { stood := { row := cellGroupsUptoRow, standIns := [], harness := (true, "4af723ad0de897bf1a0ee07ab2c34fda9eb42d8c234b514668753810973e649a"), looks := true }, kinds := [], alts := [], laidByText := true, laidKinds := [.data, .data, .data, .sentinel, .sentinel, .listed, .data], laidTests := true, laidLooks := .later }
def CellGroupsUptoCardSaid : Prop := Claim7.holds Tryz.pinned (.plain (OpenSpec.upto cellGroupsSpec)) cellGroupsUptoCard

/-- THE SECOND FORM's CARD OF 'forebaylaw07.CellPlays'. -/
def cellPlaysUptoCard : Claim7 := { stood := { row := cellPlaysUptoRow, standIns := [], harness := (true, "4af723ad0de897bf1a0ee07ab2c34fda9eb42d8c234b514668753810973e649a"), looks := true }, kinds := [], alts := [], laidByText := true, laidKinds := [.data, .data, .data, .sentinel, .sentinel, .listed, .data], laidTests := true, laidLooks := .later }
def CellPlaysUptoCardSaid : Prop := Claim7.holds Tryz.pinned (.plain (OpenSpec.upto cellPlaysSpec)) cellPlaysUptoCard
end Rows
end Go.Proofs.YtmdmbimfdpngaaaGreatDoor
