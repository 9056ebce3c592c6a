/-
  DERIVED. GIVEN WITH THE SEED: THE CARDS: each row of YthlmmfljeblflaaGreatDoorRows.lean that lists a variable, with what it lists TIED to the program's text (the seventh form; the later family's looks); each row that meets fmt, with fmt's text TOLD by the authors' own Lean function (tested against real Go, not proved from fmt's source: count such statements apart). THE CARD IS WHAT COUNTS. Prove the row's statement (the work); the ties are given (YthlmmfljeblflaaGreatDoorTie.lean); close each card by the builder's one call (the guide's Derived/Test/ToyasCard.lean, 'card_holds'). Laid BY PROGRAM, IN A SANDBOX (cutbox-door.mjs). By AI agents, Wed Nov 11 2026. No macro, syntax, notation, axiom, sorry.
-/
import Derived.Test.YthlmmfljeblflaaGreatDoorRows
import GoSem.ClaimSeven
namespace Go.Proofs.YthlmmfljeblflaaGreatDoor
namespace Rows

/-- THE TIED CARD OF 'forebaylaw27.LinesTell'. -/
def linesTellCard : Claim7 := { stood := { row := linesTellRow, standIns := [], harness := (true, "c0424e98685285023482c37dc7fdf6771818f85cae985e6ef28cec31caec0828"), looks := true }, kinds := [], alts := [], laidByText := true, laidKinds := [.data, .data, .data, .data, .sentinel, .sentinel, .listed, .data, .pinned], laidTests := true, laidLooks := .later }
def LinesTellCardSaid : Prop := Claim7.holds Tryz.pinned (.plain (OpenSpec.ofChange linesTellSpec)) linesTellCard

/-- THE TIED CARD OF 'forebaylaw28.AuditDiffs'. -/
def auditDiffsCard : Claim7 := { stood := { row := auditDiffsRow, standIns := [], harness := (true, "c0424e98685285023482c37dc7fdf6771818f85cae985e6ef28cec31caec0828"), looks := true }, kinds := [], alts := [], laidByText := true, laidKinds := [.data, .data, .data, .listed, .data], laidTests := true, laidLooks := .later }
def AuditDiffsCardSaid : Prop := Claim7.holds Tryz.pinned (.plain (OpenSpec.ofChange auditDiffsSpec)) auditDiffsCard

/-- THE SECOND FORM's CARD OF 'forebaylaw27.LinesTell'. -/
def linesTellUptoCard : Claim7 := { stood := { row := linesTellUptoRow, standIns := [], harness := (true, "c0424e98685285023482c37dc7fdf6771818f85cae985e6ef28cec31caec0828"), looks := true }, kinds := [], alts := [], laidByText := true, laidKinds := [.data, .data, .data, .data, .sentinel, .sentinel, .listed, .data, .pinned], laidTests := true, laidLooks := .later }
def LinesTellUptoCardSaid : Prop := Claim7.holds Tryz.pinned (.plain (OpenSpec.upto linesTellSpec)) linesTellUptoCard

/-- THE SECOND FORM's CARD OF 'forebaylaw28.AuditDiffs'. -/
def auditDiffsUptoCard : Claim7 := { stood := { row := auditDiffsUptoRow, standIns := [], harness := (true, "c0424e98685285023482c37dc7fdf6771818f85cae985e6ef28cec31caec0828"), looks := true }, kinds := [], alts := [], laidByText := true, laidKinds := [.data, .data, .data, .listed, .data], laidTests := true, laidLooks := .later }
def AuditDiffsUptoCardSaid : Prop := Claim7.holds Tryz.pinned (.plain (OpenSpec.upto auditDiffsSpec)) auditDiffsUptoCard
end Rows
end Go.Proofs.YthlmmfljeblflaaGreatDoor
