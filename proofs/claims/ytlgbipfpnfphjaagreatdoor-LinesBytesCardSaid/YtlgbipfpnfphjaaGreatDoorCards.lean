/-
  DERIVED. GIVEN WITH THE SEED: THE CARDS: each row of YtlgbipfpnfphjaaGreatDoorRows.lean that lists a variable, with what it lists TIED to the program's text (the seventh form; the later family's looks); each row that meets fmt, with fmt's text TOLD by the authors' own Lean function (tested against real Go, not proved from fmt's source: count such statements apart). THE CARD IS WHAT COUNTS. Prove the row's statement (the work); the ties are given (YtlgbipfpnfphjaaGreatDoorTie.lean); close each card by the builder's one call (the guide's Derived/Test/ToyasCard.lean, 'card_holds'). Laid BY PROGRAM, IN A SANDBOX (cutbox-door.mjs). By AI agents, Wed Nov 11 2026. No macro, syntax, notation, axiom, sorry.
-/
import Derived.Test.YtlgbipfpnfphjaaGreatDoorRows
import GoSem.ClaimSeven
namespace Go.Proofs.YtlgbipfpnfphjaaGreatDoor
namespace Rows

/-- THE TIED CARD OF 'forebaylaw27.LinesEvents'. -/
def linesEventsCard : Claim7 := { stood := { row := linesEventsRow, standIns := [], harness := (true, "0305711942287a96358686735d50fd77c22040abe1444470b6490ab846966979"), looks := true }, kinds := [], alts := [], laidByText := true, laidKinds := [.data, .data, .data, .data, .sentinel, .sentinel, .listed, .data, .pinned], laidTests := true, laidLooks := .later }
def LinesEventsCardSaid : Prop := Claim7.holds Tryz.pinned (.plain (OpenSpec.ofChange linesEventsSpec)) linesEventsCard

/-- THE TIED CARD OF 'forebaylaw27.LinesBytes'. -/
def linesBytesCard : Claim7 := { stood := { row := linesBytesRow, standIns := [], harness := (true, "0305711942287a96358686735d50fd77c22040abe1444470b6490ab846966979"), looks := true }, kinds := [], alts := [], laidByText := true, laidKinds := [.data, .data, .data, .data, .sentinel, .sentinel, .listed, .data, .pinned], laidTests := true, laidLooks := .later }
def LinesBytesCardSaid : Prop := Claim7.holds Tryz.pinned (.plain (OpenSpec.ofChange linesBytesSpec)) linesBytesCard

/-- THE SECOND FORM's CARD OF 'forebaylaw27.LinesEvents'. -/
def linesEventsUptoCard : Claim7 := { stood := { row := linesEventsUptoRow, standIns := [], harness := (true, "0305711942287a96358686735d50fd77c22040abe1444470b6490ab846966979"), looks := true }, kinds := [], alts := [], laidByText := true, laidKinds := [.data, .data, .data, .data, .sentinel, .sentinel, .listed, .data, .pinned], laidTests := true, laidLooks := .later }
def LinesEventsUptoCardSaid : Prop := Claim7.holds Tryz.pinned (.plain (OpenSpec.upto linesEventsSpec)) linesEventsUptoCard

/-- THE SECOND FORM's CARD OF 'forebaylaw27.LinesBytes'. -/
def linesBytesUptoCard : Claim7 := { stood := { row := linesBytesUptoRow, standIns := [], harness := (true, "0305711942287a96358686735d50fd77c22040abe1444470b6490ab846966979"), looks := true }, kinds := [], alts := [], laidByText := true, laidKinds := [.data, .data, .data, .data, .sentinel, .sentinel, .listed, .data, .pinned], laidTests := true, laidLooks := .later }
def LinesBytesUptoCardSaid : Prop := Claim7.holds Tryz.pinned (.plain (OpenSpec.upto linesBytesSpec)) linesBytesUptoCard
end Rows
end Go.Proofs.YtlgbipfpnfphjaaGreatDoor
