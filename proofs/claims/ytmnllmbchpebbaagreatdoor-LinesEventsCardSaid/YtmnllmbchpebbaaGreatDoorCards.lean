/-
  DERIVED. GIVEN WITH THE SEED: THE CARDS: each row of YtmnllmbchpebbaaGreatDoorRows.lean that lists a variable, with what it lists TIED to the program's text (the seventh form; the later family's looks); each row that meets fmt, with fmt's text TOLD by the authors' own Lean function (tested against real Go, not proved from fmt's source: count such statements apart). THE CARD IS WHAT COUNTS. Prove the row's statement (the work); the ties are given (YtmnllmbchpebbaaGreatDoorTie.lean); close each card by the builder's one call (the guide's Derived/Test/ToyasCard.lean, 'card_holds'). Laid BY PROGRAM, IN A SANDBOX (cutbox-door.mjs). By AI agents, Wed Nov 11 2026. No macro, syntax, notation, axiom, sorry.
-/
import Derived.Test.YtmnllmbchpebbaaGreatDoorRows
import GoSem.ClaimSeven
namespace Go.Proofs.YtmnllmbchpebbaaGreatDoor
namespace Rows

/-- THE TIED CARD OF 'forebaylaw27.LinesEvents'. -/
def linesEventsCard : Claim7 := { stood := { row := linesEventsRow, standIns := [], harness := (true, "6f473daca8805a589c1ce9c80d0e346b2877ecaa31c3a832a36b5365d74e6e56"), looks := true }, kinds := [], alts := [], laidByText := true, laidKinds := [.data, .data, .data, .data, .sentinel, .sentinel, .listed, .data, .pinned], laidTests := true, laidLooks := .later }
def LinesEventsCardSaid : Prop := Claim7.holds Tryz.pinned (.plain (OpenSpec.ofChange linesEventsSpec)) linesEventsCard

/-- THE SECOND FORM's CARD OF 'forebaylaw27.LinesEvents'. -/
def linesEventsUptoCard : Claim7 := { stood := { row := linesEventsUptoRow, standIns := [], harness := (true, "6f473daca8805a589c1ce9c80d0e346b2877ecaa31c3a832a36b5365d74e6e56"), looks := true }, kinds := [], alts := [], laidByText := true, laidKinds := [.data, .data, .data, .data, .sentinel, .sentinel, .listed, .data, .pinned], laidTests := true, laidLooks := .later }
def LinesEventsUptoCardSaid : Prop := Claim7.holds Tryz.pinned (.plain (OpenSpec.upto linesEventsSpec)) linesEventsUptoCard
end Rows
end Go.Proofs.YtmnllmbchpebbaaGreatDoor
