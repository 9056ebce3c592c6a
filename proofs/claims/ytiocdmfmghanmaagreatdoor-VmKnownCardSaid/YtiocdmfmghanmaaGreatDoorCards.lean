/-
  DERIVED. GIVEN WITH THE SEED: THE CARDS: each row of YtiocdmfmghanmaaGreatDoorRows.lean that lists a variable, with what it lists TIED to the program's text (the seventh form; the later family's looks); each row that meets fmt, with fmt's text TOLD by the authors' own Lean function (tested against real Go, not proved from fmt's source: count such statements apart). THE CARD IS WHAT COUNTS. Prove the row's statement (the work); the ties are given (YtiocdmfmghanmaaGreatDoorTie.lean); close each card by the builder's one call (the guide's Derived/Test/ToyasCard.lean, 'card_holds'). Laid BY PROGRAM, IN A SANDBOX (cutbox-door.mjs). By AI agents, Wed Nov 11 2026. No macro, syntax, notation, axiom, sorry.
-/
import Derived.Test.YtiocdmfmghanmaaGreatDoorRows
import GoSem.ClaimSeven
namespace Go.Proofs.YtiocdmfmghanmaaGreatDoor
namespace Rows

/-- THE TIED CARD OF 'forebaylaw06.VmRuns'. -/
def vmRunsCard : Claim7 := { stood := { row := vmRunsRow, standIns := [], harness := (true, "d09a890dd24735d48b03df79020af66b39818948e7376dafacf1376ba110a459"), looks := true }, kinds := [], alts := [], laidByText := true, laidKinds := [.data, .data, .data, .sentinel, .sentinel, .listed, .data], laidTests := true, laidLooks := .later }
def VmRunsCardSaid : Prop := Claim7.holds Tryz.pinned (.plain (OpenSpec.ofChange vmRunsSpec)) vmRunsCard

/-- THE TIED CARD OF 'forebaylaw06.VmBounds'. -/
def vmBoundsCard : Claim7 := { stood := { row := vmBoundsRow, standIns := [], harness := (true, "d09a890dd24735d48b03df79020af66b39818948e7376dafacf1376ba110a459"), looks := true }, kinds := [], alts := [], laidByText := true, laidKinds := [.data, .data, .data, .sentinel, .sentinel, .listed, .data], laidTests := true, laidLooks := .later }
def VmBoundsCardSaid : Prop := Claim7.holds Tryz.pinned (.plain (OpenSpec.ofChange vmBoundsSpec)) vmBoundsCard

/-- THE TIED CARD OF 'forebaylaw06.VmKnown'. -/
def vmKnownCard : Claim7 := { stood := { row := vmKnownRow, standIns := [], harness := (true, "d09a890dd24735d48b03df79020af66b39818948e7376dafacf1376ba110a459"), looks := true }, kinds := [], alts := [], laidByText := true, laidKinds := [.data, .data, .data, .sentinel, .sentinel, .listed, .data], laidTests := true, laidLooks := .later }
def VmKnownCardSaid : Prop := Claim7.holds Tryz.pinned (.plain (OpenSpec.ofChange vmKnownSpec)) vmKnownCard

/-- THE TIED CARD OF 'forebaylaw06.VmTrims'. -/
def vmTrimsCard : Claim7 := { stood := { row := vmTrimsRow, standIns := [], harness := (true, "d09a890dd24735d48b03df79020af66b39818948e7376dafacf1376ba110a459"), looks := true }, kinds := [], alts := [], laidByText := true, laidKinds := [.data, .data, .data, .sentinel, .sentinel, .listed, .data], laidTests := true, laidLooks := .later }
def VmTrimsCardSaid : Prop := Claim7.holds Tryz.pinned (.plain (OpenSpec.ofChange vmTrimsSpec)) vmTrimsCard

/-- THE SECOND FORM's CARD OF 'forebaylaw06.VmRuns'. -/
def vmRunsUptoCard : Claim7 := { stood := { row := vmRunsUptoRow, standIns := [], harness := (true, "d09a890dd24735d48b03df79020af66b39818948e7376dafacf1376ba110a459"), looks := true }, kinds := [], alts := [], laidByText := true, laidKinds := [.data, .data, .data, .sentinel, .sentinel, .listed, .data], laidTests := true, laidLooks := .later }
def VmRunsUptoCardSaid : Prop := Claim7.holds Tryz.pinned (.plain (OpenSpec.upto vmRunsSpec)) vmRunsUptoCard

/-- THE SECOND FORM's CARD OF 'forebaylaw06.VmBounds'. -/
def vmBoundsUptoCard : Claim7 := { stood := { row := vmBoundsUptoRow, standIns := [], harness := (true, "d09a890dd24735d48b03df79020af66b39818948e7376dafacf1376ba110a459"), looks := true }, kinds := [], alts := [], laidByText := true, laidKinds := [.data, .data, .data, .sentinel, .sentinel, .listed, .data], laidTests := true, laidLooks := .later }
def VmBoundsUptoCardSaid : Prop := Claim7.holds Tryz.pinned (.plain (OpenSpec.upto vmBoundsSpec)) vmBoundsUptoCard

/-- THE SECOND FORM's CARD OF 'forebaylaw06.VmKnown'. -/
def vmKnownUptoCard : Claim7 := { stood := { row := vmKnownUptoRow, standIns := [], harness := (true, "d09a890dd24735d48b03df79020af66b39818948e7376dafacf1376ba110a459"), looks := true }, kinds := [], alts := [], laidByText := true, laidKinds := [.data, .data, .data, .sentinel, .sentinel, .listed, .data], laidTests := true, laidLooks := .later }
def VmKnownUptoCardSaid : Prop := Claim7.holds Tryz.pinned (.plain (OpenSpec.upto vmKnownSpec)) vmKnownUptoCard

/-- THE SECOND FORM's CARD OF 'forebaylaw06.VmTrims'. -/
def vmTrimsUptoCard : Claim7 := { stood := { row := vmTrimsUptoRow, standIns := [], harness := (true, "d09a890dd24735d48b03df79020af66b39818948e7376dafacf1376ba110a459"), looks := true }, kinds := [], alts := [], laidByText := true, laidKinds := [.data, .data, .data, .sentinel, .sentinel, .listed, .data], laidTests := true, laidLooks := .later }
def VmTrimsUptoCardSaid : Prop := Claim7.holds Tryz.pinned (.plain (OpenSpec.upto vmTrimsSpec)) vmTrimsUptoCard
end Rows
end Go.Proofs.YtiocdmfmghanmaaGreatDoor
