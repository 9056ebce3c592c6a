/-
  DERIVED. GIVEN WITH THE SEED: THE CARDS: each row of YtiocdmfmghanmaaDoorRows.lean that lists a variable, with what it lists TIED to the program's text (the seventh form; the later family's looks); each row that meets fmt, with fmt's text TOLD by the authors' own Lean function (tested against real Go, not proved from fmt's source: count such statements apart). THE CARD IS WHAT COUNTS. Prove the row's statement (the work); the ties are given (YtiocdmfmghanmaaDoorTie.lean); close each card by the builder's one call (the guide's Derived/Test/ToyasCard.lean, 'card_holds'). Laid BY PROGRAM, IN A SANDBOX (cutbox-door.mjs). By AI agents, Wed Nov 11 2026. No macro, syntax, notation, axiom, sorry.
-/
import Derived.Test.YtiocdmfmghanmaaDoorRows
import GoSem.ClaimSeven
namespace Go.Proofs.YtiocdmfmghanmaaDoor
namespace Rows

/-- THE TIED CARD OF 'forebaylaw03.GaussOrder'. -/
def gaussOrderCard : Claim7 := { stood := { row := gaussOrderRow, standIns := [], harness := (true, "e8bf8cab54937e49c1ce50d2918ffcec9f838fbcc4f4562b91603a52d1a090be"), looks := true }, kinds := [], alts := [], laidByText := true, laidKinds := [.data, .data, .data], laidTests := true, laidLooks := .later }
def GaussOrderCardSaid : Prop := Claim7.holds Tryd.pinned (.plain (OpenSpec.ofChange gaussOrderSpec)) gaussOrderCard

/-- THE TIED CARD OF 'forebaylaw03.GaussTexts'. -/
def gaussTextsCard : Claim7 := { stood := { row := gaussTextsRow, standIns := [], harness := (true, "e8bf8cab54937e49c1ce50d2918ffcec9f838fbcc4f4562b91603a52d1a090be"), looks := true }, kinds := [], alts := [], laidByText := true, laidKinds := [.data, .data, .data, .data, .sentinel, .sentinel, .pinned], laidTests := true, laidLooks := .later }
def GaussTextsCardSaid : Prop := Claim7.holds Tryd.pinned (.plain (OpenSpec.ofChange gaussTextsSpec)) gaussTextsCard

/-- THE TIED CARD OF 'forebaylaw04.CodeTexts'. -/
def codeTextsCard : Claim7 := { stood := { row := codeTextsRow, standIns := [], harness := (true, "e8bf8cab54937e49c1ce50d2918ffcec9f838fbcc4f4562b91603a52d1a090be"), looks := true }, kinds := [], alts := [], laidByText := true, laidKinds := [.data, .data, .data, .sentinel, .sentinel, .listed, .data], laidTests := true, laidLooks := .later }
def CodeTextsCardSaid : Prop := Claim7.holds Tryd.pinned (.plain (OpenSpec.ofChange codeTextsSpec)) codeTextsCard

/-- THE TIED CARD OF 'forebaylaw04.CodeJoins'. -/
def codeJoinsCard : Claim7 := { stood := { row := codeJoinsRow, standIns := [], harness := (true, "e8bf8cab54937e49c1ce50d2918ffcec9f838fbcc4f4562b91603a52d1a090be"), looks := true }, kinds := [], alts := [], laidByText := true, laidKinds := [.data, .data, .data, .sentinel, .sentinel, .listed, .data], laidTests := true, laidLooks := .later }
def CodeJoinsCardSaid : Prop := Claim7.holds Tryd.pinned (.plain (OpenSpec.ofChange codeJoinsSpec)) codeJoinsCard

/-- THE TIED CARD OF 'forebaylaw04.CodeBytes'. -/
def codeBytesCard : Claim7 := { stood := { row := codeBytesRow, standIns := [], harness := (true, "e8bf8cab54937e49c1ce50d2918ffcec9f838fbcc4f4562b91603a52d1a090be"), looks := true }, kinds := [], alts := [], laidByText := true, laidKinds := [.data, .data, .data, .sentinel, .sentinel, .listed, .data], laidTests := true, laidLooks := .later }
def CodeBytesCardSaid : Prop := Claim7.holds Tryd.pinned (.plain (OpenSpec.ofChange codeBytesSpec)) codeBytesCard

/-- THE TIED CARD OF 'forebaylaw06.VmEach'. -/
def vmEachCard : Claim7 := { stood := { row := vmEachRow, standIns := [], harness := (true, "e8bf8cab54937e49c1ce50d2918ffcec9f838fbcc4f4562b91603a52d1a090be"), looks := true }, kinds := [], alts := [], laidByText := true, laidKinds := [.data, .data, .data, .sentinel, .sentinel, .listed, .data], laidTests := true, laidLooks := .later }
def VmEachCardSaid : Prop := Claim7.holds Tryd.pinned (.plain (OpenSpec.ofChange vmEachSpec)) vmEachCard

/-- THE SECOND FORM's CARD OF 'forebaylaw03.GaussOrder'. -/
def gaussOrderUptoCard : Claim7 := { stood := { row := gaussOrderUptoRow, standIns := [], harness := (true, "e8bf8cab54937e49c1ce50d2918ffcec9f838fbcc4f4562b91603a52d1a090be"), looks := true }, kinds := [], alts := [], laidByText := true, laidKinds := [.data, .data, .data], laidTests := true, laidLooks := .later }
def GaussOrderUptoCardSaid : Prop := Claim7.holds Tryd.pinned (.plain (OpenSpec.upto gaussOrderSpec)) gaussOrderUptoCard

/-- THE SECOND FORM's CARD OF 'forebaylaw03.GaussTexts'. -/
def gaussTextsUptoCard : Claim7 := { stood := { row := gaussTextsUptoRow, standIns := [], harness := (true, "e8bf8cab54937e49c1ce50d2918ffcec9f838fbcc4f4562b91603a52d1a090be"), looks := true }, kinds := [], alts := [], laidByText := true, laidKinds := [.data, .data, .data, .data, .sentinel, .sentinel, .pinned], laidTests := true, laidLooks := .later }
def GaussTextsUptoCardSaid : Prop := Claim7.holds Tryd.pinned (.plain (OpenSpec.upto gaussTextsSpec)) gaussTextsUptoCard

/-- THE SECOND FORM's CARD OF 'forebaylaw04.CodeTexts'. -/
def codeTextsUptoCard : Claim7 := { stood := { row := codeTextsUptoRow, standIns := [], harness := (true, "e8bf8cab54937e49c1ce50d2918ffcec9f838fbcc4f4562b91603a52d1a090be"), looks := true }, kinds := [], alts := [], laidByText := true, laidKinds := [.data, .data, .data, .sentinel, .sentinel, .listed, .data], laidTests := true, laidLooks := .later }
def CodeTextsUptoCardSaid : Prop := Claim7.holds Tryd.pinned (.plain (OpenSpec.upto codeTextsSpec)) codeTextsUptoCard

/-- THE SECOND FORM's CARD OF 'forebaylaw04.CodeJoins'. -/
def codeJoinsUptoCard : Claim7 := { stood := { row := codeJoinsUptoRow, standIns := [], harness := (true, "e8bf8cab54937e49c1ce50d2918ffcec9f838fbcc4f4562b91603a52d1a090be"), looks := true }, kinds := [], alts := [], laidByText := true, laidKinds := [.data, .data, .data, .sentinel, .sentinel, .listed, .data], laidTests := true, laidLooks := .later }
def CodeJoinsUptoCardSaid : Prop := Claim7.holds Tryd.pinned (.plain (OpenSpec.upto codeJoinsSpec)) codeJoinsUptoCard

/-- THE SECOND FORM's CARD OF 'forebaylaw04.CodeBytes'. -/
def codeBytesUptoCard : Claim7 := { stood := { row := codeBytesUptoRow, standIns := [], harness := (true, "e8bf8cab54937e49c1ce50d2918ffcec9f838fbcc4f4562b91603a52d1a090be"), looks := true }, kinds := [], alts := [], laidByText := true, laidKinds := [.data, .data, .data, .sentinel, .sentinel, .listed, .data], laidTests := true, laidLooks := .later }
def CodeBytesUptoCardSaid : Prop := Claim7.holds Tryd.pinned (.plain (OpenSpec.upto codeBytesSpec)) codeBytesUptoCard

/-- THE SECOND FORM's CARD OF 'forebaylaw06.VmEach'. -/
def vmEachUptoCard : Claim7 := { stood := { row := vmEachUptoRow, standIns := [], harness := (true, "e8bf8cab54937e49c1ce50d2918ffcec9f838fbcc4f4562b91603a52d1a090be"), looks := true }, kinds := [], alts := [], laidByText := true, laidKinds := [.data, .data, .data, .sentinel, .sentinel, .listed, .data], laidTests := true, laidLooks := .later }
def VmEachUptoCardSaid : Prop := Claim7.holds Tryd.pinned (.plain (OpenSpec.upto vmEachSpec)) vmEachUptoCard
end Rows
end Go.Proofs.YtiocdmfmghanmaaDoor
