/-
  No cell of these rows narrows 'for every input' (looked for: loops, veiled, ifaces, maps, wideKeys, modest, calm, conditions, laid).
  DERIVED. THE GIVEN ROWS OF THIS SEAT. 5 by the template 'for every input the law returns true; each argument reads behind the call as it read before'; 0 by the template 'total and deterministic' (their statements: YtangapokicnfgaaGreatTotals.lean).
  GIVEN WITH THE SEED: the statements are not yours to turn. If you find one false, say at which input.
  Laid BY PROGRAM, IN A SANDBOX (cutbox-rows.mjs): the forced cells as the released guide's own fill.sh prints them over the translation b9bbcf1c92224c15… (all of the seat's roots in one cut). By AI agents, Wed Nov 11 2026. No macro, syntax, notation, axiom, sorry.
-/
import Derived.Test.YtangapokicnfgaaGreatChecked
import GoSem.Claim
import GoSem.ClaimJoined
import GoSem.ClaimMapViews
import Derived.JoinedTies
import Derived.KernelRfl
namespace Go.Proofs.YtangapokicnfgaaGreat
/- THE CELL 'sum', in the pinned program and in every row, IS THE sha256 OF THE DUMP (.gsa) THAT YtangapokicnfgaaGreatProg.lean LOADS. Nothing in Lean hashes anything: it is a label: what it is worth is what the hold of that sum in a sandbox is worth. -/
noncomputable def Tryz.pinned : Pinned := { name := "ytangapokicnfgaagreat", sum := "b9bbcf1c92224c152975009935172dd112bd8373106c2175844edf5fd5819291", checked := Tryz.checked }
namespace Rows
def none {H : Type} : Left H := { results := [], args := [] }

/-- 'forebaylaw13.PackGraphs': WHATEVER THE INPUT: true; the input reads as it did. -/
def packGraphsSpec : ChangeSpec := { name := "packGraphs", fn := fun _ => fun
  | [d1, d2] => { results := [.lit (.bool true)], args := [d1, d2] }
  | _ => none }
def packGraphsRow : OpenClaim := { program := "ytangapokicnfgaagreat", sum := "b9bbcf1c92224c152975009935172dd112bd8373106c2175844edf5fd5819291", func := "forebay/forebaylaw13.PackGraphs", spec := "packGraphs", unfollowed := true, recurses := true, plainKeys := false, apart := false }
def PackGraphsSaid : Prop := packGraphsRow.holds Tryz.pinned (OpenSpec.ofChange packGraphsSpec)

/-- ITS FALSE NEIGHBOUR: 'it returns false'. Refute it at one input. -/
def packGraphsWrong : ChangeSpec := { name := "packGraphs", fn := fun _ => fun
  | [d1, d2] => { results := [.lit (.bool false)], args := [d1, d2] }
  | _ => none }
def PackGraphsWrongFalsely : Prop := packGraphsRow.holds Tryz.pinned (OpenSpec.ofChange packGraphsWrong)

/-- 'forebaylaw13.PackPlans': WHATEVER THE INPUT: true; the input reads as it did. -/
def packPlansSpec : ChangeSpec := { name := "packPlans", fn := fun _ => fun
  | [d1, d2] => { results := [.lit (.bool true)], args := [d1, d2] }
  | _ => none }
def packPlansRow : OpenClaim := { program := "ytangapokicnfgaagreat", sum := "b9bbcf1c92224c152975009935172dd112bd8373106c2175844edf5fd5819291", func := "forebay/forebaylaw13.PackPlans", spec := "packPlans", unfollowed := true, recurses := true, plainKeys := false, apart := false }
def PackPlansSaid : Prop := packPlansRow.holds Tryz.pinned (OpenSpec.ofChange packPlansSpec)

/-- ITS FALSE NEIGHBOUR: 'it returns false'. Refute it at one input. -/
def packPlansWrong : ChangeSpec := { name := "packPlans", fn := fun _ => fun
  | [d1, d2] => { results := [.lit (.bool false)], args := [d1, d2] }
  | _ => none }
def PackPlansWrongFalsely : Prop := packPlansRow.holds Tryz.pinned (OpenSpec.ofChange packPlansWrong)

/-- 'forebaylaw13.PackTexts': WHATEVER THE INPUT: true; the input reads as it did. -/
def packTextsSpec : ChangeSpec := { name := "packTexts", fn := fun _ => fun
  | [d1, d2, d3] => { results := [.lit (.bool true)], args := [d1, d2, d3] }
  | _ => none }
def packTextsRow : OpenClaim := { program := "ytangapokicnfgaagreat", sum := "b9bbcf1c92224c152975009935172dd112bd8373106c2175844edf5fd5819291", func := "forebay/forebaylaw13.PackTexts", spec := "packTexts", unfollowed := true, recurses := true, plainKeys := false, apart := false }
def PackTextsSaid : Prop := packTextsRow.holds Tryz.pinned (OpenSpec.ofChange packTextsSpec)

/-- ITS FALSE NEIGHBOUR: 'it returns false'. Refute it at one input. -/
def packTextsWrong : ChangeSpec := { name := "packTexts", fn := fun _ => fun
  | [d1, d2, d3] => { results := [.lit (.bool false)], args := [d1, d2, d3] }
  | _ => none }
def PackTextsWrongFalsely : Prop := packTextsRow.holds Tryz.pinned (OpenSpec.ofChange packTextsWrong)

/-- 'forebaylaw13.PackManifests': WHATEVER THE INPUT: true; the input reads as it did. -/
def packManifestsSpec : ChangeSpec := { name := "packManifests", fn := fun _ => fun
  | [d] => { results := [.lit (.bool true)], args := [d] }
  | _ => none }
def packManifestsRow : OpenClaim := { program := "ytangapokicnfgaagreat", sum := "b9bbcf1c92224c152975009935172dd112bd8373106c2175844edf5fd5819291", func := "forebay/forebaylaw13.PackManifests", spec := "packManifests", unfollowed := true, recurses := true, plainKeys := false, apart := false }
def PackManifestsSaid : Prop := packManifestsRow.holds Tryz.pinned (OpenSpec.ofChange packManifestsSpec)

/-- ITS FALSE NEIGHBOUR: 'it returns false'. Refute it at one input. -/
def packManifestsWrong : ChangeSpec := { name := "packManifests", fn := fun _ => fun
  | [d] => { results := [.lit (.bool false)], args := [d] }
  | _ => none }
def PackManifestsWrongFalsely : Prop := packManifestsRow.holds Tryz.pinned (OpenSpec.ofChange packManifestsWrong)

/-- 'forebaylaw13.PackSame': WHATEVER THE INPUT: true; the input reads as it did. -/
def packSameSpec : ChangeSpec := { name := "packSame", fn := fun _ => fun
  | [d1, d2] => { results := [.lit (.bool true)], args := [d1, d2] }
  | _ => none }
def packSameRow : OpenClaim := { program := "ytangapokicnfgaagreat", sum := "b9bbcf1c92224c152975009935172dd112bd8373106c2175844edf5fd5819291", func := "forebay/forebaylaw13.PackSame", spec := "packSame", unfollowed := true, recurses := true, plainKeys := false, apart := false }
def PackSameSaid : Prop := packSameRow.holds Tryz.pinned (OpenSpec.ofChange packSameSpec)

/-- ITS FALSE NEIGHBOUR: 'it returns false'. Refute it at one input. -/
def packSameWrong : ChangeSpec := { name := "packSame", fn := fun _ => fun
  | [d1, d2] => { results := [.lit (.bool false)], args := [d1, d2] }
  | _ => none }
def PackSameWrongFalsely : Prop := packSameRow.holds Tryz.pinned (OpenSpec.ofChange packSameWrong)

/- THE SECOND FORM. 'bulk': how many values and letters a reading holds, each counted each time it is reached (what is shared counts as often as it is met; a slice's spare places count too). A statement '..UptoSaid' is the law's where the arguments, and the package variables that the reading takes, are together of bulk at most 1048576: NARROWER than '..Said'. Prove '..Said' where nothing that the law and all that it calls make is longer than what came in: it says more and counts as full. Else prove '..UptoSaid'. A law counts once. -/
mutual
def uptoBulk {H : Type} : DataW H → Nat
  | .lit (.string bytes) => bytes.length + 1
  | .lit _ => 1
  | .nil => 1
  | .ptr d => uptoBulk d + 1
  | .slice elems spare => uptoBulkAll elems + uptoBulkAll spare + 1
  | .agg parts => uptoBulkAll parts + 1
  | .iface _ d => uptoBulk d + 1
  | .map entries => uptoBulkEntries entries + 1
  | .held _ => 1
def uptoBulkAll {H : Type} : List (DataW H) → Nat
  | [] => 0
  | d :: r => uptoBulk d + uptoBulkAll r
def uptoBulkEntries {H : Type} : List (Lit × DataW H) → Nat
  | [] => 0
  | x :: r => uptoBulkEntry x + uptoBulkEntries r
def uptoBulkEntry {H : Type} : Lit × DataW H → Nat
  | (.string bytes, d) => bytes.length + uptoBulk d + 1
  | (_, d) => uptoBulk d + 1
 end
def uptoSmall : (H : Type) → List (DataW H) → Bool := fun _ ds => decide (uptoBulkAll ds ≤ 1048576)
def OpenSpec.upto (s : _root_.Go.ChangeSpec) : _root_.Go.OpenSpec := { _root_.Go.OpenSpec.ofChange s with cond := some uptoSmall }

/-- 'forebaylaw13.PackGraphs', WHERE WHAT IT READS IS OF BULK AT MOST 1048576: true; the input reads as it did. -/
def packGraphsUptoRow : OpenClaim := { program := "ytangapokicnfgaagreat", sum := "b9bbcf1c92224c152975009935172dd112bd8373106c2175844edf5fd5819291", func := "forebay/forebaylaw13.PackGraphs", spec := "packGraphs", unfollowed := true, recurses := true, plainKeys := false, apart := false, narrowed := true }
def PackGraphsUptoSaid : Prop := packGraphsUptoRow.holds Tryz.pinned (OpenSpec.upto packGraphsSpec)

/-- 'forebaylaw13.PackPlans', WHERE WHAT IT READS IS OF BULK AT MOST 1048576: true; the input reads as it did. -/
def packPlansUptoRow : OpenClaim := { program := "ytangapokicnfgaagreat", sum := "b9bbcf1c92224c152975009935172dd112bd8373106c2175844edf5fd5819291", func := "forebay/forebaylaw13.PackPlans", spec := "packPlans", unfollowed := true, recurses := true, plainKeys := false, apart := false, narrowed := true }
def PackPlansUptoSaid : Prop := packPlansUptoRow.holds Tryz.pinned (OpenSpec.upto packPlansSpec)

/-- 'forebaylaw13.PackTexts', WHERE WHAT IT READS IS OF BULK AT MOST 1048576: true; the input reads as it did. -/
def packTextsUptoRow : OpenClaim := { program := "ytangapokicnfgaagreat", sum := "b9bbcf1c92224c152975009935172dd112bd8373106c2175844edf5fd5819291", func := "forebay/forebaylaw13.PackTexts", spec := "packTexts", unfollowed := true, recurses := true, plainKeys := false, apart := false, narrowed := true }
def PackTextsUptoSaid : Prop := packTextsUptoRow.holds Tryz.pinned (OpenSpec.upto packTextsSpec)

/-- 'forebaylaw13.PackManifests', WHERE WHAT IT READS IS OF BULK AT MOST 1048576: true; the input reads as it did. -/
def packManifestsUptoRow : OpenClaim := { program := "ytangapokicnfgaagreat", sum := "b9bbcf1c92224c152975009935172dd112bd8373106c2175844edf5fd5819291", func := "forebay/forebaylaw13.PackManifests", spec := "packManifests", unfollowed := true, recurses := true, plainKeys := false, apart := false, narrowed := true }
def PackManifestsUptoSaid : Prop := packManifestsUptoRow.holds Tryz.pinned (OpenSpec.upto packManifestsSpec)

/-- 'forebaylaw13.PackSame', WHERE WHAT IT READS IS OF BULK AT MOST 1048576: true; the input reads as it did. -/
def packSameUptoRow : OpenClaim := { program := "ytangapokicnfgaagreat", sum := "b9bbcf1c92224c152975009935172dd112bd8373106c2175844edf5fd5819291", func := "forebay/forebaylaw13.PackSame", spec := "packSame", unfollowed := true, recurses := true, plainKeys := false, apart := false, narrowed := true }
def PackSameUptoSaid : Prop := packSameUptoRow.holds Tryz.pinned (OpenSpec.upto packSameSpec)

end Rows
end Go.Proofs.YtangapokicnfgaaGreat
