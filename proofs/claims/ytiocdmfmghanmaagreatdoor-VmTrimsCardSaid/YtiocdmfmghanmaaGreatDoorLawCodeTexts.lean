import Derived.Test.YtiocdmfmghanmaaGreatDoorCodeParse
/-! The law CodeTexts, walked. -/
namespace Go.Proofs.YtiocdmfmghanmaaGreatDoor
set_option linter.unusedSimpArgs false
set_option linter.unusedVariables false
open Go.RowKit Ga
set_option maxRecDepth 100000

/-- What the library's tables hold, at layer 4. -/
structure Env4 (w : World) : Prop where
  m : CellM w
  e : Errs w
  p : Pow w
  a : Asc w
theorem Env4.grew {w w' : World} (h : Env4 w) (g : Grew w w') : Env4 w' := ⟨h.m.grew g, h.e.grew g, h.p.grew g, h.a.grew g⟩
theorem codeParse_env (l : List UInt8) (hs : l.length ≤ 1000000) (w : World) (h : Env4 w) :
    Calls Tryz.prog 17 #[.string ⟨l.toArray⟩] w (fun e w' => ∃ v, e = .returned (.tuple #[v, .int .i64 (Co.parseI l).2]) ∧ ValsAt w' v (Co.parseI l).1 ∧ Grew w w') :=
  codeParse_any l hs w h.m h.e h.p h.a
theorem codeText_env (v : Value) (l : List Val) (w : World) (hv : ValsAt w v l) (h : Env4 w) : Calls Tryz.prog 28 #[v] w (Gives (str (Co.textOut l)) w) := codeText_any v l w hv h.p h.a

def awakeS : List UInt8 := [73, 78, 59, 32, 69, 77, 73, 84]
theorem awakeS_text : Co.textI [(3, 0), (14, 0)] = awakeS := by decide +kernel
theorem awakeS_fits : Co.fitsI [(3, 0), (14, 0)] = true := by decide
theorem awakeS_parse : Co.parseI awakeS = ([(3, 0), (14, 0)], 0) := by rw [← awakeS_text]; exact Co.parse_text awakeS_fits
theorem awakeS_out : Co.textOut [(3, 0), (14, 0)] = awakeS := by unfold Co.textOut; rw [awakeS_fits, if_pos rfl]; exact awakeS_text


end Go.Proofs.YtiocdmfmghanmaaGreatDoor
