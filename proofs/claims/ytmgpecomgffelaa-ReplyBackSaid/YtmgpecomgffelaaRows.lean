/-
  No cell of these rows narrows 'for every input' (looked for: loops, veiled, ifaces, maps, wideKeys, modest, calm, conditions, laid).
  DERIVED. THE GIVEN ROWS OF THIS SEAT. 20 by the template 'for every input the law returns true; each argument reads behind the call as it read before'; 0 by the template 'total and deterministic' (their statements: YtmgpecomgffelaaTotals.lean).
  GIVEN WITH THE SEED: the statements are not yours to turn. If you find one false, say at which input.
  Laid BY PROGRAM, IN A SANDBOX (cutbox-rows.mjs): the forced cells as the released guide's own fill.sh prints them over the translation 14720e0e6b2c71f2… (all of the seat's roots in one cut). By AI agents, Wed Nov 11 2026. No macro, syntax, notation, axiom, sorry.
-/
import Derived.Test.YtmgpecomgffelaaChecked
import GoSem.Claim
import GoSem.ClaimJoined
import GoSem.ClaimMapViews
import Derived.JoinedTies
import Derived.KernelRfl
namespace Go.Proofs.Ytmgpecomgffelaa
/- THE CELL 'sum', in the pinned program and in every row, IS THE sha256 OF THE DUMP (.gsa) THAT YtmgpecomgffelaaProg.lean LOADS. Nothing in Lean hashes anything: it is a label: what it is worth is what the hold of that sum in a sandbox is worth. -/
noncomputable def Try.pinned : Pinned := { name := "ytmgpecomgffelaa", sum := "14720e0e6b2c71f22550421bdd5579128af2440405e40ef2be0edb5a17c4a661", checked := Try.checked }
namespace Rows
def none {H : Type} : Left H := { results := [], args := [] }

/-- 'liverylaw02.ValueCodes': WHATEVER THE INPUT: true; the input reads as it did. -/
def valueCodesSpec : ChangeSpec := { name := "valueCodes", fn := fun _ => fun
  | [d1, d2, d3] => { results := [.lit (.bool true)], args := [d1, d2, d3] }
  | _ => none }
def valueCodesRow : OpenClaim := { program := "ytmgpecomgffelaa", sum := "14720e0e6b2c71f22550421bdd5579128af2440405e40ef2be0edb5a17c4a661", func := "livery/liverylaw02.ValueCodes", spec := "valueCodes", inPlace := ["math.Float64bits", "math.Float64frombits", "internal/bytealg.abigen_runtime_cmpstring"], unfollowed := true, recurses := true, apart := false }
def ValueCodesSaid : Prop := valueCodesRow.holds Try.pinned (OpenSpec.ofChange valueCodesSpec)

/-- ITS FALSE NEIGHBOUR: 'it returns false'. Refute it at one input. -/
def valueCodesWrong : ChangeSpec := { name := "valueCodes", fn := fun _ => fun
  | [d1, d2, d3] => { results := [.lit (.bool false)], args := [d1, d2, d3] }
  | _ => none }
def ValueCodesWrongFalsely : Prop := valueCodesRow.holds Try.pinned (OpenSpec.ofChange valueCodesWrong)

/-- 'liverylaw02.ValueRows': WHATEVER THE INPUT: true; the input reads as it did. -/
def valueRowsSpec : ChangeSpec := { name := "valueRows", fn := fun _ => fun
  | [d1, d2] => { results := [.lit (.bool true)], args := [d1, d2] }
  | _ => none }
def valueRowsRow : OpenClaim := { program := "ytmgpecomgffelaa", sum := "14720e0e6b2c71f22550421bdd5579128af2440405e40ef2be0edb5a17c4a661", func := "livery/liverylaw02.ValueRows", spec := "valueRows", inPlace := ["math.Float64bits", "math.Float64frombits", "internal/bytealg.abigen_runtime_cmpstring"], unfollowed := true, recurses := true, apart := false }
def ValueRowsSaid : Prop := valueRowsRow.holds Try.pinned (OpenSpec.ofChange valueRowsSpec)

/-- ITS FALSE NEIGHBOUR: 'it returns false'. Refute it at one input. -/
def valueRowsWrong : ChangeSpec := { name := "valueRows", fn := fun _ => fun
  | [d1, d2] => { results := [.lit (.bool false)], args := [d1, d2] }
  | _ => none }
def ValueRowsWrongFalsely : Prop := valueRowsRow.holds Try.pinned (OpenSpec.ofChange valueRowsWrong)

/-- 'liverylaw04.RowPads': WHATEVER THE INPUT: true; the input reads as it did. -/
def rowPadsSpec : ChangeSpec := { name := "rowPads", fn := fun _ => fun
  | [d1, d2] => { results := [.lit (.bool true)], args := [d1, d2] }
  | _ => none }
def rowPadsRow : OpenClaim := { program := "ytmgpecomgffelaa", sum := "14720e0e6b2c71f22550421bdd5579128af2440405e40ef2be0edb5a17c4a661", func := "livery/liverylaw04.RowPads", spec := "rowPads", inPlace := ["math.Float64bits", "math.Float64frombits"], unfollowed := true, recurses := true, apart := false }
def RowPadsSaid : Prop := rowPadsRow.holds Try.pinned (OpenSpec.ofChange rowPadsSpec)

/-- ITS FALSE NEIGHBOUR: 'it returns false'. Refute it at one input. -/
def rowPadsWrong : ChangeSpec := { name := "rowPads", fn := fun _ => fun
  | [d1, d2] => { results := [.lit (.bool false)], args := [d1, d2] }
  | _ => none }
def RowPadsWrongFalsely : Prop := rowPadsRow.holds Try.pinned (OpenSpec.ofChange rowPadsWrong)

/-- 'liverylaw01.FloatOrder': WHATEVER THE INPUT: true; the input reads as it did. -/
def floatOrderSpec : ChangeSpec := { name := "floatOrder", fn := fun _ => fun
  | [d1, d2] => { results := [.lit (.bool true)], args := [d1, d2] }
  | _ => none }
def floatOrderRow : OpenClaim := { program := "ytmgpecomgffelaa", sum := "14720e0e6b2c71f22550421bdd5579128af2440405e40ef2be0edb5a17c4a661", func := "livery/liverylaw01.FloatOrder", spec := "floatOrder", inPlace := ["math.Float64frombits", "math.Float64bits"], apart := false }
def FloatOrderSaid : Prop := floatOrderRow.holds Try.pinned (OpenSpec.ofChange floatOrderSpec)

/-- ITS FALSE NEIGHBOUR: 'it returns false'. Refute it at one input. -/
def floatOrderWrong : ChangeSpec := { name := "floatOrder", fn := fun _ => fun
  | [d1, d2] => { results := [.lit (.bool false)], args := [d1, d2] }
  | _ => none }
def FloatOrderWrongFalsely : Prop := floatOrderRow.holds Try.pinned (OpenSpec.ofChange floatOrderWrong)

/-- 'liverylaw01.FloatNext': WHATEVER THE INPUT: true; the input reads as it did. -/
def floatNextSpec : ChangeSpec := { name := "floatNext", fn := fun _ => fun
  | [d1, d2] => { results := [.lit (.bool true)], args := [d1, d2] }
  | _ => none }
def floatNextRow : OpenClaim := { program := "ytmgpecomgffelaa", sum := "14720e0e6b2c71f22550421bdd5579128af2440405e40ef2be0edb5a17c4a661", func := "livery/liverylaw01.FloatNext", spec := "floatNext", inPlace := ["math.Float64bits", "math.Float64frombits"], apart := false }
def FloatNextSaid : Prop := floatNextRow.holds Try.pinned (OpenSpec.ofChange floatNextSpec)

/-- ITS FALSE NEIGHBOUR: 'it returns false'. Refute it at one input. -/
def floatNextWrong : ChangeSpec := { name := "floatNext", fn := fun _ => fun
  | [d1, d2] => { results := [.lit (.bool false)], args := [d1, d2] }
  | _ => none }
def FloatNextWrongFalsely : Prop := floatNextRow.holds Try.pinned (OpenSpec.ofChange floatNextWrong)

/-- 'liverylaw01.FloatTotal': WHATEVER THE INPUT: true; the input reads as it did. -/
def floatTotalSpec : ChangeSpec := { name := "floatTotal", fn := fun _ => fun
  | [d1, d2, d3] => { results := [.lit (.bool true)], args := [d1, d2, d3] }
  | _ => none }
def floatTotalRow : OpenClaim := { program := "ytmgpecomgffelaa", sum := "14720e0e6b2c71f22550421bdd5579128af2440405e40ef2be0edb5a17c4a661", func := "livery/liverylaw01.FloatTotal", spec := "floatTotal", inPlace := ["math.Float64frombits", "math.Float64bits"], apart := false }
def FloatTotalSaid : Prop := floatTotalRow.holds Try.pinned (OpenSpec.ofChange floatTotalSpec)

/-- ITS FALSE NEIGHBOUR: 'it returns false'. Refute it at one input. -/
def floatTotalWrong : ChangeSpec := { name := "floatTotal", fn := fun _ => fun
  | [d1, d2, d3] => { results := [.lit (.bool false)], args := [d1, d2, d3] }
  | _ => none }
def FloatTotalWrongFalsely : Prop := floatTotalRow.holds Try.pinned (OpenSpec.ofChange floatTotalWrong)

/-- 'liverylaw01.FloatCanon': WHATEVER THE INPUT: true; the input reads as it did. -/
def floatCanonSpec : ChangeSpec := { name := "floatCanon", fn := fun _ => fun
  | [d] => { results := [.lit (.bool true)], args := [d] }
  | _ => none }
def floatCanonRow : OpenClaim := { program := "ytmgpecomgffelaa", sum := "14720e0e6b2c71f22550421bdd5579128af2440405e40ef2be0edb5a17c4a661", func := "livery/liverylaw01.FloatCanon", spec := "floatCanon", inPlace := ["math.Float64frombits", "math.Float64bits"], apart := false }
def FloatCanonSaid : Prop := floatCanonRow.holds Try.pinned (OpenSpec.ofChange floatCanonSpec)

/-- ITS FALSE NEIGHBOUR: 'it returns false'. Refute it at one input. -/
def floatCanonWrong : ChangeSpec := { name := "floatCanon", fn := fun _ => fun
  | [d] => { results := [.lit (.bool false)], args := [d] }
  | _ => none }
def FloatCanonWrongFalsely : Prop := floatCanonRow.holds Try.pinned (OpenSpec.ofChange floatCanonWrong)

/-- 'liverylaw04.RowFills': WHATEVER THE INPUT: true; the input reads as it did. -/
def rowFillsSpec : ChangeSpec := { name := "rowFills", fn := fun _ => fun
  | [d1, d2, d3] => { results := [.lit (.bool true)], args := [d1, d2, d3] }
  | _ => none }
def rowFillsRow : OpenClaim := { program := "ytmgpecomgffelaa", sum := "14720e0e6b2c71f22550421bdd5579128af2440405e40ef2be0edb5a17c4a661", func := "livery/liverylaw04.RowFills", spec := "rowFills", inPlace := ["math.Float64bits", "math.Float64frombits"], unfollowed := true, recurses := true, apart := false }
def RowFillsSaid : Prop := rowFillsRow.holds Try.pinned (OpenSpec.ofChange rowFillsSpec)

/-- ITS FALSE NEIGHBOUR: 'it returns false'. Refute it at one input. -/
def rowFillsWrong : ChangeSpec := { name := "rowFills", fn := fun _ => fun
  | [d1, d2, d3] => { results := [.lit (.bool false)], args := [d1, d2, d3] }
  | _ => none }
def RowFillsWrongFalsely : Prop := rowFillsRow.holds Try.pinned (OpenSpec.ofChange rowFillsWrong)

/-- 'liverylaw04.RowErrors': WHATEVER THE INPUT: true; the input reads as it did. -/
def rowErrorsSpec : ChangeSpec := { name := "rowErrors", fn := fun _ => fun
  | [d1, d2, d3] => { results := [.lit (.bool true)], args := [d1, d2, d3] }
  | _ => none }
def rowErrorsRow : OpenClaim := { program := "ytmgpecomgffelaa", sum := "14720e0e6b2c71f22550421bdd5579128af2440405e40ef2be0edb5a17c4a661", func := "livery/liverylaw04.RowErrors", spec := "rowErrors", inPlace := ["math.Float64bits", "math.Float64frombits"], unfollowed := true, recurses := true, apart := false }
def RowErrorsSaid : Prop := rowErrorsRow.holds Try.pinned (OpenSpec.ofChange rowErrorsSpec)

/-- ITS FALSE NEIGHBOUR: 'it returns false'. Refute it at one input. -/
def rowErrorsWrong : ChangeSpec := { name := "rowErrors", fn := fun _ => fun
  | [d1, d2, d3] => { results := [.lit (.bool false)], args := [d1, d2, d3] }
  | _ => none }
def RowErrorsWrongFalsely : Prop := rowErrorsRow.holds Try.pinned (OpenSpec.ofChange rowErrorsWrong)

/-- 'liverylaw01.FloatFrom': WHATEVER THE INPUT: true; the input reads as it did. -/
def floatFromSpec : ChangeSpec := { name := "floatFrom", fn := fun _ => fun
  | [d] => { results := [.lit (.bool true)], args := [d] }
  | _ => none }
def floatFromRow : OpenClaim := { program := "ytmgpecomgffelaa", sum := "14720e0e6b2c71f22550421bdd5579128af2440405e40ef2be0edb5a17c4a661", func := "livery/liverylaw01.FloatFrom", spec := "floatFrom", inPlace := ["math.Float64frombits", "math.Float64bits"], apart := false }
def FloatFromSaid : Prop := floatFromRow.holds Try.pinned (OpenSpec.ofChange floatFromSpec)

/-- ITS FALSE NEIGHBOUR: 'it returns false'. Refute it at one input. -/
def floatFromWrong : ChangeSpec := { name := "floatFrom", fn := fun _ => fun
  | [d] => { results := [.lit (.bool false)], args := [d] }
  | _ => none }
def FloatFromWrongFalsely : Prop := floatFromRow.holds Try.pinned (OpenSpec.ofChange floatFromWrong)

/-- 'liverylaw01.FloatEnds': WHATEVER THE INPUT: true; the input reads as it did. -/
def floatEndsSpec : ChangeSpec := { name := "floatEnds", fn := fun _ => fun
  | [d] => { results := [.lit (.bool true)], args := [d] }
  | _ => none }
def floatEndsRow : OpenClaim := { program := "ytmgpecomgffelaa", sum := "14720e0e6b2c71f22550421bdd5579128af2440405e40ef2be0edb5a17c4a661", func := "livery/liverylaw01.FloatEnds", spec := "floatEnds", inPlace := ["math.Float64bits", "math.Float64frombits"], unfollowed := true, recurses := true, apart := false }
def FloatEndsSaid : Prop := floatEndsRow.holds Try.pinned (OpenSpec.ofChange floatEndsSpec)

/-- ITS FALSE NEIGHBOUR: 'it returns false'. Refute it at one input. -/
def floatEndsWrong : ChangeSpec := { name := "floatEnds", fn := fun _ => fun
  | [d] => { results := [.lit (.bool false)], args := [d] }
  | _ => none }
def FloatEndsWrongFalsely : Prop := floatEndsRow.holds Try.pinned (OpenSpec.ofChange floatEndsWrong)

/-- 'liverylaw01.FloatTurned': WHATEVER THE INPUT: true; the input reads as it did. -/
def floatTurnedSpec : ChangeSpec := { name := "floatTurned", fn := fun _ => fun
  | [d1, d2, d3] => { results := [.lit (.bool true)], args := [d1, d2, d3] }
  | _ => none }
def floatTurnedRow : OpenClaim := { program := "ytmgpecomgffelaa", sum := "14720e0e6b2c71f22550421bdd5579128af2440405e40ef2be0edb5a17c4a661", func := "livery/liverylaw01.FloatTurned", spec := "floatTurned", inPlace := ["math.Float64bits", "math.Float64frombits"], unfollowed := true, recurses := true, apart := false }
def FloatTurnedSaid : Prop := floatTurnedRow.holds Try.pinned (OpenSpec.ofChange floatTurnedSpec)

/-- ITS FALSE NEIGHBOUR: 'it returns false'. Refute it at one input. -/
def floatTurnedWrong : ChangeSpec := { name := "floatTurned", fn := fun _ => fun
  | [d1, d2, d3] => { results := [.lit (.bool false)], args := [d1, d2, d3] }
  | _ => none }
def FloatTurnedWrongFalsely : Prop := floatTurnedRow.holds Try.pinned (OpenSpec.ofChange floatTurnedWrong)

/-- 'liverylaw01.FloatTexts': WHATEVER THE INPUT: true; the input reads as it did. -/
def floatTextsSpec : ChangeSpec := { name := "floatTexts", fn := fun _ => fun
  | [d1, d2] => { results := [.lit (.bool true)], args := [d1, d2] }
  | _ => none }
def floatTextsRow : OpenClaim := { program := "ytmgpecomgffelaa", sum := "14720e0e6b2c71f22550421bdd5579128af2440405e40ef2be0edb5a17c4a661", func := "livery/liverylaw01.FloatTexts", spec := "floatTexts", inPlace := ["math.Float64bits", "math.Float64frombits"], apart := false }
def FloatTextsSaid : Prop := floatTextsRow.holds Try.pinned (OpenSpec.ofChange floatTextsSpec)

/-- ITS FALSE NEIGHBOUR: 'it returns false'. Refute it at one input. -/
def floatTextsWrong : ChangeSpec := { name := "floatTexts", fn := fun _ => fun
  | [d1, d2] => { results := [.lit (.bool false)], args := [d1, d2] }
  | _ => none }
def FloatTextsWrongFalsely : Prop := floatTextsRow.holds Try.pinned (OpenSpec.ofChange floatTextsWrong)

/-- 'liverylaw04.RowColumns': WHATEVER THE INPUT: true; the input reads as it did. -/
def rowColumnsSpec : ChangeSpec := { name := "rowColumns", fn := fun _ => fun
  | [d1, d2, d3] => { results := [.lit (.bool true)], args := [d1, d2, d3] }
  | _ => none }
def rowColumnsRow : OpenClaim := { program := "ytmgpecomgffelaa", sum := "14720e0e6b2c71f22550421bdd5579128af2440405e40ef2be0edb5a17c4a661", func := "livery/liverylaw04.RowColumns", spec := "rowColumns", inPlace := ["math.Float64bits", "math.Float64frombits"], unfollowed := true, recurses := true, apart := false }
def RowColumnsSaid : Prop := rowColumnsRow.holds Try.pinned (OpenSpec.ofChange rowColumnsSpec)

/-- ITS FALSE NEIGHBOUR: 'it returns false'. Refute it at one input. -/
def rowColumnsWrong : ChangeSpec := { name := "rowColumns", fn := fun _ => fun
  | [d1, d2, d3] => { results := [.lit (.bool false)], args := [d1, d2, d3] }
  | _ => none }
def RowColumnsWrongFalsely : Prop := rowColumnsRow.holds Try.pinned (OpenSpec.ofChange rowColumnsWrong)

/-- 'liverylaw04.RowTaken': WHATEVER THE INPUT: true; the input reads as it did. -/
def rowTakenSpec : ChangeSpec := { name := "rowTaken", fn := fun _ => fun
  | [d1, d2, d3] => { results := [.lit (.bool true)], args := [d1, d2, d3] }
  | _ => none }
def rowTakenRow : OpenClaim := { program := "ytmgpecomgffelaa", sum := "14720e0e6b2c71f22550421bdd5579128af2440405e40ef2be0edb5a17c4a661", func := "livery/liverylaw04.RowTaken", spec := "rowTaken", inPlace := ["math.Float64bits", "math.Float64frombits"], unfollowed := true, recurses := true, apart := false }
def RowTakenSaid : Prop := rowTakenRow.holds Try.pinned (OpenSpec.ofChange rowTakenSpec)

/-- ITS FALSE NEIGHBOUR: 'it returns false'. Refute it at one input. -/
def rowTakenWrong : ChangeSpec := { name := "rowTaken", fn := fun _ => fun
  | [d1, d2, d3] => { results := [.lit (.bool false)], args := [d1, d2, d3] }
  | _ => none }
def RowTakenWrongFalsely : Prop := rowTakenRow.holds Try.pinned (OpenSpec.ofChange rowTakenWrong)

/-- 'liverylaw17.ReplyBack': WHATEVER THE INPUT: true; the input reads as it did. -/
def replyBackSpec : ChangeSpec := { name := "replyBack", fn := fun _ => fun
  | [d1, d2] => { results := [.lit (.bool true)], args := [d1, d2] }
  | _ => none }
def replyBackRow : OpenClaim := { program := "ytmgpecomgffelaa", sum := "14720e0e6b2c71f22550421bdd5579128af2440405e40ef2be0edb5a17c4a661", func := "livery/liverylaw17.ReplyBack", spec := "replyBack", inPlace := ["math.Float64bits", "math.Float64frombits", "internal/bytealg.abigen_runtime_cmpstring"], unfollowed := true, recurses := true, apart := false }
def ReplyBackSaid : Prop := replyBackRow.holds Try.pinned (OpenSpec.ofChange replyBackSpec)

/-- ITS FALSE NEIGHBOUR: 'it returns false'. Refute it at one input. -/
def replyBackWrong : ChangeSpec := { name := "replyBack", fn := fun _ => fun
  | [d1, d2] => { results := [.lit (.bool false)], args := [d1, d2] }
  | _ => none }
def ReplyBackWrongFalsely : Prop := replyBackRow.holds Try.pinned (OpenSpec.ofChange replyBackWrong)

/-- 'liverylaw17.ReplyEncodes': WHATEVER THE INPUT: true; the input reads as it did. -/
def replyEncodesSpec : ChangeSpec := { name := "replyEncodes", fn := fun _ => fun
  | [d] => { results := [.lit (.bool true)], args := [d] }
  | _ => none }
def replyEncodesRow : OpenClaim := { program := "ytmgpecomgffelaa", sum := "14720e0e6b2c71f22550421bdd5579128af2440405e40ef2be0edb5a17c4a661", func := "livery/liverylaw17.ReplyEncodes", spec := "replyEncodes", inPlace := ["math.Float64bits", "math.Float64frombits", "internal/bytealg.abigen_runtime_cmpstring"], unfollowed := true, recurses := true, apart := false }
def ReplyEncodesSaid : Prop := replyEncodesRow.holds Try.pinned (OpenSpec.ofChange replyEncodesSpec)

/-- ITS FALSE NEIGHBOUR: 'it returns false'. Refute it at one input. -/
def replyEncodesWrong : ChangeSpec := { name := "replyEncodes", fn := fun _ => fun
  | [d] => { results := [.lit (.bool false)], args := [d] }
  | _ => none }
def ReplyEncodesWrongFalsely : Prop := replyEncodesRow.holds Try.pinned (OpenSpec.ofChange replyEncodesWrong)

/-- 'liverylaw17.ReplyDecodes': WHATEVER THE INPUT: true; the input reads as it did. -/
def replyDecodesSpec : ChangeSpec := { name := "replyDecodes", fn := fun _ => fun
  | [d] => { results := [.lit (.bool true)], args := [d] }
  | _ => none }
def replyDecodesRow : OpenClaim := { program := "ytmgpecomgffelaa", sum := "14720e0e6b2c71f22550421bdd5579128af2440405e40ef2be0edb5a17c4a661", func := "livery/liverylaw17.ReplyDecodes", spec := "replyDecodes", inPlace := ["math.Float64bits", "math.Float64frombits", "internal/bytealg.abigen_runtime_cmpstring"], unfollowed := true, recurses := true, apart := false }
def ReplyDecodesSaid : Prop := replyDecodesRow.holds Try.pinned (OpenSpec.ofChange replyDecodesSpec)

/-- ITS FALSE NEIGHBOUR: 'it returns false'. Refute it at one input. -/
def replyDecodesWrong : ChangeSpec := { name := "replyDecodes", fn := fun _ => fun
  | [d] => { results := [.lit (.bool false)], args := [d] }
  | _ => none }
def ReplyDecodesWrongFalsely : Prop := replyDecodesRow.holds Try.pinned (OpenSpec.ofChange replyDecodesWrong)

/-- 'liverylaw17.ReplySames': WHATEVER THE INPUT: true; the input reads as it did. -/
def replySamesSpec : ChangeSpec := { name := "replySames", fn := fun _ => fun
  | [d1, d2] => { results := [.lit (.bool true)], args := [d1, d2] }
  | _ => none }
def replySamesRow : OpenClaim := { program := "ytmgpecomgffelaa", sum := "14720e0e6b2c71f22550421bdd5579128af2440405e40ef2be0edb5a17c4a661", func := "livery/liverylaw17.ReplySames", spec := "replySames", inPlace := ["math.Float64bits", "math.Float64frombits", "internal/bytealg.abigen_runtime_cmpstring"], unfollowed := true, recurses := true, apart := false }
def ReplySamesSaid : Prop := replySamesRow.holds Try.pinned (OpenSpec.ofChange replySamesSpec)

/-- ITS FALSE NEIGHBOUR: 'it returns false'. Refute it at one input. -/
def replySamesWrong : ChangeSpec := { name := "replySames", fn := fun _ => fun
  | [d1, d2] => { results := [.lit (.bool false)], args := [d1, d2] }
  | _ => none }
def ReplySamesWrongFalsely : Prop := replySamesRow.holds Try.pinned (OpenSpec.ofChange replySamesWrong)

/-- 'liverylaw02.ValueBack': WHATEVER THE INPUT: true; the input reads as it did. -/
def valueBackSpec : ChangeSpec := { name := "valueBack", fn := fun _ => fun
  | [d1, d2, d3] => { results := [.lit (.bool true)], args := [d1, d2, d3] }
  | _ => none }
def valueBackRow : OpenClaim := { program := "ytmgpecomgffelaa", sum := "14720e0e6b2c71f22550421bdd5579128af2440405e40ef2be0edb5a17c4a661", func := "livery/liverylaw02.ValueBack", spec := "valueBack", inPlace := ["math.Float64bits", "math.Float64frombits", "internal/bytealg.abigen_runtime_cmpstring"], unfollowed := true, recurses := true, apart := false }
def ValueBackSaid : Prop := valueBackRow.holds Try.pinned (OpenSpec.ofChange valueBackSpec)

/-- ITS FALSE NEIGHBOUR: 'it returns false'. Refute it at one input. -/
def valueBackWrong : ChangeSpec := { name := "valueBack", fn := fun _ => fun
  | [d1, d2, d3] => { results := [.lit (.bool false)], args := [d1, d2, d3] }
  | _ => none }
def ValueBackWrongFalsely : Prop := valueBackRow.holds Try.pinned (OpenSpec.ofChange valueBackWrong)

/- THE SECOND FORM. 'bulk': how many values and letters a reading holds, each counted each time it is reached (what is shared counts as often as it is met; a slice's spare places count too). A statement '..UptoSaid' is the law's where the arguments, and the package variables that the reading takes, are together of bulk at most 1048576: NARROWER than '..Said'. Prove '..Said' where nothing that the law and all that it calls make is longer than what came in: it says more and counts as full. Else prove '..UptoSaid'. A law counts once. -/
mutual
def uptoBulk {H : Type} : DataW H → Nat
  | .lit (.string bytes) => bytes.length + 1
  | .lit _ => 1
  | .nil => 1
  | .ptr d => uptoBulk d + 1
  | .slice elems spare => uptoBulkAll elems + uptoBulkAll spare + 1
  | .agg parts => uptoBulkAll parts + 1
  | .iface _ d => uptoBulk d + 1
  | .map entries => uptoBulkEntries entries + 1
  | .held _ => 1
def uptoBulkAll {H : Type} : List (DataW H) → Nat
  | [] => 0
  | d :: r => uptoBulk d + uptoBulkAll r
def uptoBulkEntries {H : Type} : List (Lit × DataW H) → Nat
  | [] => 0
  | x :: r => uptoBulkEntry x + uptoBulkEntries r
def uptoBulkEntry {H : Type} : Lit × DataW H → Nat
  | (.string bytes, d) => bytes.length + uptoBulk d + 1
  | (_, d) => uptoBulk d + 1
 end
def uptoSmall : (H : Type) → List (DataW H) → Bool := fun _ ds => decide (uptoBulkAll ds ≤ 1048576)
def OpenSpec.upto (s : _root_.Go.ChangeSpec) : _root_.Go.OpenSpec := { _root_.Go.OpenSpec.ofChange s with cond := some uptoSmall }

/-- 'liverylaw02.ValueCodes', WHERE WHAT IT READS IS OF BULK AT MOST 1048576: true; the input reads as it did. -/
def valueCodesUptoRow : OpenClaim := { program := "ytmgpecomgffelaa", sum := "14720e0e6b2c71f22550421bdd5579128af2440405e40ef2be0edb5a17c4a661", func := "livery/liverylaw02.ValueCodes", spec := "valueCodes", inPlace := ["math.Float64bits", "math.Float64frombits", "internal/bytealg.abigen_runtime_cmpstring"], unfollowed := true, recurses := true, apart := false, narrowed := true }
def ValueCodesUptoSaid : Prop := valueCodesUptoRow.holds Try.pinned (OpenSpec.upto valueCodesSpec)

/-- 'liverylaw02.ValueRows', WHERE WHAT IT READS IS OF BULK AT MOST 1048576: true; the input reads as it did. -/
def valueRowsUptoRow : OpenClaim := { program := "ytmgpecomgffelaa", sum := "14720e0e6b2c71f22550421bdd5579128af2440405e40ef2be0edb5a17c4a661", func := "livery/liverylaw02.ValueRows", spec := "valueRows", inPlace := ["math.Float64bits", "math.Float64frombits", "internal/bytealg.abigen_runtime_cmpstring"], unfollowed := true, recurses := true, apart := false, narrowed := true }
def ValueRowsUptoSaid : Prop := valueRowsUptoRow.holds Try.pinned (OpenSpec.upto valueRowsSpec)

/-- 'liverylaw04.RowPads', WHERE WHAT IT READS IS OF BULK AT MOST 1048576: true; the input reads as it did. -/
def rowPadsUptoRow : OpenClaim := { program := "ytmgpecomgffelaa", sum := "14720e0e6b2c71f22550421bdd5579128af2440405e40ef2be0edb5a17c4a661", func := "livery/liverylaw04.RowPads", spec := "rowPads", inPlace := ["math.Float64bits", "math.Float64frombits"], unfollowed := true, recurses := true, apart := false, narrowed := true }
def RowPadsUptoSaid : Prop := rowPadsUptoRow.holds Try.pinned (OpenSpec.upto rowPadsSpec)

/-- 'liverylaw01.FloatOrder', WHERE WHAT IT READS IS OF BULK AT MOST 1048576: true; the input reads as it did. -/
def floatOrderUptoRow : OpenClaim := { program := "ytmgpecomgffelaa", sum := "14720e0e6b2c71f22550421bdd5579128af2440405e40ef2be0edb5a17c4a661", func := "livery/liverylaw01.FloatOrder", spec := "floatOrder", inPlace := ["math.Float64frombits", "math.Float64bits"], apart := false, narrowed := true }
def FloatOrderUptoSaid : Prop := floatOrderUptoRow.holds Try.pinned (OpenSpec.upto floatOrderSpec)

/-- 'liverylaw01.FloatNext', WHERE WHAT IT READS IS OF BULK AT MOST 1048576: true; the input reads as it did. -/
def floatNextUptoRow : OpenClaim := { program := "ytmgpecomgffelaa", sum := "14720e0e6b2c71f22550421bdd5579128af2440405e40ef2be0edb5a17c4a661", func := "livery/liverylaw01.FloatNext", spec := "floatNext", inPlace := ["math.Float64bits", "math.Float64frombits"], apart := false, narrowed := true }
def FloatNextUptoSaid : Prop := floatNextUptoRow.holds Try.pinned (OpenSpec.upto floatNextSpec)

/-- 'liverylaw01.FloatTotal', WHERE WHAT IT READS IS OF BULK AT MOST 1048576: true; the input reads as it did. -/
def floatTotalUptoRow : OpenClaim := { program := "ytmgpecomgffelaa", sum := "14720e0e6b2c71f22550421bdd5579128af2440405e40ef2be0edb5a17c4a661", func := "livery/liverylaw01.FloatTotal", spec := "floatTotal", inPlace := ["math.Float64frombits", "math.Float64bits"], apart := false, narrowed := true }
def FloatTotalUptoSaid : Prop := floatTotalUptoRow.holds Try.pinned (OpenSpec.upto floatTotalSpec)

/-- 'liverylaw01.FloatCanon', WHERE WHAT IT READS IS OF BULK AT MOST 1048576: true; the input reads as it did. -/
def floatCanonUptoRow : OpenClaim := { program := "ytmgpecomgffelaa", sum := "14720e0e6b2c71f22550421bdd5579128af2440405e40ef2be0edb5a17c4a661", func := "livery/liverylaw01.FloatCanon", spec := "floatCanon", inPlace := ["math.Float64frombits", "math.Float64bits"], apart := false, narrowed := true }
def FloatCanonUptoSaid : Prop := floatCanonUptoRow.holds Try.pinned (OpenSpec.upto floatCanonSpec)

/-- 'liverylaw04.RowFills', WHERE WHAT IT READS IS OF BULK AT MOST 1048576: true; the input reads as it did. -/
def rowFillsUptoRow : OpenClaim := { program := "ytmgpecomgffelaa", sum := "14720e0e6b2c71f22550421bdd5579128af2440405e40ef2be0edb5a17c4a661", func := "livery/liverylaw04.RowFills", spec := "rowFills", inPlace := ["math.Float64bits", "math.Float64frombits"], unfollowed := true, recurses := true, apart := false, narrowed := true }
def RowFillsUptoSaid : Prop := rowFillsUptoRow.holds Try.pinned (OpenSpec.upto rowFillsSpec)

/-- 'liverylaw04.RowErrors', WHERE WHAT IT READS IS OF BULK AT MOST 1048576: true; the input reads as it did. -/
def rowErrorsUptoRow : OpenClaim := { program := "ytmgpecomgffelaa", sum := "14720e0e6b2c71f22550421bdd5579128af2440405e40ef2be0edb5a17c4a661", func := "livery/liverylaw04.RowErrors", spec := "rowErrors", inPlace := ["math.Float64bits", "math.Float64frombits"], unfollowed := true, recurses := true, apart := false, narrowed := true }
def RowErrorsUptoSaid : Prop := rowErrorsUptoRow.holds Try.pinned (OpenSpec.upto rowErrorsSpec)

/-- 'liverylaw01.FloatFrom', WHERE WHAT IT READS IS OF BULK AT MOST 1048576: true; the input reads as it did. -/
def floatFromUptoRow : OpenClaim := { program := "ytmgpecomgffelaa", sum := "14720e0e6b2c71f22550421bdd5579128af2440405e40ef2be0edb5a17c4a661", func := "livery/liverylaw01.FloatFrom", spec := "floatFrom", inPlace := ["math.Float64frombits", "math.Float64bits"], apart := false, narrowed := true }
def FloatFromUptoSaid : Prop := floatFromUptoRow.holds Try.pinned (OpenSpec.upto floatFromSpec)

/-- 'liverylaw01.FloatEnds', WHERE WHAT IT READS IS OF BULK AT MOST 1048576: true; the input reads as it did. -/
def floatEndsUptoRow : OpenClaim := { program := "ytmgpecomgffelaa", sum := "14720e0e6b2c71f22550421bdd5579128af2440405e40ef2be0edb5a17c4a661", func := "livery/liverylaw01.FloatEnds", spec := "floatEnds", inPlace := ["math.Float64bits", "math.Float64frombits"], unfollowed := true, recurses := true, apart := false, narrowed := true }
def FloatEndsUptoSaid : Prop := floatEndsUptoRow.holds Try.pinned (OpenSpec.upto floatEndsSpec)

/-- 'liverylaw01.FloatTurned', WHERE WHAT IT READS IS OF BULK AT MOST 1048576: true; the input reads as it did. -/
def floatTurnedUptoRow : OpenClaim := { program := "ytmgpecomgffelaa", sum := "14720e0e6b2c71f22550421bdd5579128af2440405e40ef2be0edb5a17c4a661", func := "livery/liverylaw01.FloatTurned", spec := "floatTurned", inPlace := ["math.Float64bits", "math.Float64frombits"], unfollowed := true, recurses := true, apart := false, narrowed := true }
def FloatTurnedUptoSaid : Prop := floatTurnedUptoRow.holds Try.pinned (OpenSpec.upto floatTurnedSpec)

/-- 'liverylaw01.FloatTexts', WHERE WHAT IT READS IS OF BULK AT MOST 1048576: true; the input reads as it did. -/
def floatTextsUptoRow : OpenClaim := { program := "ytmgpecomgffelaa", sum := "14720e0e6b2c71f22550421bdd5579128af2440405e40ef2be0edb5a17c4a661", func := "livery/liverylaw01.FloatTexts", spec := "floatTexts", inPlace := ["math.Float64bits", "math.Float64frombits"], apart := false, narrowed := true }
def FloatTextsUptoSaid : Prop := floatTextsUptoRow.holds Try.pinned (OpenSpec.upto floatTextsSpec)

/-- 'liverylaw04.RowColumns', WHERE WHAT IT READS IS OF BULK AT MOST 1048576: true; the input reads as it did. -/
def rowColumnsUptoRow : OpenClaim := { program := "ytmgpecomgffelaa", sum := "14720e0e6b2c71f22550421bdd5579128af2440405e40ef2be0edb5a17c4a661", func := "livery/liverylaw04.RowColumns", spec := "rowColumns", inPlace := ["math.Float64bits", "math.Float64frombits"], unfollowed := true, recurses := true, apart := false, narrowed := true }
def RowColumnsUptoSaid : Prop := rowColumnsUptoRow.holds Try.pinned (OpenSpec.upto rowColumnsSpec)

/-- 'liverylaw04.RowTaken', WHERE WHAT IT READS IS OF BULK AT MOST 1048576: true; the input reads as it did. -/
def rowTakenUptoRow : OpenClaim := { program := "ytmgpecomgffelaa", sum := "14720e0e6b2c71f22550421bdd5579128af2440405e40ef2be0edb5a17c4a661", func := "livery/liverylaw04.RowTaken", spec := "rowTaken", inPlace := ["math.Float64bits", "math.Float64frombits"], unfollowed := true, recurses := true, apart := false, narrowed := true }
def RowTakenUptoSaid : Prop := rowTakenUptoRow.holds Try.pinned (OpenSpec.upto rowTakenSpec)

/-- 'liverylaw17.ReplyBack', WHERE WHAT IT READS IS OF BULK AT MOST 1048576: true; the input reads as it did. -/
def replyBackUptoRow : OpenClaim := { program := "ytmgpecomgffelaa", sum := "14720e0e6b2c71f22550421bdd5579128af2440405e40ef2be0edb5a17c4a661", func := "livery/liverylaw17.ReplyBack", spec := "replyBack", inPlace := ["math.Float64bits", "math.Float64frombits", "internal/bytealg.abigen_runtime_cmpstring"], unfollowed := true, recurses := true, apart := false, narrowed := true }
def ReplyBackUptoSaid : Prop := replyBackUptoRow.holds Try.pinned (OpenSpec.upto replyBackSpec)

/-- 'liverylaw17.ReplyEncodes', WHERE WHAT IT READS IS OF BULK AT MOST 1048576: true; the input reads as it did. -/
def replyEncodesUptoRow : OpenClaim := { program := "ytmgpecomgffelaa", sum := "14720e0e6b2c71f22550421bdd5579128af2440405e40ef2be0edb5a17c4a661", func := "livery/liverylaw17.ReplyEncodes", spec := "replyEncodes", inPlace := ["math.Float64bits", "math.Float64frombits", "internal/bytealg.abigen_runtime_cmpstring"], unfollowed := true, recurses := true, apart := false, narrowed := true }
def ReplyEncodesUptoSaid : Prop := replyEncodesUptoRow.holds Try.pinned (OpenSpec.upto replyEncodesSpec)

/-- 'liverylaw17.ReplyDecodes', WHERE WHAT IT READS IS OF BULK AT MOST 1048576: true; the input reads as it did. -/
def replyDecodesUptoRow : OpenClaim := { program := "ytmgpecomgffelaa", sum := "14720e0e6b2c71f22550421bdd5579128af2440405e40ef2be0edb5a17c4a661", func := "livery/liverylaw17.ReplyDecodes", spec := "replyDecodes", inPlace := ["math.Float64bits", "math.Float64frombits", "internal/bytealg.abigen_runtime_cmpstring"], unfollowed := true, recurses := true, apart := false, narrowed := true }
def ReplyDecodesUptoSaid : Prop := replyDecodesUptoRow.holds Try.pinned (OpenSpec.upto replyDecodesSpec)

/-- 'liverylaw17.ReplySames', WHERE WHAT IT READS IS OF BULK AT MOST 1048576: true; the input reads as it did. -/
def replySamesUptoRow : OpenClaim := { program := "ytmgpecomgffelaa", sum := "14720e0e6b2c71f22550421bdd5579128af2440405e40ef2be0edb5a17c4a661", func := "livery/liverylaw17.ReplySames", spec := "replySames", inPlace := ["math.Float64bits", "math.Float64frombits", "internal/bytealg.abigen_runtime_cmpstring"], unfollowed := true, recurses := true, apart := false, narrowed := true }
def ReplySamesUptoSaid : Prop := replySamesUptoRow.holds Try.pinned (OpenSpec.upto replySamesSpec)

/-- 'liverylaw02.ValueBack', WHERE WHAT IT READS IS OF BULK AT MOST 1048576: true; the input reads as it did. -/
def valueBackUptoRow : OpenClaim := { program := "ytmgpecomgffelaa", sum := "14720e0e6b2c71f22550421bdd5579128af2440405e40ef2be0edb5a17c4a661", func := "livery/liverylaw02.ValueBack", spec := "valueBack", inPlace := ["math.Float64bits", "math.Float64frombits", "internal/bytealg.abigen_runtime_cmpstring"], unfollowed := true, recurses := true, apart := false, narrowed := true }
def ValueBackUptoSaid : Prop := valueBackUptoRow.holds Try.pinned (OpenSpec.upto valueBackSpec)

end Rows
end Go.Proofs.Ytmgpecomgffelaa
