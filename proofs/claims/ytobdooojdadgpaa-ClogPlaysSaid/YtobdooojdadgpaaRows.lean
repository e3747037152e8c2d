/-
  No cell of these rows narrows 'for every input' (looked for: loops, veiled, ifaces, maps, wideKeys, modest, calm, conditions, laid).
  DERIVED. THE GIVEN ROWS OF THIS SEAT. 11 by the template 'for every input the law returns true; each argument reads behind the call as it read before'; 0 by the template 'total and deterministic' (their statements: YtobdooojdadgpaaTotals.lean).
  GIVEN WITH THE SEED: the statements are not yours to turn. If you find one false, say at which input.
  Laid BY PROGRAM, IN A SANDBOX (cutbox-rows.mjs): the forced cells as the released guide's own fill.sh prints them over the translation 452386e3b5c9cd5d… (all of the seat's roots in one cut). By AI agents, Wed Nov 11 2026. No macro, syntax, notation, axiom, sorry.
-/
import Derived.Test.YtobdooojdadgpaaChecked
import GoSem.Claim
import GoSem.ClaimJoined
import GoSem.ClaimMapViews
import Derived.JoinedTies
import Derived.KernelRfl
namespace Go.Proofs.Ytobdooojdadgpaa
/- THE CELL 'sum', in the pinned program and in every row, IS THE sha256 OF THE DUMP (.gsa) THAT YtobdooojdadgpaaProg.lean LOADS. Nothing in Lean hashes anything: it is a label: what it is worth is what the hold of that sum in a sandbox is worth. -/
noncomputable def Try.pinned : Pinned := { name := "ytobdooojdadgpaa", sum := "452386e3b5c9cd5df769c5a8cbbccc478a946010b7f07dec5aa5e796163adc5a", checked := Try.checked }
namespace Rows
def none {H : Type} : Left H := { results := [], args := [] }

/-- 'liverylaw05.ModeTells': WHATEVER THE INPUT: true; the input reads as it did. -/
def modeTellsSpec : ChangeSpec := { name := "modeTells", fn := fun _ => fun
  | [d1, d2, d3] => { results := [.lit (.bool true)], args := [d1, d2, d3] }
  | _ => none }
def modeTellsRow : OpenClaim := { program := "ytobdooojdadgpaa", sum := "452386e3b5c9cd5df769c5a8cbbccc478a946010b7f07dec5aa5e796163adc5a", func := "livery/liverylaw05.ModeTells", spec := "modeTells", apart := false }
def ModeTellsSaid : Prop := modeTellsRow.holds Try.pinned (OpenSpec.ofChange modeTellsSpec)

/-- ITS FALSE NEIGHBOUR: 'it returns false'. Refute it at one input. -/
def modeTellsWrong : ChangeSpec := { name := "modeTells", fn := fun _ => fun
  | [d1, d2, d3] => { results := [.lit (.bool false)], args := [d1, d2, d3] }
  | _ => none }
def ModeTellsWrongFalsely : Prop := modeTellsRow.holds Try.pinned (OpenSpec.ofChange modeTellsWrong)

/-- 'liverylaw05.ModeBoth': WHATEVER THE INPUT: true; the input reads as it did. -/
def modeBothSpec : ChangeSpec := { name := "modeBoth", fn := fun _ => fun
  | [d1, d2] => { results := [.lit (.bool true)], args := [d1, d2] }
  | _ => none }
def modeBothRow : OpenClaim := { program := "ytobdooojdadgpaa", sum := "452386e3b5c9cd5df769c5a8cbbccc478a946010b7f07dec5aa5e796163adc5a", func := "livery/liverylaw05.ModeBoth", spec := "modeBoth", apart := false }
def ModeBothSaid : Prop := modeBothRow.holds Try.pinned (OpenSpec.ofChange modeBothSpec)

/-- ITS FALSE NEIGHBOUR: 'it returns false'. Refute it at one input. -/
def modeBothWrong : ChangeSpec := { name := "modeBoth", fn := fun _ => fun
  | [d1, d2] => { results := [.lit (.bool false)], args := [d1, d2] }
  | _ => none }
def ModeBothWrongFalsely : Prop := modeBothRow.holds Try.pinned (OpenSpec.ofChange modeBothWrong)

/-- 'liverylaw05.ModeSets': WHATEVER THE INPUT: true; the input reads as it did. -/
def modeSetsSpec : ChangeSpec := { name := "modeSets", fn := fun _ => fun
  | [d1, d2, d3] => { results := [.lit (.bool true)], args := [d1, d2, d3] }
  | _ => none }
def modeSetsRow : OpenClaim := { program := "ytobdooojdadgpaa", sum := "452386e3b5c9cd5df769c5a8cbbccc478a946010b7f07dec5aa5e796163adc5a", func := "livery/liverylaw05.ModeSets", spec := "modeSets", apart := false }
def ModeSetsSaid : Prop := modeSetsRow.holds Try.pinned (OpenSpec.ofChange modeSetsSpec)

/-- ITS FALSE NEIGHBOUR: 'it returns false'. Refute it at one input. -/
def modeSetsWrong : ChangeSpec := { name := "modeSets", fn := fun _ => fun
  | [d1, d2, d3] => { results := [.lit (.bool false)], args := [d1, d2, d3] }
  | _ => none }
def ModeSetsWrongFalsely : Prop := modeSetsRow.holds Try.pinned (OpenSpec.ofChange modeSetsWrong)

/-- 'liverylaw08.ClogMost': WHATEVER THE INPUT: true; the input reads as it did. -/
def clogMostSpec : ChangeSpec := { name := "clogMost", fn := fun _ => fun
  | [d] => { results := [.lit (.bool true)], args := [d] }
  | _ => none }
def clogMostRow : OpenClaim := { program := "ytobdooojdadgpaa", sum := "452386e3b5c9cd5df769c5a8cbbccc478a946010b7f07dec5aa5e796163adc5a", func := "livery/liverylaw08.ClogMost", spec := "clogMost", apart := false }
def ClogMostSaid : Prop := clogMostRow.holds Try.pinned (OpenSpec.ofChange clogMostSpec)

/-- ITS FALSE NEIGHBOUR: 'it returns false'. Refute it at one input. -/
def clogMostWrong : ChangeSpec := { name := "clogMost", fn := fun _ => fun
  | [d] => { results := [.lit (.bool false)], args := [d] }
  | _ => none }
def ClogMostWrongFalsely : Prop := clogMostRow.holds Try.pinned (OpenSpec.ofChange clogMostWrong)

/-- 'liverylaw20.PlanTells': WHATEVER THE INPUT: true; the input reads as it did. -/
def planTellsSpec : ChangeSpec := { name := "planTells", fn := fun _ => fun
  | [d1, d2, d3] => { results := [.lit (.bool true)], args := [d1, d2, d3] }
  | _ => none }
def planTellsRow : OpenClaim := { program := "ytobdooojdadgpaa", sum := "452386e3b5c9cd5df769c5a8cbbccc478a946010b7f07dec5aa5e796163adc5a", func := "livery/liverylaw20.PlanTells", spec := "planTells", inPlace := ["internal/bytealg.abigen_runtime_cmpstring"], unfollowed := true, recurses := true, apart := false }
def PlanTellsSaid : Prop := planTellsRow.holds Try.pinned (OpenSpec.ofChange planTellsSpec)

/-- ITS FALSE NEIGHBOUR: 'it returns false'. Refute it at one input. -/
def planTellsWrong : ChangeSpec := { name := "planTells", fn := fun _ => fun
  | [d1, d2, d3] => { results := [.lit (.bool false)], args := [d1, d2, d3] }
  | _ => none }
def PlanTellsWrongFalsely : Prop := planTellsRow.holds Try.pinned (OpenSpec.ofChange planTellsWrong)

/-- 'liverylaw20.PlanOrder': WHATEVER THE INPUT: true; the input reads as it did. -/
def planOrderSpec : ChangeSpec := { name := "planOrder", fn := fun _ => fun
  | [d1, d2, d3] => { results := [.lit (.bool true)], args := [d1, d2, d3] }
  | _ => none }
def planOrderRow : OpenClaim := { program := "ytobdooojdadgpaa", sum := "452386e3b5c9cd5df769c5a8cbbccc478a946010b7f07dec5aa5e796163adc5a", func := "livery/liverylaw20.PlanOrder", spec := "planOrder", inPlace := ["internal/bytealg.abigen_runtime_cmpstring"], unfollowed := true, recurses := true, apart := false }
def PlanOrderSaid : Prop := planOrderRow.holds Try.pinned (OpenSpec.ofChange planOrderSpec)

/-- ITS FALSE NEIGHBOUR: 'it returns false'. Refute it at one input. -/
def planOrderWrong : ChangeSpec := { name := "planOrder", fn := fun _ => fun
  | [d1, d2, d3] => { results := [.lit (.bool false)], args := [d1, d2, d3] }
  | _ => none }
def PlanOrderWrongFalsely : Prop := planOrderRow.holds Try.pinned (OpenSpec.ofChange planOrderWrong)

/-- 'liverylaw20.PlanCosts': WHATEVER THE INPUT: true; the input reads as it did. -/
def planCostsSpec : ChangeSpec := { name := "planCosts", fn := fun _ => fun
  | [d1, d2] => { results := [.lit (.bool true)], args := [d1, d2] }
  | _ => none }
def planCostsRow : OpenClaim := { program := "ytobdooojdadgpaa", sum := "452386e3b5c9cd5df769c5a8cbbccc478a946010b7f07dec5aa5e796163adc5a", func := "livery/liverylaw20.PlanCosts", spec := "planCosts", inPlace := ["internal/bytealg.abigen_runtime_cmpstring"], unfollowed := true, recurses := true, apart := false }
def PlanCostsSaid : Prop := planCostsRow.holds Try.pinned (OpenSpec.ofChange planCostsSpec)

/-- ITS FALSE NEIGHBOUR: 'it returns false'. Refute it at one input. -/
def planCostsWrong : ChangeSpec := { name := "planCosts", fn := fun _ => fun
  | [d1, d2] => { results := [.lit (.bool false)], args := [d1, d2] }
  | _ => none }
def PlanCostsWrongFalsely : Prop := planCostsRow.holds Try.pinned (OpenSpec.ofChange planCostsWrong)

/-- 'liverylaw08.ClogBeginning': WHATEVER THE INPUT: true; the input reads as it did. -/
def clogBeginningSpec : ChangeSpec := { name := "clogBeginning", fn := fun _ => fun
  | [d] => { results := [.lit (.bool true)], args := [d] }
  | _ => none }
def clogBeginningRow : OpenClaim := { program := "ytobdooojdadgpaa", sum := "452386e3b5c9cd5df769c5a8cbbccc478a946010b7f07dec5aa5e796163adc5a", func := "livery/liverylaw08.ClogBeginning", spec := "clogBeginning", apart := false }
def ClogBeginningSaid : Prop := clogBeginningRow.holds Try.pinned (OpenSpec.ofChange clogBeginningSpec)

/-- ITS FALSE NEIGHBOUR: 'it returns false'. Refute it at one input. -/
def clogBeginningWrong : ChangeSpec := { name := "clogBeginning", fn := fun _ => fun
  | [d] => { results := [.lit (.bool false)], args := [d] }
  | _ => none }
def ClogBeginningWrongFalsely : Prop := clogBeginningRow.holds Try.pinned (OpenSpec.ofChange clogBeginningWrong)

/-- 'liverylaw08.ClogPlays': WHATEVER THE INPUT: true; the input reads as it did. -/
def clogPlaysSpec : ChangeSpec := { name := "clogPlays", fn := fun _ => fun
  | [d1, d2] => { results := [.lit (.bool true)], args := [d1, d2] }
  | _ => none }
def clogPlaysRow : OpenClaim := { program := "ytobdooojdadgpaa", sum := "452386e3b5c9cd5df769c5a8cbbccc478a946010b7f07dec5aa5e796163adc5a", func := "livery/liverylaw08.ClogPlays", spec := "clogPlays", apart := false }
def ClogPlaysSaid : Prop := clogPlaysRow.holds Try.pinned (OpenSpec.ofChange clogPlaysSpec)

/-- ITS FALSE NEIGHBOUR: 'it returns false'. Refute it at one input. -/
def clogPlaysWrong : ChangeSpec := { name := "clogPlays", fn := fun _ => fun
  | [d1, d2] => { results := [.lit (.bool false)], args := [d1, d2] }
  | _ => none }
def ClogPlaysWrongFalsely : Prop := clogPlaysRow.holds Try.pinned (OpenSpec.ofChange clogPlaysWrong)

/-- 'liverylaw08.ClogNone': WHATEVER THE INPUT: true; the input reads as it did. -/
def clogNoneSpec : ChangeSpec := { name := "clogNone", fn := fun _ => fun
  | [d] => { results := [.lit (.bool true)], args := [d] }
  | _ => none }
def clogNoneRow : OpenClaim := { program := "ytobdooojdadgpaa", sum := "452386e3b5c9cd5df769c5a8cbbccc478a946010b7f07dec5aa5e796163adc5a", func := "livery/liverylaw08.ClogNone", spec := "clogNone", apart := false }
def ClogNoneSaid : Prop := clogNoneRow.holds Try.pinned (OpenSpec.ofChange clogNoneSpec)

/-- ITS FALSE NEIGHBOUR: 'it returns false'. Refute it at one input. -/
def clogNoneWrong : ChangeSpec := { name := "clogNone", fn := fun _ => fun
  | [d] => { results := [.lit (.bool false)], args := [d] }
  | _ => none }
def ClogNoneWrongFalsely : Prop := clogNoneRow.holds Try.pinned (OpenSpec.ofChange clogNoneWrong)

/-- 'liverylaw08.ClogNumbers': WHATEVER THE INPUT: true; the input reads as it did. -/
def clogNumbersSpec : ChangeSpec := { name := "clogNumbers", fn := fun _ => fun
  | [d] => { results := [.lit (.bool true)], args := [d] }
  | _ => none }
def clogNumbersRow : OpenClaim := { program := "ytobdooojdadgpaa", sum := "452386e3b5c9cd5df769c5a8cbbccc478a946010b7f07dec5aa5e796163adc5a", func := "livery/liverylaw08.ClogNumbers", spec := "clogNumbers", apart := false }
def ClogNumbersSaid : Prop := clogNumbersRow.holds Try.pinned (OpenSpec.ofChange clogNumbersSpec)

/-- ITS FALSE NEIGHBOUR: 'it returns false'. Refute it at one input. -/
def clogNumbersWrong : ChangeSpec := { name := "clogNumbers", fn := fun _ => fun
  | [d] => { results := [.lit (.bool false)], args := [d] }
  | _ => none }
def ClogNumbersWrongFalsely : Prop := clogNumbersRow.holds Try.pinned (OpenSpec.ofChange clogNumbersWrong)

/- THE SECOND FORM. 'bulk': how many values and letters a reading holds, each counted each time it is reached (what is shared counts as often as it is met; a slice's spare places count too). A statement '..UptoSaid' is the law's where the arguments, and the package variables that the reading takes, are together of bulk at most 1048576: NARROWER than '..Said'. Prove '..Said' where nothing that the law and all that it calls make is longer than what came in: it says more and counts as full. Else prove '..UptoSaid'. A law counts once. -/
mutual
def uptoBulk {H : Type} : DataW H → Nat
  | .lit (.string bytes) => bytes.length + 1
  | .lit _ => 1
  | .nil => 1
  | .ptr d => uptoBulk d + 1
  | .slice elems spare => uptoBulkAll elems + uptoBulkAll spare + 1
  | .agg parts => uptoBulkAll parts + 1
  | .iface _ d => uptoBulk d + 1
  | .map entries => uptoBulkEntries entries + 1
  | .held _ => 1
def uptoBulkAll {H : Type} : List (DataW H) → Nat
  | [] => 0
  | d :: r => uptoBulk d + uptoBulkAll r
def uptoBulkEntries {H : Type} : List (Lit × DataW H) → Nat
  | [] => 0
  | x :: r => uptoBulkEntry x + uptoBulkEntries r
def uptoBulkEntry {H : Type} : Lit × DataW H → Nat
  | (.string bytes, d) => bytes.length + uptoBulk d + 1
  | (_, d) => uptoBulk d + 1
 end
def uptoSmall : (H : Type) → List (DataW H) → Bool := fun _ ds => decide (uptoBulkAll ds ≤ 1048576)
def OpenSpec.upto (s : _root_.Go.ChangeSpec) : _root_.Go.OpenSpec := { _root_.Go.OpenSpec.ofChange s with cond := some uptoSmall }

/-- 'liverylaw05.ModeTells', WHERE WHAT IT READS IS OF BULK AT MOST 1048576: true; the input reads as it did. -/
def modeTellsUptoRow : OpenClaim := { program := "ytobdooojdadgpaa", sum := "452386e3b5c9cd5df769c5a8cbbccc478a946010b7f07dec5aa5e796163adc5a", func := "livery/liverylaw05.ModeTells", spec := "modeTells", apart := false, narrowed := true }
def ModeTellsUptoSaid : Prop := modeTellsUptoRow.holds Try.pinned (OpenSpec.upto modeTellsSpec)

/-- 'liverylaw05.ModeBoth', WHERE WHAT IT READS IS OF BULK AT MOST 1048576: true; the input reads as it did. -/
def modeBothUptoRow : OpenClaim := { program := "ytobdooojdadgpaa", sum := "452386e3b5c9cd5df769c5a8cbbccc478a946010b7f07dec5aa5e796163adc5a", func := "livery/liverylaw05.ModeBoth", spec := "modeBoth", apart := false, narrowed := true }
def ModeBothUptoSaid : Prop := modeBothUptoRow.holds Try.pinned (OpenSpec.upto modeBothSpec)

/-- 'liverylaw05.ModeSets', WHERE WHAT IT READS IS OF BULK AT MOST 1048576: true; the input reads as it did. -/
def modeSetsUptoRow : OpenClaim := { program := "ytobdooojdadgpaa", sum := "452386e3b5c9cd5df769c5a8cbbccc478a946010b7f07dec5aa5e796163adc5a", func := "livery/liverylaw05.ModeSets", spec := "modeSets", apart := false, narrowed := true }
def ModeSetsUptoSaid : Prop := modeSetsUptoRow.holds Try.pinned (OpenSpec.upto modeSetsSpec)

/-- 'liverylaw08.ClogMost', WHERE WHAT IT READS IS OF BULK AT MOST 1048576: true; the input reads as it did. -/
def clogMostUptoRow : OpenClaim := { program := "ytobdooojdadgpaa", sum := "452386e3b5c9cd5df769c5a8cbbccc478a946010b7f07dec5aa5e796163adc5a", func := "livery/liverylaw08.ClogMost", spec := "clogMost", apart := false, narrowed := true }
def ClogMostUptoSaid : Prop := clogMostUptoRow.holds Try.pinned (OpenSpec.upto clogMostSpec)

/-- 'liverylaw20.PlanTells', WHERE WHAT IT READS IS OF BULK AT MOST 1048576: true; the input reads as it did. -/
def planTellsUptoRow : OpenClaim := { program := "ytobdooojdadgpaa", sum := "452386e3b5c9cd5df769c5a8cbbccc478a946010b7f07dec5aa5e796163adc5a", func := "livery/liverylaw20.PlanTells", spec := "planTells", inPlace := ["internal/bytealg.abigen_runtime_cmpstring"], unfollowed := true, recurses := true, apart := false, narrowed := true }
def PlanTellsUptoSaid : Prop := planTellsUptoRow.holds Try.pinned (OpenSpec.upto planTellsSpec)

/-- 'liverylaw20.PlanOrder', WHERE WHAT IT READS IS OF BULK AT MOST 1048576: true; the input reads as it did. -/
def planOrderUptoRow : OpenClaim := { program := "ytobdooojdadgpaa", sum := "452386e3b5c9cd5df769c5a8cbbccc478a946010b7f07dec5aa5e796163adc5a", func := "livery/liverylaw20.PlanOrder", spec := "planOrder", inPlace := ["internal/bytealg.abigen_runtime_cmpstring"], unfollowed := true, recurses := true, apart := false, narrowed := true }
def PlanOrderUptoSaid : Prop := planOrderUptoRow.holds Try.pinned (OpenSpec.upto planOrderSpec)

/-- 'liverylaw20.PlanCosts', WHERE WHAT IT READS IS OF BULK AT MOST 1048576: true; the input reads as it did. -/
def planCostsUptoRow : OpenClaim := { program := "ytobdooojdadgpaa", sum := "452386e3b5c9cd5df769c5a8cbbccc478a946010b7f07dec5aa5e796163adc5a", func := "livery/liverylaw20.PlanCosts", spec := "planCosts", inPlace := ["internal/bytealg.abigen_runtime_cmpstring"], unfollowed := true, recurses := true, apart := false, narrowed := true }
def PlanCostsUptoSaid : Prop := planCostsUptoRow.holds Try.pinned (OpenSpec.upto planCostsSpec)

/-- 'liverylaw08.ClogBeginning', WHERE WHAT IT READS IS OF BULK AT MOST 1048576: true; the input reads as it did. -/
def clogBeginningUptoRow : OpenClaim := { program := "ytobdooojdadgpaa", sum := "452386e3b5c9cd5df769c5a8cbbccc478a946010b7f07dec5aa5e796163adc5a", func := "livery/liverylaw08.ClogBeginning", spec := "clogBeginning", apart := false, narrowed := true }
def ClogBeginningUptoSaid : Prop := clogBeginningUptoRow.holds Try.pinned (OpenSpec.upto clogBeginningSpec)

/-- 'liverylaw08.ClogPlays', WHERE WHAT IT READS IS OF BULK AT MOST 1048576: true; the input reads as it did. -/
def clogPlaysUptoRow : OpenClaim := { program := "ytobdooojdadgpaa", sum := "452386e3b5c9cd5df769c5a8cbbccc478a946010b7f07dec5aa5e796163adc5a", func := "livery/liverylaw08.ClogPlays", spec := "clogPlays", apart := false, narrowed := true }
def ClogPlaysUptoSaid : Prop := clogPlaysUptoRow.holds Try.pinned (OpenSpec.upto clogPlaysSpec)

/-- 'liverylaw08.ClogNone', WHERE WHAT IT READS IS OF BULK AT MOST 1048576: true; the input reads as it did. -/
def clogNoneUptoRow : OpenClaim := { program := "ytobdooojdadgpaa", sum := "452386e3b5c9cd5df769c5a8cbbccc478a946010b7f07dec5aa5e796163adc5a", func := "livery/liverylaw08.ClogNone", spec := "clogNone", apart := false, narrowed := true }
def ClogNoneUptoSaid : Prop := clogNoneUptoRow.holds Try.pinned (OpenSpec.upto clogNoneSpec)

/-- 'liverylaw08.ClogNumbers', WHERE WHAT IT READS IS OF BULK AT MOST 1048576: true; the input reads as it did. -/
def clogNumbersUptoRow : OpenClaim := { program := "ytobdooojdadgpaa", sum := "452386e3b5c9cd5df769c5a8cbbccc478a946010b7f07dec5aa5e796163adc5a", func := "livery/liverylaw08.ClogNumbers", spec := "clogNumbers", apart := false, narrowed := true }
def ClogNumbersUptoSaid : Prop := clogNumbersUptoRow.holds Try.pinned (OpenSpec.upto clogNumbersSpec)

end Rows
end Go.Proofs.Ytobdooojdadgpaa
