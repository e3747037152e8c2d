/- The contract of clog.New. -/
import Derived.Test.YtobdooojdadgpaaClogA
namespace Go.Proofs.Ytobdooojdadgpaa
open Go.RowKit
set_option linter.unusedVariables false

set_option maxRecDepth 100000 in
theorem zero_cells : Try.zeroCells90.toList = (List.range 806).map LogS.new.cell := by kernel_rfl

theorem new_any (w : World) : Calls Try.prog 25 #[] w fun e w' => e = .returned (ptr w.heap.size) ∧ LogAt w' w.heap.size LogS.new ∧ Below w.heap.size w w' := by
  go_enter Try.func25, Try.ntmps25
  go_wp2_with fail
  go_ret
  have hz := zero_cells
  have hs : Try.zeroCells90.size = 806 := by rw [← Array.length_toList, hz]; simp
  refine ⟨rfl, ?_, (Below.refl _ _).alloc (Nat.le_refl _) _⟩
  unfold LogAt
  rw [← hs]
  refine World.rowIs_alloc w Try.zeroCells90 90 _ fun i hi => ?_
  rw [← Array.getElem?_toList, hz, List.getElem?_map, List.getElem?_range (by omega)]
  rfl
end Go.Proofs.Ytobdooojdadgpaa
