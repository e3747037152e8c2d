/- Single operations in whatever world, for regions that draw: a new variable, a new empty slice, a store into a variable of two cells. -/
import Derived.Test.YtobdooojdadgpaaPlanQ
import Derived.Test.YtobdooojdadgpaaPlanP
namespace Go.Proofs.Ytobdooojdadgpaa
open Go.RowKit
set_option linter.unusedVariables false
section
variable {w : World} {o : Oper} {a : Act} {K : Act → World → Prop} {Q : Exit → Act → World → Prop}
theorem wp_alloc49 (ho : o.op = .alloc 49) (h : ∀ w' b, RdP w' b 0 ⟨#[]⟩ → w.heap.size ≤ b → Below w.heap.size w w' → K (a.put o.dst (.pointer (some ⟨b, 0, none⟩))) w') : o.wp Try.prog a w K Q := by
  have hr : (execOp a.eval o).run Try.prog w = .ok (.value (.pointer (some ⟨w.heap.size, 0, none⟩))) (w.alloc (.cells #[.int .i64 0, .string ⟨#[]⟩] 49)) := by
    unfold execOp
    rw [ho]
    go_simp
  unfold Oper.wp
  rw [hr, Oper.upon_value]
  exact (h _ _ (RdP.start w 49 0 _) (Nat.le_refl _) ((Below.refl _ _).alloc (Nat.le_refl _) _))
theorem wp_build46 (ho : o.op = .buildSlice 46 0 #[]) (h : ∀ w' b, Below w.heap.size w w' → K (a.put o.dst (.slice (some b) 0 0)) w') : o.wp Try.prog a w K Q := by
  have hr : (execOp a.eval o).run Try.prog w = .ok (.value (.slice (some ⟨w.heap.size, 0, none⟩) 0 0)) (w.alloc (.cells #[] 60)) := by
    unfold execOp
    rw [ho]
    go_simp
  unfold Oper.wp
  rw [hr, Oper.upon_value]
  exact (h _ _ ((Below.refl _ _).alloc (Nat.le_refl _) _))
theorem wp_store49 (x y : Operand) (ho : o.op = .store 49 x y) (b : Nat) (k : Int) (i : ByteArray) (W : Int) (I : ByteArray) (hx : a.eval x = .pointer (some ⟨b, 0, none⟩)) (hy : a.eval y = .agg #[.int .i64 W, .string I]) (hP : RdP w b k i)
    (h : ∀ w', RdP w' b W I → (∀ B0, B0 ≤ b → Below B0 w w') → K (a.put o.dst undef) w') : o.wp Try.prog a w K Q := by
  refine wp_store_mid 49 x y ho b 0 #[.int .i64 W, .string I] hx hy ?_ (by kernel_rfl) (by simp [Value.oneCell']) ?_
  · intro j hj
    obtain ⟨a0, a1, z0, z1⟩ := hP
    have : j = 0 ∨ j = 1 := by simp at hj; omega
    rcases this with rfl | rfl
    · exact ⟨by rw [Nat.add_zero, a0]; rfl, z0⟩
    · exact ⟨by rw [Nat.zero_add, a1]; rfl, z1⟩
  · refine h _ (hP.set W I) fun B0 hB => ?_
    exact ((Below.refl _ _).setCell (p := ⟨b, 0, none⟩) hB _).setCell (p := ⟨b, 1, none⟩) hB _
end
theorem neq49 (W : Int) (I : ByteArray) (w : World) (h1 : (W == W) = true) (h2 : (I.toList == I.toList) = true) : (binOp .neq 49 (.agg #[.int .i64 W, .string I]) (.agg #[.int .i64 W, .string I])).run Try.prog w = .ok (.bool false) w := by
  go_simp
end Go.Proofs.Ytobdooojdadgpaa
