/- Words for rows that are rewritten; clear on rows of aggregates. No program in sight. -/
import Derived.Test.YtobdooojdadgpaaMem
import Derived.Lib.SliceRun
namespace Go.Proofs.Ytobdooojdadgpaa
open Go.RowKit
set_option linter.unusedVariables false
section
variable {α : Type} {f : α → List Value} {k : Nat} {w : World} {B : Nat}
theorem rd_cell (hf : ∀ a, (f a).length = k) {d : List α} (h : RdL f k w (some ⟨B, 0, none⟩) d) (i : Nat) (hi : i < d.length) (j : Nat) (hj : j < k) : w.cell? ⟨B, i * k + j, none⟩ = some ((f d[i])[j]'(by rw [hf]; exact hj)) := by
  obtain ⟨ad, e, hc⟩ := h i hi
  cases e
  have := hc j (by rw [hf]; exact hj)
  rwa [Addr.add_mid, Nat.zero_add] at this
theorem rd_mk (hf : ∀ a, (f a).length = k) {d : List α} (h : ∀ i (hi : i < d.length) j (hj : j < k), w.cell? ⟨B, i * k + j, none⟩ = some ((f d[i])[j]'(by rw [hf]; exact hj))) : RdL f k w (some ⟨B, 0, none⟩) d := fun i hi => by
  refine ⟨_, rfl, fun j hj => ?_⟩
  rw [Addr.add_mid, Nat.zero_add]
  exact h i hi j (by rw [← hf]; exact hj)
theorem rd_there (hf : ∀ a, (f a).length = k) {d : List α} (h : RdL f k w (some ⟨B, 0, none⟩) d) (hz : ∀ j, w.frozen? ⟨B, j, none⟩ = false) (i : Nat) (hi : i < d.length) : w.there B (i * k) k := fun j hj => by
  rw [rd_cell hf h i hi j hj]
  exact ⟨rfl, hz _⟩
theorem mul_apart {i m k j a : Nat} (hne : m ≠ i) (hj : j < k) (ha : a < k) : m * k + j ≠ i * k + a := fun e => by
  rcases Nat.lt_or_gt_of_ne hne with h | h
  · have : (m + 1) * k ≤ i * k := Nat.mul_le_mul_right _ h
    rw [Nat.add_mul] at this
    omega
  · have : (i + 1) * k ≤ m * k := Nat.mul_le_mul_right _ h
    rw [Nat.add_mul] at this
    omega
theorem rd_set (hf : ∀ a, (f a).length = k) {d : List α} (h : RdL f k w (some ⟨B, 0, none⟩) d) (i : Nat) (hi : i < d.length) (x : α) : RdL f k (w.setCells B (i * k) (f x)) (some ⟨B, 0, none⟩) (d.set i x) := by
  refine rd_mk hf fun m hm j hj => ?_
  have hm' : m < d.length := by simpa using hm
  by_cases e : m = i
  · subst e
    rw [World.cell?_setCells_in B (f x) (m * k) w (fun t ht => by rw [rd_cell hf h m hi t (by rw [← hf x]; exact ht)]; rfl) j (by rw [hf]; exact hj)]
    simp
  · rw [World.cell?_setCells_out B (f x) (i * k) w _ (fun _ _ => by
      show m * k + j < i * k ∨ i * k + (f x).length ≤ m * k + j
      rw [hf]
      rcases Nat.lt_or_gt_of_ne e with h1 | h1
      · have : (m + 1) * k ≤ i * k := Nat.mul_le_mul_right _ h1
        rw [Nat.add_mul] at this
        omega
      · have : (i + 1) * k ≤ m * k := Nat.mul_le_mul_right _ h1
        rw [Nat.add_mul] at this
        omega)]
    rw [rd_cell hf h m hm' j hj]
    simp [Ne.symm e]
theorem rd_take_set (hf : ∀ a, (f a).length = k) {d : List α} (h : RdL f k w (some ⟨B, 0, none⟩) d) (i : Nat) (vs : List Value) : RdL f k (w.setCells B (i * k) vs) (some ⟨B, 0, none⟩) (d.take i) := by
  refine rd_mk hf fun m hm j hj => ?_
  have hm' : m < d.length ∧ m < i := by rw [List.length_take] at hm; omega
  rw [World.cell?_setCells_out B vs (i * k) w _ (fun _ _ => by
      left
      show m * k + j < i * k
      have : (m + 1) * k ≤ i * k := Nat.mul_le_mul_right _ hm'.2
      rw [Nat.add_mul] at this
      omega)]
  rw [rd_cell hf h m hm'.1 j hj]
  simp
end
theorem below_setCells {W w : World} {B0 b : Nat} (h : Below B0 W w) (hb : B0 ≤ b) : ∀ (vs : List Value) (o : Nat) (w : World), Below B0 W w → Below B0 W (w.setCells b o vs)
  | [], _, _, h => h
  | v :: r, o, w, h => below_setCells h hb r (o + 1) _ (h.setCell hb _)
theorem run_clear_rows {P : Program} (w : World) (t e ty : TypeId) (z : Value) (ht : P.underlying t = some (.slice e)) (hv : ∀ w, (zeroValue e).run P w = .ok z w) (k : Nat) (hk : z.cells.size = k) (h1 : ∀ v ∈ z.cells.toList, v.oneCell' = true) (b o n c : Nat) (hn : 0 < n)
    (hc : ∀ j, j < n * k → (w.cell? ⟨b, o + j, none⟩).isSome = true) (hf : ∀ j, j < n * k → w.frozen? ⟨b, o + j, none⟩ = false) :
    (Builtin.clear_ #[t] ty #[.slice (some ⟨b, o, none⟩) n c]).run P w = .ok (.tuple #[]) (w.setCells b o (Builtin.zeroCells z.cells n).toList) := by
  have hlen : (Builtin.zeroCells z.cells n).toList.length = n * k := by rw [Array.length_toList, size_zeroCells, hk]
  have hone : ∀ v ∈ (Builtin.zeroCells z.cells n).toList, v.oneCell' = true := by
    intro v hv'
    simp only [Builtin.zeroCells, Array.toList_map, List.mem_map] at hv'
    obtain ⟨i, hi, rfl⟩ := hv'
    have hi' : i < n * z.cells.size := by simpa using hi
    have hpos : 0 < z.cells.size := by
      rcases Nat.eq_zero_or_pos z.cells.size with h0 | h0
      · rw [h0, Nat.mul_zero] at hi'; omega
      · exact h0
    have hlt := Nat.mod_lt i hpos
    rw [getElem!_pos z.cells _ hlt]
    exact h1 _ (by simp)
  have hst := run_storeCells_cells (P := P) b o (Builtin.zeroCells z.cells n).toList 0 w (by intro j hj; rw [hlen] at hj; simpa using hc j hj) (by intro j hj; rw [hlen] at hj; simpa using hf j hj) hone
  simp only [Nat.add_zero] at hst
  obtain ⟨m, rfl⟩ : ∃ m, n = m + 1 := ⟨n - 1, by omega⟩
  simp [Builtin.clear_, run_underlying ht, hv, hst]
end Go.Proofs.Ytobdooojdadgpaa
