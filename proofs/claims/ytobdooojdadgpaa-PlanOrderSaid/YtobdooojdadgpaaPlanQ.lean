/- The plain law behind PlanOrder: the least name is one, in whatever order; an index more makes no plan dearer. -/
import Derived.Test.YtobdooojdadgpaaPlanN
namespace Go.Proofs.Ytobdooojdadgpaa
open Go.RowKit
set_option linter.unusedVariables false
theorem u8_lt (a b : UInt8) : (a < b) ↔ a.toNat < b.toNat := Iff.rfl
theorem bl_cons (a b : UInt8) (x y : List UInt8) : Op.bytesLess (a :: x) (b :: y) = true ↔ a.toNat < b.toNat ∨ (a.toNat = b.toNat ∧ Op.bytesLess x y = true) := by
  show (decide (a < b) || (a == b && Op.bytesLess x y)) = true ↔ _
  rw [Bool.or_eq_true, decide_eq_true_eq, Bool.and_eq_true, beq_iff_eq, u8_lt, ← UInt8.toNat_inj]
theorem bl_nil (x : List UInt8) : Op.bytesLess x [] = false := by cases x <;> rfl
theorem bl_trans : ∀ (x y z : List UInt8), Op.bytesLess x y = true → Op.bytesLess y z = true → Op.bytesLess x z = true
  | x, [], z, h, _ => by rw [bl_nil] at h; cases h
  | x, b :: y, [], _, h => by rw [bl_nil] at h; cases h
  | [], b :: y, c :: z, _, _ => rfl
  | a :: x, b :: y, c :: z, h1, h2 => by
    rw [bl_cons] at h1 h2 ⊢
    rcases h1 with h1 | ⟨h1, h1'⟩ <;> rcases h2 with h2 | ⟨h2, h2'⟩
    · exact Or.inl (by omega)
    · exact Or.inl (by omega)
    · exact Or.inl (by omega)
    · exact Or.inr ⟨by omega, bl_trans x y z h1' h2'⟩
theorem bl_irr : ∀ (x : List UInt8), Op.bytesLess x x = false
  | [] => rfl
  | a :: x => by
    cases h : Op.bytesLess (a :: x) (a :: x) with
    | false => rfl
    | true =>
      rw [bl_cons, bl_irr x] at h
      rcases h with h | ⟨_, h⟩
      · omega
      · cases h
theorem bl_tri : ∀ (x y : List UInt8), Op.bytesLess x y = false → Op.bytesLess y x = false → x = y
  | [], [], _, _ => rfl
  | [], b :: y, h, _ => by cases h
  | a :: x, [], _, h => by cases h
  | a :: x, b :: y, h1, h2 => by
    have n1 : ¬ (a.toNat < b.toNat ∨ (a.toNat = b.toNat ∧ Op.bytesLess x y = true)) := fun h => by rw [(bl_cons a b x y).2 h] at h1; cases h1
    have n2 : ¬ (b.toNat < a.toNat ∨ (b.toNat = a.toNat ∧ Op.bytesLess y x = true)) := fun h => by rw [(bl_cons b a y x).2 h] at h2; cases h2
    have e : a.toNat = b.toNat := by omega
    have e1 : Op.bytesLess x y = false := by
      cases h : Op.bytesLess x y with
      | false => rfl
      | true => exact absurd (Or.inr ⟨e, h⟩) n1
    have e2 : Op.bytesLess y x = false := by
      cases h : Op.bytesLess y x with
      | false => rfl
      | true => exact absurd (Or.inr ⟨e.symm, h⟩) n2
    rw [UInt8.toNat_inj.1 e, bl_tri x y e1 e2]
theorem lt_trans' {a b c : ByteArray} (h1 : ltS a b = true) (h2 : ltS b c = true) : ltS a c = true := bl_trans _ _ _ h1 h2
theorem lt_tri {a b : ByteArray} (h1 : ltS a b = false) (h2 : ltS b a = false) : a = b := by
  have := bl_tri _ _ h1 h2
  rw [ByteArray.toList_eq, ByteArray.toList_eq] at this
  exact Go.WideShapes.bytes_inj this
/-- y is no less than m, and m no less than n: y is no less than n. -/
theorem nlt_trans {y m n : ByteArray} (h1 : ltS y m = false) (h2 : ltS m n = false) : ltS y n = false := by
  cases h : ltS y n with
  | false => rfl
  | true =>
    cases h3 : ltS n m with
    | true => rw [lt_trans' h h3] at h1; cases h1
    | false =>
      have : m = n := lt_tri h2 h3
      subst this
      rw [h] at h1; cases h1
theorem fold_min (l : List Idx) : ∀ (x0 : Idx), (∃ x ∈ x0 :: l, x.name = (l.foldl minF x0).name) ∧ ∀ x ∈ x0 :: l, ltS x.name (l.foldl minF x0).name = false := by
  induction l with
  | nil => exact fun x0 => ⟨⟨x0, by simp, rfl⟩, fun x hx => by
      have : x = x0 := by simpa using hx
      subst this
      exact bl_irr _⟩
  | cons y l ih =>
    intro x0
    rw [List.foldl_cons]
    obtain ⟨⟨x, hx, hn⟩, hall⟩ := ih (minF x0 y)
    have hm : minF x0 y = y ∨ minF x0 y = x0 := by unfold minF; split <;> simp
    have hmy : ltS y.name (minF x0 y).name = false ∧ ltS x0.name (minF x0 y).name = false := by
      unfold minF
      cases h : ltS y.name x0.name with
      | true =>
        rw [if_pos rfl]
        refine ⟨bl_irr _, ?_⟩
        cases h2 : ltS x0.name y.name with
        | false => rfl
        | true => exact absurd (lt_trans' h h2) (by rw [show ltS y.name y.name = false from bl_irr _]; simp)
      | false => rw [if_neg (by simp)]; exact ⟨h, bl_irr _⟩
    have h0 := hall (minF x0 y) (by simp)
    refine ⟨?_, fun z hz => ?_⟩
    · rcases List.mem_cons.1 hx with rfl | hx
      · rcases hm with h | h
        · exact ⟨y, by simp, by rw [← hn, h]⟩
        · exact ⟨x0, by simp, by rw [← hn, h]⟩
      · exact ⟨x, by simp [hx], hn⟩
    · simp only [List.mem_cons] at hz
      rcases hz with rfl | rfl | hz
      · exact nlt_trans hmy.2 h0
      · exact nlt_trans hmy.1 h0
      · exact hall z (by simp [hz])
theorem pmI_min {m : List Idx} (h : m ≠ []) : (∃ x ∈ m, x.name = pmI m) ∧ ∀ x ∈ m, ltS x.name (pmI m) = false := by
  cases m with
  | nil => exact absurd rfl h
  | cons x0 l =>
    have e : pmI (x0 :: l) = (l.foldl minF x0).name := by
      show (minTo x0 l l.length).name = _
      unfold minTo
      rw [List.take_length]
    rw [e]
    exact fold_min l x0
theorem pmI_perm {m n : List Idx} (h : ∀ x, x ∈ m ↔ x ∈ n) : pmI m = pmI n := by
  cases m with
  | nil =>
    cases n with
    | nil => rfl
    | cons y n => exact absurd ((h y).2 (by simp)) (by simp)
  | cons x m =>
    cases n with
    | nil => exact absurd ((h x).1 (by simp)) (by simp)
    | cons y n =>
      obtain ⟨⟨a, ha, ea⟩, h1⟩ := pmI_min (m := x :: m) (by simp)
      obtain ⟨⟨b, hb, eb⟩, h2⟩ := pmI_min (m := y :: n) (by simp)
      have k1 := h2 a ((h a).1 ha)
      have k2 := h1 b ((h b).2 hb)
      rw [ea] at k1
      rw [eb] at k2
      exact lt_tri k1 k2
theorem pmW_perm {k : Int} {m n : List Idx} (h : ∀ x, x ∈ m ↔ x ∈ n) : pmW k m = pmW k n := by
  cases m with
  | nil =>
    cases n with
    | nil => rfl
    | cons y n => exact absurd ((h y).2 (by simp)) (by simp)
  | cons x m =>
    cases n with
    | nil => exact absurd ((h x).1 (by simp)) (by simp)
    | cons y n => rfl
theorem keepL_mem {cl : ByteArray} {l : List Idx} {x : Idx} : x ∈ keepL cl l ↔ x ∈ l ∧ delV cl x = false := by
  unfold keepL
  rw [List.mem_filter]
  simp
theorem ofW_rev (s : Stm) (cols : List Col) (l : List Idx) : ofW s cols l.reverse = ofW s cols l := by
  unfold ofW
  rw [pmW_perm (m := keepL s.col l.reverse) (n := keepL s.col l) (fun x => by rw [keepL_mem, keepL_mem, List.mem_reverse])]
theorem ofI_rev (s : Stm) (cols : List Col) (l : List Idx) : ofI s cols l.reverse = ofI s cols l := by
  unfold ofI
  rw [pmI_perm (m := keepL s.col l.reverse) (n := keepL s.col l) (fun x => by rw [keepL_mem, keepL_mem, List.mem_reverse])]
theorem cost_le3 (k : Int) : costV k ≤ 3 := by unfold costV; split <;> (try split) <;> (try split) <;> omega
theorem cost_less (s : Stm) (cols : List Col) (l : List Idx) (i : Nat) : costV (ofW s cols l) ≤ costV (ofW s cols (l.take i)) := by
  unfold ofW
  by_cases h1 : ofE s cols ≠ 0
  · rw [if_pos h1, if_pos h1]; exact Int.le_refl _
  rw [if_neg h1, if_neg h1]
  by_cases h2 : s.kind = 9
  · rw [if_pos h2, if_pos h2]; exact Int.le_refl _
  rw [if_neg h2, if_neg h2]
  cases hm : keepL s.col (l.take i) with
  | nil => exact cost_le3 _
  | cons y n =>
    have hy : y ∈ keepL s.col l := by
      have : y ∈ keepL s.col (l.take i) := by rw [hm]; simp
      rw [keepL_mem] at this ⊢
      exact ⟨List.mem_of_mem_take this.1, this.2⟩
    cases hl : keepL s.col l with
    | nil => rw [hl] at hy; simp at hy
    | cons z o => exact Int.le_refl _
end Go.Proofs.Ytobdooojdadgpaa
