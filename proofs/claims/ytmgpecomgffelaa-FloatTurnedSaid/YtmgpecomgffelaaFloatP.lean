/- The law FloatTurned: numbers with the other sign. -/
import Derived.Test.YtmgpecomgffelaaFloatJz
namespace Go.Proofs.Ytmgpecomgffelaa
open Go.RowKit
set_option linter.unusedVariables false
def negW (b : Nat) : Nat := b ^^^ 2 ^ 63
theorem run_neg (a : Nat) (w : World) : (Op.unary UnOp.neg (.float .f64 a)).run Try.prog w = .ok (.float .f64 (negW a)) w := by rfl
theorem negW_low (b : Nat) (h : b < 9223372036854775808) : negW b = b + 9223372036854775808 := by
  have e : b + 9223372036854775808 = 2 ^ 63 * 1 ||| b := by
    rw [← Nat.two_pow_add_eq_or_of_lt (i := 63) h]; omega
  rw [e, Nat.mul_one]
  unfold negW
  apply Nat.eq_of_testBit_eq
  intro j
  rw [Nat.testBit_xor, Nat.testBit_or]
  by_cases hj : j = 63
  · subst hj
    rw [Nat.testBit_lt_two_pow h]
    decide
  · rw [Nat.testBit_two_pow_of_ne (by omega)]
    simp
theorem negW_high (b : Nat) (h : b < 18446744073709551616) (h0 : 9223372036854775808 ≤ b) : negW b = b - 9223372036854775808 := by
  have h1 := negW_low (b - 9223372036854775808) (by omega)
  have h2 : b - 9223372036854775808 + 9223372036854775808 = b := by omega
  rw [h2] at h1
  unfold negW at h1 ⊢
  generalize b - 9223372036854775808 = c at *
  rw [← h1, Nat.xor_assoc, Nat.xor_self, Nat.xor_zero]
theorem negW_rk (b : Nat) (h : b < two64) : negW b < two64 ∧ rk (negW b) = - rk b := by
  have e1 : two64 = 18446744073709551616 := rfl
  have e2 : two63 = 9223372036854775808 := rfl
  rcases Nat.lt_or_ge b two63 with h1 | h1
  · have e := negW_low b (by omega)
    rw [e, rk_of_lt b h1, rk_of_ge _ (by omega) (by omega)]
    omega
  · have e := negW_high b (by omega) (by omega)
    rw [e, rk_of_ge b h h1, rk_of_lt _ (by omega)]
    omega
theorem negW_nan (b : Nat) (h : b < two64) : isNaN (negW b) = isNaN b := by
  obtain ⟨h1, h2⟩ := negW_rk b h
  rw [nan_rk _ h1, nan_rk _ h, h2]
  simp only [decide_eq_decide]
  omega
theorem negW_R (b : Nat) (h : b < two64) (hn : isNaN b = false) : R (negW b) = - R b := by
  rw [R_num b hn, R_num _ ((negW_nan b h).trans hn), (negW_rk b h).2]
theorem cmp_neg (a b : Nat) (ha : a < two64) (hb : b < two64) (na : isNaN a = false) (nb : isNaN b = false) : cmpF (negW a) (negW b) = cmpF b a := by
  rw [cmp_R _ _ (negW_rk a ha).1 (negW_rk b hb).1, cmp_R _ _ hb ha, negW_R a ha na, negW_R b hb nb]
  split <;> split <;> (try split) <;> (try split) <;> omega
theorem cmp_nan (a b : Nat) (na : isNaN a = true) (nb : isNaN b = false) : cmpF a b = 1 := by
  unfold cmpF
  rw [if_pos na, if_neg (by rw [nb]; simp)]
def negs (l : List Nat) : List Nat := (l.filter fun x => !isNaN x).map negW
theorem negs_take (l : List Nat) (k : Nat) (h : k < l.length) : negs (l.take (k + 1)) = negs (l.take k) ++ if isNaN l[k] then [] else [negW l[k]] := by
  unfold negs
  rw [List.take_succ_eq_append_getElem h, List.filter_append, List.map_append]
  congr 1
  cases h : isNaN l[k] <;> simp [h]
theorem negs_len (l : List Nat) : (negs l).length ≤ l.length := by
  unfold negs
  rw [List.length_map]
  exact List.length_filter_le _ _
theorem pick_mem (ah : Nat → Nat → Bool) (l : List Nat) : ∀ m, pick ah m l = m ∨ pick ah m l ∈ l := by
  induction l with
  | nil => intro m; exact Or.inl rfl
  | cons x l ih =>
    intro m
    show pick ah (if ah x m then x else m) l = m ∨ pick ah (if ah x m then x else m) l ∈ x :: l
    rcases ih (if ah x m then x else m) with h | h
    · rw [h]
      split
      · exact Or.inr (by simp)
      · exact Or.inl rfl
    · exact Or.inr (List.mem_cons_of_mem _ h)
theorem pick_in (ah : Nat → Nat → Bool) (l : List Nat) (h : 0 < l.length) : pick ah l[0] l ∈ l := by
  rcases pick_mem ah l l[0] with e | e
  · rw [e]; exact List.getElem_mem h
  · exact e
theorem mem_negs {l : List Nat} {x : Nat} : x ∈ negs l ↔ ∃ z, z ∈ l ∧ isNaN z = false ∧ negW z = x := by
  unfold negs
  simp [and_assoc]
theorem negs_lt {l : List Nat} (hl : ∀ x ∈ l, x < two64) : ∀ x ∈ negs l, x < two64 := fun x hx => by
  obtain ⟨z, hz, _, rfl⟩ := mem_negs.1 hx
  exact (negW_rk z (hl z hz)).1
theorem canon_nan (a : Nat) : isNaN (canonF a) = isNaN a := by
  unfold canonF
  cases h : isNaN a with
  | true => rw [if_pos rfl]; decide
  | false =>
    simp only [Bool.false_eq_true, if_false]
    split
    · decide
    · exact h
theorem turned_end (l : List Nat) (hl : ∀ x ∈ l, x < two64) (hk : 0 < (negs l).length) : cmpF (negW (bestV moreA (negs l))) (bestV lessA l) = 0 := by
  have hl2 := negs_lt hl
  have h0 : 0 < l.length := by have := negs_len l; omega
  obtain ⟨e1, b1⟩ := best_R moreA (negs l) hl2 hk
  obtain ⟨e2, b2⟩ := best_R lessA l hl h0
  have m1 := pick_in moreA (negs l) hk
  have m2 := pick_in lessA l h0
  have x1 := (pick_max (negs l) (negs l)[0] (hl2 _ (List.getElem_mem hk)) hl2).2
  have x2 := (pick_min l l[0] (hl _ (List.getElem_mem h0)) hl).2
  have hn : isNaN (bestV moreA (negs l)) = isNaN (pick moreA (negs l)[0] (negs l)) := by rw [best_cons _ _ hk, canon_nan]
  generalize pick moreA (negs l)[0] (negs l) = p at *
  generalize pick lessA l[0] l = q at *
  obtain ⟨z, hz, nz, rfl⟩ := mem_negs.1 m1
  have hz64 := hl z hz
  have hRz := R_le z hz64 nz
  have i1 := x2 z hz
  rw [negW_nan z hz64, nz] at hn
  rw [negW_R z hz64 nz] at e1 x1
  have nq : isNaN q = false := by
    cases h : isNaN q with
    | false => rfl
    | true => have := R_nan q h; omega
  have i2 := x1 (negW q) (mem_negs.2 ⟨q, m2, nq, rfl⟩)
  rw [negW_R q (hl q m2) nq] at i2
  have e3 := negW_R _ b1 hn
  rw [cmp_R _ _ (negW_rk _ b1).1 b2, e3, e1, e2, if_neg (by omega), if_neg (by omega)]
theorem turned_nan (l : List Nat) (hk : (negs l).length = 0) (h0 : 0 < l.length) : isNaN (bestV lessA l) = true := by
  rw [best_cons _ _ h0, canon_nan]
  have m := pick_in lessA l h0
  cases h : isNaN (pick lessA l[0] l) with
  | true => rfl
  | false =>
    have := mem_negs.2 ⟨_, m, h, rfl⟩
    rw [List.eq_nil_of_length_eq_zero hk] at this
    simp at this
end Go.Proofs.Ytmgpecomgffelaa
