/- Min and Max of any list; the plain law of their values. -/
import Derived.Test.YtmgpecomgffelaaFloatI
import Derived.Test.YtmgpecomgffelaaOpenB
import Derived.Test.YtmgpecomgffelaaFrame
import Derived.Deep.QuietTactic
import Derived.BigQuiet
namespace Go.Proofs.Ytmgpecomgffelaa
open Go.RowKit Go.ChangeShapes Go.WideShapes Go.ChangeAt
set_option linter.unusedVariables false
theorem info22 : (Try.prog.info? 22).map (fun i => (i.zero, i.size, i.bytes)) = some (some (.float .f64 0), 1, 8) := by kernel_rfl
theorem same_yes (a : Nat) (w : World) : Calls Try.prog 46 #[.float .f64 a, .float .f64 a] w fun e w' => e = .returned (.bool true) ∧ w = w' := by
  have h := same_any a a w
  rw [decide_eq_true (show a = a from rfl)] at h
  exact h

/-! ### ends -/
theorem best_cons (ah : Nat → Nat → Bool) (l : List Nat) (h : 0 < l.length) : bestV ah l = canonF (pick ah l[0] l) := by
  match l, h with
  | m :: l, _ => rfl
theorem cells22 : Try.prog.cellsOf 22 = 1 := by kernel_rfl
theorem same_q (a : Nat) (w : World) (n : Nat) : Calls Try.prog 46 #[.float .f64 a, .float .f64 a] (w.drewN n) fun e w' => e = .returned (.bool true) ∧ ∃ m, w' = w.drewN m :=
  (same_yes a _).mono fun e w' ⟨h1, h2⟩ => ⟨h1, n, h2.symm⟩
theorem cmp_q (a b : Nat) (w : World) (n : Nat) : Calls Try.prog 39 #[.float .f64 a, .float .f64 b] (w.drewN n) fun e w' => e = .returned (.int .i64 (cmpF a b)) ∧ ∃ m, w' = w.drewN m :=
  (cmp_any a b _).mono fun e w' ⟨h1, h2⟩ => ⟨h1, n, h2.symm⟩
theorem best_all : True := trivial
theorem min_all (A : Option Addr) (c : Nat) (l : List Nat) (w : World) (h : Rd w A (fl l)) (hlen : l.length ≤ 2000) :
    Calls Try.prog 62 #[.slice A l.length c] w fun e w' => e = .returned (.tuple #[.float .f64 (bestV lessA l), .bool (decide (0 < l.length))]) ∧ w = w' := by
  rcases Nat.eq_zero_or_pos l.length with h0 | h0
  · obtain rfl := List.eq_nil_of_length_eq_zero h0
    exact min_nil A c w
  · rw [decide_eq_true h0, best_cons _ l h0]
    exact min_any A c l w h h0 hlen
theorem max_all (A : Option Addr) (c : Nat) (l : List Nat) (w : World) (h : Rd w A (fl l)) (hlen : l.length ≤ 2000) :
    Calls Try.prog 63 #[.slice A l.length c] w fun e w' => e = .returned (.tuple #[.float .f64 (bestV moreA l), .bool (decide (0 < l.length))]) ∧ w = w' := by
  rcases Nat.eq_zero_or_pos l.length with h0 | h0
  · obtain rfl := List.eq_nil_of_length_eq_zero h0
    exact max_nil A c w
  · rw [decide_eq_true h0, best_cons _ l h0]
    exact max_any A c l w h h0 hlen
theorem rmin_all (A : Option Addr) (c : Nat) (l : List Nat) (w : World) (h : Rd w A (fl l)) (hlen : l.length ≤ 2000) :
    Calls Try.prog 64 #[.slice A l.length c] w fun e w' => e = .returned (.agg #[.float .f64 (bestV lessA l), .bool (decide (0 < l.length))]) ∧ Below w.heap.size w w' := by
  rcases Nat.eq_zero_or_pos l.length with h0 | h0
  · obtain rfl := List.eq_nil_of_length_eq_zero h0
    exact rmin_nil A c w
  · rw [decide_eq_true h0, best_cons _ l h0]
    exact rmin_any A c l w h h0 hlen
theorem rmax_all (A : Option Addr) (c : Nat) (l : List Nat) (w : World) (h : Rd w A (fl l)) (hlen : l.length ≤ 2000) :
    Calls Try.prog 65 #[.slice A l.length c] w fun e w' => e = .returned (.agg #[.float .f64 (bestV moreA l), .bool (decide (0 < l.length))]) ∧ Below w.heap.size w w' := by
  rcases Nat.eq_zero_or_pos l.length with h0 | h0
  · obtain rfl := List.eq_nil_of_length_eq_zero h0
    exact rmax_nil A c w
  · rw [decide_eq_true h0, best_cons _ l h0]
    exact rmax_any A c l w h h0 hlen

theorem pick_lt (ah : Nat → Nat → Bool) (l : List Nat) : ∀ (m : Nat), m < two64 → (∀ x ∈ l, x < two64) → pick ah m l < two64 := by
  induction l with
  | nil => intro m h _; exact h
  | cons x l ih =>
    intro m hm hl
    show pick ah (if ah x m then x else m) l < two64
    refine ih _ ?_ fun y hy => hl y (by simp [hy])
    split
    · exact hl x (by simp)
    · exact hm
theorem pick_min (l : List Nat) : ∀ (m : Nat), m < two64 → (∀ x ∈ l, x < two64) → R (pick lessA m l) ≤ R m ∧ ∀ x ∈ l, R (pick lessA m l) ≤ R x := by
  induction l with
  | nil => intro m _ _; exact ⟨Int.le_refl _, by simp⟩
  | cons x l ih =>
    intro m hm hl
    have hx : x < two64 := hl x (by simp)
    have hc := cmp_R x m hx hm
    show R (pick lessA (if lessA x m then x else m) l) ≤ R m ∧ ∀ y ∈ x :: l, R (pick lessA (if lessA x m then x else m) l) ≤ R y
    have hm' : (if lessA x m then x else m) < two64 := by split <;> assumption
    have hb : R (if lessA x m then x else m) ≤ R m ∧ R (if lessA x m then x else m) ≤ R x := by
      by_cases h1 : R x < R m
      · rw [if_pos h1] at hc
        rw [if_pos (by simp [lessA, hc])]; omega
      · have h2 : ¬ cmpF x m < 0 := by rw [hc, if_neg h1]; split <;> omega
        rw [if_neg (by simpa [lessA] using h2)]; omega
    generalize (if lessA x m then x else m) = m' at *
    obtain ⟨i1, i2⟩ := ih m' hm' fun y hy => hl y (by simp [hy])
    refine ⟨by omega, fun y hy => ?_⟩
    rcases List.mem_cons.1 hy with rfl | hy
    · omega
    · exact i2 y hy
theorem pick_max (l : List Nat) : ∀ (m : Nat), m < two64 → (∀ x ∈ l, x < two64) → R m ≤ R (pick moreA m l) ∧ ∀ x ∈ l, R x ≤ R (pick moreA m l) := by
  induction l with
  | nil => intro m _ _; exact ⟨Int.le_refl _, by simp⟩
  | cons x l ih =>
    intro m hm hl
    have hx : x < two64 := hl x (by simp)
    have hc := cmp_R x m hx hm
    show R m ≤ R (pick moreA (if moreA x m then x else m) l) ∧ ∀ y ∈ x :: l, R y ≤ R (pick moreA (if moreA x m then x else m) l)
    have hm' : (if moreA x m then x else m) < two64 := by split <;> assumption
    have hb : R m ≤ R (if moreA x m then x else m) ∧ R x ≤ R (if moreA x m then x else m) := by
      by_cases h1 : R m < R x
      · rw [if_neg (by omega), if_pos h1] at hc
        rw [if_pos (by simp [moreA, hc])]; omega
      · have h2 : ¬ 0 < cmpF x m := by rw [hc, if_neg h1]; split <;> omega
        rw [if_neg (by simpa [moreA] using h2)]; omega
    generalize (if moreA x m then x else m) = m' at *
    obtain ⟨i1, i2⟩ := ih m' hm' fun y hy => hl y (by simp [hy])
    refine ⟨by omega, fun y hy => ?_⟩
    rcases List.mem_cons.1 hy with rfl | hy
    · omega
    · exact i2 y hy
theorem best_R (ah : Nat → Nat → Bool) (l : List Nat) (hl : ∀ x ∈ l, x < two64) (h0 : 0 < l.length) : R (bestV ah l) = R (pick ah l[0] l) ∧ bestV ah l < two64 := by
  rw [best_cons ah l h0, canon_R]
  exact ⟨rfl, canon_lt _ (pick_lt ah l _ (hl _ (List.getElem_mem h0)) hl)⟩
theorem min_first (l : List Nat) (hl : ∀ x ∈ l, x < two64) (k : Nat) (h : k < l.length) : decide (cmpF l[k] (bestV lessA l) < 0) = false := by
  have h0 : 0 < l.length := by omega
  obtain ⟨e, hb⟩ := best_R lessA l hl h0
  have hm := (pick_min l l[0] (hl _ (List.getElem_mem h0)) hl).2 _ (List.getElem_mem h)
  rw [cmp_R _ _ (hl _ (List.getElem_mem h)) hb, e, if_neg (by omega), decide_eq_false]
  split <;> omega
theorem max_last (l : List Nat) (hl : ∀ x ∈ l, x < two64) (k : Nat) (h : k < l.length) : decide (0 < cmpF l[k] (bestV moreA l)) = false := by
  have h0 : 0 < l.length := by omega
  obtain ⟨e, hb⟩ := best_R moreA l hl h0
  have hm := (pick_max l l[0] (hl _ (List.getElem_mem h0)) hl).2 _ (List.getElem_mem h)
  rw [cmp_R _ _ (hl _ (List.getElem_mem h)) hb, e, decide_eq_false]
  split
  · omega
  · rw [if_neg (by omega)]; omega

end Go.Proofs.Ytmgpecomgffelaa
