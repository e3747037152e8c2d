/- Contracts: plan.Of and liveryref20.Of in one answer; what ways cost. -/
import Derived.Test.YtobdooojdadgpaaPlanJ
namespace Go.Proofs.Ytobdooojdadgpaa
open Go.RowKit
set_option linter.unusedVariables false
def ofE (s : Stm) (cols : List Col) : Int :=
  if s.kind = 9 then 0 else if s.kind = 5 ∨ s.kind = 7 ∨ s.kind = 6 ∨ s.kind = 8 then (if findV s.col cols 0 < 0 then 61 else if s.kind = 5 ∧ findV s.set cols 0 < 0 then 61 else 0) else 11
def ofW (s : Stm) (cols : List Col) (l : List Idx) : Int := if ofE s cols ≠ 0 then 0 else if s.kind = 9 then 1 else pmW s.kind (keepL s.col l)
def ofI (s : Stm) (cols : List Col) (l : List Idx) : ByteArray := if ofE s cols ≠ 0 then ⟨#[]⟩ else if s.kind = 9 then ⟨#[]⟩ else pmI (keepL s.col l)
theorem of_split (s : Stm) (cols : List Col) (l : List Idx) (Pr : Int → ByteArray → Int → Prop)
    (h9 : s.kind = 9 → Pr 1 ⟨#[]⟩ 0) (hf : s.kind ≠ 9 ∧ s.kind ≠ 5 ∧ s.kind ≠ 7 ∧ s.kind ≠ 6 ∧ s.kind ≠ 8 → Pr 0 ⟨#[]⟩ 11)
    (h1 : (s.kind = 5 ∨ s.kind = 7 ∨ s.kind = 6 ∨ s.kind = 8) → findV s.col cols 0 < 0 → Pr 0 ⟨#[]⟩ 61)
    (h2 : s.kind = 5 → ¬ findV s.col cols 0 < 0 → findV s.set cols 0 < 0 → Pr 0 ⟨#[]⟩ 61)
    (h3 : (s.kind = 5 ∨ s.kind = 7 ∨ s.kind = 6 ∨ s.kind = 8) → ¬ findV s.col cols 0 < 0 → (s.kind = 5 → ¬ findV s.set cols 0 < 0) → Pr (pmW s.kind (keepL s.col l)) (pmI (keepL s.col l)) 0) : Pr (ofW s cols l) (ofI s cols l) (ofE s cols) := by
  by_cases k9 : s.kind = 9
  · have e : ofE s cols = 0 := by unfold ofE; rw [if_pos k9]
    have a : ofW s cols l = 1 := by unfold ofW; rw [e, if_neg (by simp), if_pos k9]
    have b : ofI s cols l = ⟨#[]⟩ := by unfold ofI; rw [e, if_neg (by simp), if_pos k9]
    rw [e, a, b]
    exact h9 k9
  by_cases kk : s.kind = 5 ∨ s.kind = 7 ∨ s.kind = 6 ∨ s.kind = 8
  · by_cases hz : findV s.col cols 0 < 0
    · have e : ofE s cols = 61 := by unfold ofE; rw [if_neg k9, if_pos kk, if_pos hz]
      have a : ofW s cols l = 0 := by unfold ofW; rw [e, if_pos (by simp)]
      have b : ofI s cols l = ⟨#[]⟩ := by unfold ofI; rw [e, if_pos (by simp)]
      rw [e, a, b]
      exact h1 kk hz
    by_cases hy : s.kind = 5 ∧ findV s.set cols 0 < 0
    · have e : ofE s cols = 61 := by unfold ofE; rw [if_neg k9, if_pos kk, if_neg hz, if_pos hy]
      have a : ofW s cols l = 0 := by unfold ofW; rw [e, if_pos (by simp)]
      have b : ofI s cols l = ⟨#[]⟩ := by unfold ofI; rw [e, if_pos (by simp)]
      rw [e, a, b]
      exact h2 hy.1 hz hy.2
    · have e : ofE s cols = 0 := by unfold ofE; rw [if_neg k9, if_pos kk, if_neg hz, if_neg hy]
      have a : ofW s cols l = pmW s.kind (keepL s.col l) := by unfold ofW; rw [e, if_neg (by simp), if_neg k9]
      have b : ofI s cols l = pmI (keepL s.col l) := by unfold ofI; rw [e, if_neg (by simp), if_neg k9]
      rw [e, a, b]
      exact h3 kk hz (fun h5 h => hy ⟨h5, h⟩)
  · have e : ofE s cols = 11 := by unfold ofE; rw [if_neg k9, if_neg kk]
    have a : ofW s cols l = 0 := by unfold ofW; rw [e, if_pos (by simp)]
    have b : ofI s cols l = ⟨#[]⟩ := by unfold ofI; rw [e, if_pos (by simp)]
    rw [e, a, b]
    exact hf (by omega)
section
variable (s : Stm) (C : Option Addr) (c : Nat) (cols : List Col) (A : Option Addr) (a : Nat) (l : List Idx) (w : World) (hc : RdC w C cols) (ha : RdI w A l) (hnA : A = none → a = 0) (hcl : cols.length ≤ 1000) (hal : l.length ≤ 1000)
include hc ha hnA hcl hal
theorem of_any : Calls Try.prog 31 #[sv s, .slice C cols.length c, .slice A l.length a] w fun e w' => e = .returned (.tuple #[.agg #[.int .i64 (ofW s cols l), .string (ofI s cols l)], .int .i64 (ofE s cols)]) ∧ Below w.heap.size w w' := by
  refine of_split s cols l (fun W I E => Calls Try.prog 31 #[sv s, .slice C cols.length c, .slice A l.length a] w fun e w' => e = .returned (.tuple #[.agg #[.int .i64 W, .string I], .int .i64 E]) ∧ Below w.heap.size w w') ?_ ?_ ?_ ?_ ?_
  · exact of_scan s C c cols A a l w hc ha hnA hcl hal
  · exact of_form s C c cols A a l w hc ha hnA hcl hal
  · intro kk hz
    rcases kk with hk | hk | hk | hk
    · exact of_lack5 s C c cols A a l w hc ha hnA hcl hal hk hz
    · exact of_lack7 s C c cols A a l w hc ha hnA hcl hal hk hz
    · exact of_lack6 s C c cols A a l w hc ha hnA hcl hal hk hz
    · exact of_lack8 s C c cols A a l w hc ha hnA hcl hal hk hz
  · exact fun hk hz hy => of_lackset s C c cols A a l w hc ha hnA hcl hal hk hz hy
  · intro kk hz hy
    cases hm : keepL s.col l with
    | nil =>
      rcases kk with hk | hk | hk | hk
      · exact of_none5 s C c cols A a l w hc ha hnA hcl hal hk hz (hy hk) hm
      · exact of_none7 s C c cols A a l w hc ha hnA hcl hal hk hz hm
      · exact of_none6 s C c cols A a l w hc ha hnA hcl hal hk hz hm
      · exact of_none8 s C c cols A a l w hc ha hnA hcl hal hk hz hm
    | cons x0 l' =>
      rcases kk with hk | hk | hk | hk
      · have e : pmW s.kind (x0 :: l') = 2 := by unfold pmW; rw [if_neg (by omega)]
        rw [e]
        exact of_some5 s C c cols A a l w hc ha hnA hcl hal hk hz (hy hk) x0 l' hm
      · have e : pmW s.kind (x0 :: l') = 2 := by unfold pmW; rw [if_neg (by omega)]
        rw [e]
        exact of_some7 s C c cols A a l w hc ha hnA hcl hal hk hz x0 l' hm
      · have e : pmW s.kind (x0 :: l') = 2 := by unfold pmW; rw [if_neg (by omega)]
        rw [e]
        exact of_some6 s C c cols A a l w hc ha hnA hcl hal hk hz x0 l' hm
      · have e : pmW s.kind (x0 :: l') = 3 := by unfold pmW; rw [if_pos (by omega)]
        rw [e]
        exact of_some8 s C c cols A a l w hc ha hnA hcl hal hk hz x0 l' hm
theorem rof_any : Calls Try.prog 33 #[sv s, .slice C cols.length c, .slice A l.length a] w fun e w' => e = .returned (.tuple #[.agg #[.int .i64 (ofW s cols l), .string (ofI s cols l)], .int .i64 (ofE s cols)]) ∧ Below w.heap.size w w' := by
  refine of_split s cols l (fun W I E => Calls Try.prog 33 #[sv s, .slice C cols.length c, .slice A l.length a] w fun e w' => e = .returned (.tuple #[.agg #[.int .i64 W, .string I], .int .i64 E]) ∧ Below w.heap.size w w') ?_ ?_ ?_ ?_ ?_
  · exact rof_scan s C c cols A a l w hc ha hnA hcl hal
  · exact rof_form s C c cols A a l w hc ha hnA hcl hal
  · intro kk hz
    rcases kk with hk | hk | hk | hk
    · exact rof_lack5 s C c cols A a l w hc ha hnA hcl hal hk hz
    · exact rof_lack7 s C c cols A a l w hc ha hnA hcl hal hk hz
    · exact rof_lack6 s C c cols A a l w hc ha hnA hcl hal hk hz
    · exact rof_lack8 s C c cols A a l w hc ha hnA hcl hal hk hz
  · exact fun hk hz hy => rof_lackset s C c cols A a l w hc ha hnA hcl hal hk hz hy
  · intro kk hz hy
    rcases kk with hk | hk | hk | hk
    · exact rof_loop5 s C c cols A a l w hc ha hnA hcl hal hk hz (hy hk)
    · exact rof_loop7 s C c cols A a l w hc ha hnA hcl hal hk hz
    · exact rof_loop6 s C c cols A a l w hc ha hnA hcl hal hk hz
    · exact rof_loop8 s C c cols A a l w hc ha hnA hcl hal hk hz
end
def costV (k : Int) : Int := if k = 1 then 3 else if k = 2 then 1 else if k = 3 then 2 else 0
set_option maxRecDepth 100000 in
theorem cost_any (k : Int) (i : ByteArray) (w : World) : Calls Try.prog 34 #[.agg #[.int .i64 k, .string i]] w fun e w' => e = .returned (.int .i64 (costV k)) ∧ Below w.heap.size w w' := by
  by_cases h : k = 1 ∨ k = 2 ∨ k = 3
  · rcases h with rfl | rfl | rfl
    all_goals
      have i1 : ∀ w, (Instr.index 102 (.agg #[.int .i64 0, .int .i64 3, .int .i64 1, .int .i64 2]) (.int .i64 1)).run Try.prog w = .ok (.int .i64 3) w := fun _ => by kernel_rfl
      have i2 : ∀ w, (Instr.index 102 (.agg #[.int .i64 0, .int .i64 3, .int .i64 1, .int .i64 2]) (.int .i64 2)).run Try.prog w = .ok (.int .i64 1) w := fun _ => by kernel_rfl
      have i3 : ∀ w, (Instr.index 102 (.agg #[.int .i64 0, .int .i64 3, .int .i64 1, .int .i64 2]) (.int .i64 3)).run Try.prog w = .ok (.int .i64 2) w := fun _ => by kernel_rfl
      go_enter Try.func34, Try.ntmps34
      go_wp2_with fail
      go_ret
      exact ⟨rfl, (Below.refl _ _).alloc (Nat.le_refl _) _⟩
  · have e : costV k = 0 := by unfold costV; rw [if_neg (by omega), if_neg (by omega), if_neg (by omega)]
    rw [e]
    by_cases h1 : k < 1
    · have t1 : decide (k < 1) = true := decide_eq_true h1
      clear h e h1
      go_enter Try.func34, Try.ntmps34
      go_wp2_with fail
      go_ret
      exact ⟨rfl, (Below.refl _ _).alloc (Nat.le_refl _) _⟩
    · have t1 : decide (k < 1) = false := decide_eq_false h1
      have t3 : decide (3 < k) = true := decide_eq_true (by omega)
      clear h e h1
      go_enter Try.func34, Try.ntmps34
      go_wp2_with fail
      go_ret
      exact ⟨rfl, (Below.refl _ _).alloc (Nat.le_refl _) _⟩
set_option maxRecDepth 100000 in
theorem rcost_any (k : Int) (i : ByteArray) (w : World) : Calls Try.prog 35 #[.agg #[.int .i64 k, .string i]] w fun e w' => e = .returned (.int .i64 (costV k)) ∧ Below w.heap.size w w' := by
  by_cases h : k = 1 ∨ k = 2 ∨ k = 3
  · rcases h with rfl | rfl | rfl
    all_goals
      go_enter Try.func35, Try.ntmps35
      go_wp2_with fail
      go_ret
      exact ⟨rfl, (Below.refl _ _).alloc (Nat.le_refl _) _⟩
  · have e : costV k = 0 := by unfold costV; rw [if_neg (by omega), if_neg (by omega), if_neg (by omega)]
    rw [e]
    have t1 : (k == 1) = false := by rw [beq_eq_false_iff_ne]; omega
    have t2 : (k == 2) = false := by rw [beq_eq_false_iff_ne]; omega
    have t3 : (k == 3) = false := by rw [beq_eq_false_iff_ne]; omega
    clear h e
    go_enter Try.func35, Try.ntmps35
    go_wp2_with fail
    go_ret
    exact ⟨rfl, (Below.refl _ _).alloc (Nat.le_refl _) _⟩
end Go.Proofs.Ytobdooojdadgpaa
