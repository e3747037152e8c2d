/- Contracts of package clog: New, get, one, Begin, ends, Commit, Abort. -/
import Derived.Test.YtobdooojdadgpaaClogS
import Derived.Test.YtobdooojdadgpaaProg
import Derived.WalkLawsBesides
import Derived.WalkSpells
import Derived.BigQuiet
import Derived.KernelRfl
namespace Go.Proofs.Ytobdooojdadgpaa
open Go.RowKit
set_option linter.unusedVariables false

abbrev ptr (g : Nat) : Value := .pointer (some ⟨g, 0, none⟩)

theorem get_yes (g : Nat) (x n : Int) (w : World) (hn : w.cell? ⟨g, 804, none⟩ = some (.int .i64 n)) (h1 : 1 ≤ x) (h2 : x ≤ n) (h3 : n ≤ 200) :
    Calls Try.prog 67 #[ptr g, .int .i64 x] w fun e w' => e = .returned (.pointer (some ⟨g, x.toNat * 4, none⟩)) ∧ w = w' := by
  go_enter Try.func67, Try.ntmps67
  go_wp2
  go_ret
  exact ⟨rfl, rfl⟩

theorem get_no (g : Nat) (x n : Int) (w : World) (hn : w.cell? ⟨g, 804, none⟩ = some (.int .i64 n)) (h : x < 1 ∨ n < x) :
    Calls Try.prog 67 #[ptr g, .int .i64 x] w fun e w' => e = .returned (.pointer none) ∧ w = w' := by
  by_cases h1 : x < 1
  · clear h
    go_enter Try.func67, Try.ntmps67
    go_wp2
    go_ret
    exact ⟨rfl, rfl⟩
  · have h2 : decide (n < x) = true := by simp; omega
    clear h
    go_enter Try.func67, Try.ntmps67
    go_wp2
    go_ret
    exact ⟨rfl, rfl⟩

theorem get_nil (x : Int) (w : World) : Calls Try.prog 67 #[.pointer none, .int .i64 x] w fun e w' => e = .returned (.pointer none) ∧ w = w' := by
  go_enter Try.func67, Try.ntmps67
  go_wp2
  go_ret
  exact ⟨rfl, rfl⟩

theorem begin_nil (r : Bool) (w : World) : Calls Try.prog 26 #[.pointer none, .bool r] w fun e w' => e = .returned (.tuple #[.int .i64 0, .int .i64 1]) ∧ w = w' := by
  go_enter Try.func26, Try.ntmps26
  go_wp2
  go_ret2
  exact ⟨rfl, rfl⟩

theorem begin_full (g : Nat) (r : Bool) (w : World) (hn : w.cell? ⟨g, 804, none⟩ = some (.int .i64 200)) :
    Calls Try.prog 26 #[ptr g, .bool r] w fun e w' => e = .returned (.tuple #[.int .i64 0, .int .i64 74]) ∧ w = w' := by
  go_enter Try.func26, Try.ntmps26
  go_wp2
  go_ret2
  exact ⟨rfl, rfl⟩

theorem begin_cells (g : Nat) (n c : Int) (r : Bool) (w w2 : World) (hn : w.cell? ⟨g, 804, none⟩ = some (.int .i64 n)) (hf : w.frozen? ⟨g, 804, none⟩ = false)
    (h0 : 0 ≤ n) (h1 : n < 200) (hw : w2 = w.setCell ⟨g, 804, none⟩ (.int .i64 (n + 1)))
    (hn2 : w2.cell? ⟨g, 804, none⟩ = some (.int .i64 (n + 1))) (hc : w2.cell? ⟨g, 805, none⟩ = some (.int .i64 c)) (v0 v1 v2 v3 : Value)
    (q0 : w2.cell? ⟨g, (n + 1).toNat * 4, none⟩ = some v0) (q1 : w2.cell? ⟨g, (n + 1).toNat * 4 + 1, none⟩ = some v1) (q2 : w2.cell? ⟨g, (n + 1).toNat * 4 + 2, none⟩ = some v2) (q3 : w2.cell? ⟨g, (n + 1).toNat * 4 + 3, none⟩ = some v3)
    (f0 : w2.frozen? ⟨g, (n + 1).toNat * 4, none⟩ = false) (f1 : w2.frozen? ⟨g, (n + 1).toNat * 4 + 1, none⟩ = false) (f2 : w2.frozen? ⟨g, (n + 1).toNat * 4 + 2, none⟩ = false) (f3 : w2.frozen? ⟨g, (n + 1).toNat * 4 + 3, none⟩ = false) :
    Calls Try.prog 26 #[ptr g, .bool r] w fun e w' => e = .returned (.tuple #[.int .i64 (n + 1), .int .i64 0]) ∧
      w' = ((((w2.setCell ⟨g, (n + 1).toNat * 4, none⟩ (.int .i64 1)).setCell ⟨g, (n + 1).toNat * 4 + 1, none⟩ (.int .i64 0)).setCell ⟨g, (n + 1).toNat * 4 + 2, none⟩ (.int .i64 c)).setCell ⟨g, (n + 1).toNat * 4 + 3, none⟩ (.bool r)).drew := by
  have h2 : (n == 200) = false := by simp; omega
  have Hw := Lib.hid hw
  clear hw
  go_enter Try.func26, Try.ntmps26
  go_wp2
  rw [← Hw.out]
  go_region
  all_goals (go_wp2; go_ret2; exact ⟨rfl, rfl⟩)

theorem begin_yes (g : Nat) (r : Bool) (S : LogS) (w : World) (h : LogAt w g S) (hn : S.l.length < 200) :
    Calls Try.prog 26 #[ptr g, .bool r] w fun e w' => e = .returned (.tuple #[.int .i64 (S.l.length + 1), .int .i64 0]) ∧ LogAt w' g (S.begin' r) ∧ Kp g w w' := by
  have h2 : (w.setCell ⟨g, 804, none⟩ (.int .i64 (S.l.length + 1))).rowIs g 90 806 _ := World.rowIs.set h 804 _
  have hk : ((S.l.length : Int) + 1).toNat = S.l.length + 1 := by omega
  refine (begin_cells g S.l.length S.clock r w _ h.n (h.frozen _) (by omega) (by omega) rfl (h2.cell (i := 804) (by omega)) ((h2.cell (i := 805) (by omega)).trans rfl) _ _ _ _
    (h2.cell (by omega)) (h2.cell (by omega)) (h2.cell (by omega)) (h2.cell (by omega)) (h2.frozen _) (h2.frozen _) (h2.frozen _) (h2.frozen _)).mono fun e w' ⟨he, hw'⟩ => ⟨he, ?_, ?_⟩
  · subst hw'
    simp only [hk]
    have h6 := ((((h2.set ((S.l.length + 1) * 4) (.int .i64 1)).set ((S.l.length + 1) * 4 + 1) (.int .i64 0)).set ((S.l.length + 1) * 4 + 2) (.int .i64 S.clock)).set ((S.l.length + 1) * 4 + 3) (.bool r)).drew
    refine World.rowIs.congr h6 fun i hi => ?_
    rw [cell_turned S (S.begin' r) (S.l.length + 1) ⟨1, 0, S.clock, r⟩ (S.l.length + 1) S.clock (by rw [len_begin]; rfl) rfl (tx_begin S r) i]
    by_cases a3 : i = (S.l.length + 1) * 4 + 3
    · rw [if_pos a3, if_neg (by omega), if_neg (by omega), if_neg (by omega), if_neg (by omega), if_neg (by omega), if_pos a3]
    by_cases a2 : i = (S.l.length + 1) * 4 + 2
    · rw [if_neg a3, if_pos a2, if_neg (by omega), if_neg (by omega), if_neg (by omega), if_neg (by omega), if_pos a2]
    by_cases a1 : i = (S.l.length + 1) * 4 + 1
    · rw [if_neg a3, if_neg a2, if_pos a1, if_neg (by omega), if_neg (by omega), if_neg (by omega), if_pos a1]
    by_cases a0 : i = (S.l.length + 1) * 4
    · rw [if_neg a3, if_neg a2, if_neg a1, if_pos a0, if_neg (by omega), if_neg (by omega), if_pos a0]
    rw [if_neg a3, if_neg a2, if_neg a1, if_neg a0, if_neg a0, if_neg a1, if_neg a2, if_neg a3]
    by_cases b : i = 804
    · rw [if_pos b, if_pos b]
    · rw [if_neg b, if_neg b]
      by_cases b5 : i = 805
      · subst b5; rfl
      · rw [if_neg b5]
  · subst hw'
    exact (((((((Kp.refl g w).set _ _).set _ _).set _ _).set _ _).set _ _)).drew
end Go.Proofs.Ytobdooojdadgpaa
