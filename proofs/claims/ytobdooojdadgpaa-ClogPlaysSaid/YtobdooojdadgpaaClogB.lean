/- Contracts of package clog: ends, Commit, Abort, one, State, Csn, Snapshot, Reads, Clock. -/
import Derived.Test.YtobdooojdadgpaaClogN
namespace Go.Proofs.Ytobdooojdadgpaa
open Go.RowKit
set_option linter.unusedVariables false

theorem ends_nil (x : Int) (w : World) : Calls Try.prog 66 #[.pointer none, .int .i64 x] w fun e w' => e = .returned (.tuple #[.pointer none, .int .i64 1]) ∧ w = w' := by
  go_enter Try.func66, Try.ntmps66
  go_wp2
  go_ret2
  exact ⟨rfl, rfl⟩

theorem ends_none (g : Nat) (x n : Int) (w : World) (hn : w.cell? ⟨g, 804, none⟩ = some (.int .i64 n)) (h : x < 1 ∨ n < x) :
    Calls Try.prog 66 #[ptr g, .int .i64 x] w fun e w' => e = .returned (.tuple #[.pointer none, .int .i64 76]) ∧ w = w' := by
  have hc := Lib.hid (get_no g x n w hn h)
  clear h
  go_enter Try.func66, Try.ntmps66
  go_wp2_with (go_at_call 67; refine hc.out.mono ?_; rintro e w' ⟨rfl, rfl⟩)
  go_ret2
  exact ⟨rfl, rfl⟩

theorem ends_other (g : Nat) (x n s : Int) (w : World) (hn : w.cell? ⟨g, 804, none⟩ = some (.int .i64 n)) (h1 : 1 ≤ x) (h2 : x ≤ n) (h3 : n ≤ 200) (hs : w.cell? ⟨g, x.toNat * 4, none⟩ = some (.int .i64 s)) (h : (s != 1) = true) :
    Calls Try.prog 66 #[ptr g, .int .i64 x] w fun e w' => e = .returned (.tuple #[.pointer none, .int .i64 76]) ∧ w = w' := by
  have hc := Lib.hid (get_yes g x n w hn h1 h2 h3)
  go_enter Try.func66, Try.ntmps66
  go_wp2_with (go_at_call 67; refine hc.out.mono ?_; rintro e w' ⟨rfl, rfl⟩)
  go_ret2
  exact ⟨rfl, rfl⟩

theorem ends_yes (g : Nat) (x n : Int) (w : World) (hn : w.cell? ⟨g, 804, none⟩ = some (.int .i64 n)) (h1 : 1 ≤ x) (h2 : x ≤ n) (h3 : n ≤ 200) (hs : w.cell? ⟨g, x.toNat * 4, none⟩ = some (.int .i64 1)) :
    Calls Try.prog 66 #[ptr g, .int .i64 x] w fun e w' => e = .returned (.tuple #[.pointer (some ⟨g, x.toNat * 4, none⟩), .int .i64 0]) ∧ w = w' := by
  have hc := Lib.hid (get_yes g x n w hn h1 h2 h3)
  go_enter Try.func66, Try.ntmps66
  go_wp2_with (go_at_call 67; refine hc.out.mono ?_; rintro e w' ⟨rfl, rfl⟩)
  go_ret2
  exact ⟨rfl, rfl⟩

/-- May the transaction x be ended? -/
def LogS.runs (S : LogS) (x : Int) : Bool := decide (1 ≤ x ∧ x ≤ S.l.length) && (S.tx x.toNat).state == 1

theorem ends_no (g : Nat) (x : Int) (S : LogS) (w : World) (h : LogAt w g S) (hl : S.l.length ≤ 200) (hr : S.runs x = false) :
    Calls Try.prog 66 #[ptr g, .int .i64 x] w fun e w' => e = .returned (.tuple #[.pointer none, .int .i64 76]) ∧ w = w' := by
  by_cases h1 : 1 ≤ x ∧ x ≤ S.l.length
  · have h2 : ((S.tx x.toNat).state != 1) = true := by
      unfold LogS.runs at hr
      rw [decide_eq_true h1, Bool.true_and] at hr
      simpa using hr
    exact ends_other g x S.l.length _ w h.n h1.1 h1.2 (by omega) (h.state x.toNat (by omega)) h2
  · exact ends_none g x S.l.length w h.n (by omega)

theorem ends_ok (g : Nat) (x : Int) (S : LogS) (w : World) (h : LogAt w g S) (hl : S.l.length ≤ 200) (hr : S.runs x = true) :
    Calls Try.prog 66 #[ptr g, .int .i64 x] w fun e w' => e = .returned (.tuple #[.pointer (some ⟨g, x.toNat * 4, none⟩), .int .i64 0]) ∧ w = w' := by
  unfold LogS.runs at hr
  rw [Bool.and_eq_true] at hr
  obtain ⟨h1, h2⟩ := hr
  have h1 := of_decide_eq_true h1
  refine ends_yes g x S.l.length w h.n h1.1 h1.2 (by omega) ?_
  rw [h.state x.toNat (by omega), eq_of_beq h2]

theorem commit_nil (x : Int) (w : World) : Calls Try.prog 37 #[.pointer none, .int .i64 x] w fun e w' => e = .returned (.tuple #[.int .i64 0, .int .i64 1]) ∧ w = w' := by
  go_enter Try.func37, Try.ntmps37
  go_wp2_with (go_at_call 66; refine (ends_nil _ _).mono ?_; rintro e w' ⟨rfl, rfl⟩)
  go_ret2
  exact ⟨rfl, rfl⟩

theorem commit_no (g : Nat) (x : Int) (S : LogS) (w : World) (h : LogAt w g S) (hl : S.l.length ≤ 200) (hr : S.runs x = false) :
    Calls Try.prog 37 #[ptr g, .int .i64 x] w fun e w' => e = .returned (.tuple #[.int .i64 0, .int .i64 76]) ∧ w = w' := by
  have hc := Lib.hid (ends_no g x S w h hl hr)
  clear hr
  go_enter Try.func37, Try.ntmps37
  go_wp2_with (go_at_call 66; refine hc.out.mono ?_; rintro e w' ⟨rfl, rfl⟩)
  go_ret2
  exact ⟨rfl, rfl⟩

theorem commit_cells (g k : Nat) (c x : Int) (w : World) (hend : Hid (Calls Try.prog 66 #[ptr g, .int .i64 x] w fun e w' => e = .returned (.tuple #[.pointer (some ⟨g, k, none⟩), .int .i64 0]) ∧ w = w'))
    (hc : w.cell? ⟨g, 805, none⟩ = some (.int .i64 c)) (hf : w.frozen? ⟨g, 805, none⟩ = false) (c0 : 0 ≤ c) (c1 : c ≤ 200) (hk : k + 1 < 804)
    (v0 v1 : Value) (q0 : w.cell? ⟨g, k, none⟩ = some v0) (q1 : w.cell? ⟨g, k + 1, none⟩ = some v1)
    (f0 : w.frozen? ⟨g, k, none⟩ = false) (f1 : w.frozen? ⟨g, k + 1, none⟩ = false) :
    Calls Try.prog 37 #[ptr g, .int .i64 x] w fun e w' => e = .returned (.tuple #[.int .i64 (c + 1), .int .i64 0]) ∧
      w' = ((w.setCell ⟨g, 805, none⟩ (.int .i64 (c + 1))).setCell ⟨g, k, none⟩ (.int .i64 2)).setCell ⟨g, k + 1, none⟩ (.int .i64 (c + 1)) := by
  go_enter Try.func37, Try.ntmps37
  go_wp2_with (go_at_call 66; refine hend.out.mono ?_; rintro e w' ⟨rfl, rfl⟩)
  go_ret2
  exact ⟨rfl, rfl⟩

theorem runs_spec {S : LogS} {x : Int} (h : S.runs x = true) : 1 ≤ x ∧ x ≤ S.l.length ∧ (S.tx x.toNat).state = 1 := by
  unfold LogS.runs at h
  rw [Bool.and_eq_true] at h
  have := of_decide_eq_true h.1
  exact ⟨this.1, this.2, eq_of_beq h.2⟩

theorem commit_yes (g : Nat) (x : Int) (S : LogS) (w : World) (h : LogAt w g S) (hl : S.l.length ≤ 200) (c0 : 0 ≤ S.clock) (c1 : S.clock ≤ 200) (hr : S.runs x = true) :
    Calls Try.prog 37 #[ptr g, .int .i64 x] w fun e w' => e = .returned (.tuple #[.int .i64 (S.clock + 1), .int .i64 0]) ∧ LogAt w' g (S.commit x.toNat) ∧ Kp g w w' := by
  obtain ⟨h1, h2, h3⟩ := runs_spec hr
  refine (commit_cells g (x.toNat * 4) S.clock x w (Lib.hid (ends_ok g x S w h hl hr)) h.clk (h.frozen _) c0 c1 (by omega) _ _ (h.state x.toNat (by omega)) (h.csn x.toNat (by omega)) (h.frozen _) (h.frozen _)).mono
    fun e w' ⟨he, hw'⟩ => ⟨he, ?_, ?_⟩
  · subst hw'
    have h6 := ((World.rowIs.set h 805 (.int .i64 (S.clock + 1))).set (x.toNat * 4) (.int .i64 2)).set (x.toNat * 4 + 1) (.int .i64 (S.clock + 1))
    refine World.rowIs.congr h6 fun i hi => ?_
    rw [cell_turned S (S.commit x.toNat) x.toNat ⟨2, S.clock + 1, (S.tx x.toNat).snap, (S.tx x.toNat).reads⟩ S.l.length (S.clock + 1) (by rw [LogS.commit, len_put]) rfl (tx_put S x.toNat _ _ (by omega) (by omega)) i]
    by_cases a1 : i = x.toNat * 4 + 1
    · rw [if_pos a1, if_neg (by omega), if_neg (by omega), if_neg (by omega), if_pos a1]
    rw [if_neg a1]
    by_cases a0 : i = x.toNat * 4
    · rw [if_pos a0, if_neg (by omega), if_neg (by omega), if_pos a0]
    rw [if_neg a0, if_neg a0, if_neg a1]
    by_cases b5 : i = 805
    · rw [if_pos b5, if_neg (by omega), if_pos b5]
    rw [if_neg b5, if_neg b5]
    by_cases b : i = 804
    · rw [if_pos b, b]; rfl
    rw [if_neg b]
    by_cases a2 : i = x.toNat * 4 + 2
    · rw [if_pos a2, a2]
      unfold LogS.cell
      rw [if_neg (by omega), if_neg (by omega), show (x.toNat * 4 + 2) / 4 = x.toNat by omega, show (x.toNat * 4 + 2) % 4 = 2 by omega]
      rfl
    rw [if_neg a2]
    by_cases a3 : i = x.toNat * 4 + 3
    · rw [if_pos a3, a3]
      unfold LogS.cell
      rw [if_neg (by omega), if_neg (by omega), show (x.toNat * 4 + 3) / 4 = x.toNat by omega, show (x.toNat * 4 + 3) % 4 = 3 by omega]
      rfl
    rw [if_neg a3]
  · subst hw'
    exact (((Kp.refl g w).set _ _).set _ _).set _ _

theorem abort_nil (x : Int) (w : World) : Calls Try.prog 38 #[.pointer none, .int .i64 x] w fun e w' => e = .returned (.int .i64 1) ∧ w = w' := by
  go_enter Try.func38, Try.ntmps38
  go_wp2_with (go_at_call 66; refine (ends_nil _ _).mono ?_; rintro e w' ⟨rfl, rfl⟩)
  go_ret
  exact ⟨rfl, rfl⟩

theorem abort_no (g : Nat) (x : Int) (S : LogS) (w : World) (h : LogAt w g S) (hl : S.l.length ≤ 200) (hr : S.runs x = false) :
    Calls Try.prog 38 #[ptr g, .int .i64 x] w fun e w' => e = .returned (.int .i64 76) ∧ w = w' := by
  have hc := Lib.hid (ends_no g x S w h hl hr)
  clear hr
  go_enter Try.func38, Try.ntmps38
  go_wp2_with (go_at_call 66; refine hc.out.mono ?_; rintro e w' ⟨rfl, rfl⟩)
  go_ret
  exact ⟨rfl, rfl⟩

theorem abort_cells (g k : Nat) (x : Int) (w : World) (hend : Hid (Calls Try.prog 66 #[ptr g, .int .i64 x] w fun e w' => e = .returned (.tuple #[.pointer (some ⟨g, k, none⟩), .int .i64 0]) ∧ w = w'))
    (v0 : Value) (q0 : w.cell? ⟨g, k, none⟩ = some v0) (f0 : w.frozen? ⟨g, k, none⟩ = false) :
    Calls Try.prog 38 #[ptr g, .int .i64 x] w fun e w' => e = .returned (.int .i64 0) ∧ w' = w.setCell ⟨g, k, none⟩ (.int .i64 3) := by
  go_enter Try.func38, Try.ntmps38
  go_wp2_with (go_at_call 66; refine hend.out.mono ?_; rintro e w' ⟨rfl, rfl⟩)
  go_ret
  exact ⟨rfl, rfl⟩

theorem abort_yes (g : Nat) (x : Int) (S : LogS) (w : World) (h : LogAt w g S) (hl : S.l.length ≤ 200) (hr : S.runs x = true) :
    Calls Try.prog 38 #[ptr g, .int .i64 x] w fun e w' => e = .returned (.int .i64 0) ∧ LogAt w' g (S.abort x.toNat) ∧ Kp g w w' := by
  obtain ⟨h1, h2, h3⟩ := runs_spec hr
  refine (abort_cells g (x.toNat * 4) x w (Lib.hid (ends_ok g x S w h hl hr)) _ (h.state x.toNat (by omega)) (h.frozen _)).mono fun e w' ⟨he, hw'⟩ => ⟨he, ?_, ?_⟩
  · subst hw'
    have h6 := World.rowIs.set h (x.toNat * 4) (.int .i64 3)
    refine World.rowIs.congr h6 fun i hi => ?_
    rw [cell_turned S (S.abort x.toNat) x.toNat ⟨3, (S.tx x.toNat).csn, (S.tx x.toNat).snap, (S.tx x.toNat).reads⟩ S.l.length S.clock (by rw [LogS.abort, len_put]) rfl (tx_put S x.toNat _ _ (by omega) (by omega)) i]
    by_cases a0 : i = x.toNat * 4
    · rw [if_pos a0, if_neg (by omega), if_neg (by omega), if_pos a0]
    rw [if_neg a0, if_neg a0]
    by_cases b5 : i = 805
    · rw [if_neg (by omega), if_pos b5, b5]; rfl
    rw [if_neg b5]
    by_cases b : i = 804
    · rw [if_pos b, b]; rfl
    rw [if_neg b]
    have hj : ∀ j, 1 ≤ j → j < 4 → S.cell (x.toNat * 4 + j) = (S.tx x.toNat).cell j := fun j h1 h2 => by
      unfold LogS.cell
      rw [if_neg (by omega), if_neg (by omega), show (x.toNat * 4 + j) / 4 = x.toNat by omega, show (x.toNat * 4 + j) % 4 = j by omega]
    by_cases a1 : i = x.toNat * 4 + 1
    · rw [if_pos a1, a1, hj 1 (by omega) (by omega)]; rfl
    rw [if_neg a1]
    by_cases a2 : i = x.toNat * 4 + 2
    · rw [if_pos a2, a2, hj 2 (by omega) (by omega)]; rfl
    rw [if_neg a2]
    by_cases a3 : i = x.toNat * 4 + 3
    · rw [if_pos a3, a3, hj 3 (by omega) (by omega)]; rfl
    rw [if_neg a3]
  · subst hw'
    exact (Kp.refl g w).set _ _
end Go.Proofs.Ytobdooojdadgpaa
