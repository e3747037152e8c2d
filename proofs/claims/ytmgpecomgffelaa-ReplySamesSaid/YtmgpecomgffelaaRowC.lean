/- Contracts of row.Takes and row.Fill. -/
import Derived.Test.YtmgpecomgffelaaRowB
namespace Go.Proofs.Ytmgpecomgffelaa
open Go.RowKit
set_option linter.unusedVariables false
def takesV (k : Int) (nn : Bool) (vk vn : Int) (vf : Nat) (vs : ByteArray) : Int :=
  if goodV vk vn vf vs = false then 11 else if vk = 0 then (if nn then 21 else 0) else if vk = k then 0 else 20
set_option maxRecDepth 100000 in
theorem takes_any (nm : ByteArray) (k : Int) (nn : Bool) (dk dn : Int) (df : Nat) (ds : ByteArray) (vk vn : Int) (vf : Nat) (vs : ByteArray) (w : World) :
    Calls Try.prog 55 #[cv nm k nn dk dn df ds, vv vk vn vf vs] w fun e w' => e = .returned (.int .i64 (takesV k nn vk vn vf vs)) ∧ Below w.heap.size w w' := by
  have hst := run_sf
  have hg := good_any vk vn vf vs
  unfold takesV
  cases hgv : goodV vk vn vf vs with
  | false =>
    rw [hgv] at hg
    rw [if_pos rfl]
    clear hgv
    go_enter Try.func55, Try.ntmps55
    go_wp2_with fail
    refine (hg _).mono ?_
    rintro e w1 ⟨rfl, h1⟩
    have hb := below_trans (((Below.refl w.heap.size w).alloc (Nat.le_refl _) (.cells #[.string nm, .int .i64 k, .bool nn, .int .i64 dk, .int .i64 dn, .float .f64 df, .string ds] 53)).alloc (by simp) (.cells #[.int .i64 vk, .int .i64 vn, .float .f64 vf, .string vs] 24)) h1
    have q0 : w1.cell? ⟨w.heap.size + 1, 0, none⟩ = some (.int .i64 vk) := (h1.cell (p := ⟨w.heap.size + 1, 0, none⟩) (by simp)).trans (by simp [go_sem])
    have q1 : w1.cell? ⟨w.heap.size, 1, none⟩ = some (.int .i64 k) := (h1.cell (p := ⟨w.heap.size, 1, none⟩) (by simp; omega)).trans (by simp [go_sem])
    have q2 : w1.cell? ⟨w.heap.size, 2, none⟩ = some (.bool nn) := (h1.cell (p := ⟨w.heap.size, 2, none⟩) (by simp; omega)).trans (by simp [go_sem])
    clear h1
    go_wp2_with fail
    go_ret
    exact ⟨rfl, hb⟩
  | true =>
    rw [hgv] at hg
    rw [if_neg (by simp)]
    clear hgv
    by_cases h0 : vk = 0
    · rw [if_pos h0]
      have t0 : (vk == 0) = true := by rw [beq_iff_eq]; exact h0
      clear h0
      have t00 : (vk != 0) = false := by rw [bne, t0]; rfl
      cases hnn : nn with
      | true =>
        subst hnn
        rw [if_pos rfl]
        go_enter Try.func55, Try.ntmps55
        go_wp2_with fail
        refine (hg _).mono ?_
        rintro e w1 ⟨rfl, h1⟩
        have hb := below_trans (((Below.refl w.heap.size w).alloc (Nat.le_refl _) (.cells #[.string nm, .int .i64 k, .bool true, .int .i64 dk, .int .i64 dn, .float .f64 df, .string ds] 53)).alloc (by simp) (.cells #[.int .i64 vk, .int .i64 vn, .float .f64 vf, .string vs] 24)) h1
        have q0 : w1.cell? ⟨w.heap.size + 1, 0, none⟩ = some (.int .i64 vk) := (h1.cell (p := ⟨w.heap.size + 1, 0, none⟩) (by simp)).trans (by simp [go_sem])
        have q1 : w1.cell? ⟨w.heap.size, 1, none⟩ = some (.int .i64 k) := (h1.cell (p := ⟨w.heap.size, 1, none⟩) (by simp; omega)).trans (by simp [go_sem])
        have q2 : w1.cell? ⟨w.heap.size, 2, none⟩ = some (.bool true) := (h1.cell (p := ⟨w.heap.size, 2, none⟩) (by simp; omega)).trans (by simp [go_sem])
        clear h1
        go_wp2_with fail
        try go_quiet (fail)
        try go_wp2_with fail
        go_ret
        exact ⟨rfl, by first | exact hb | exact below_drewN hb _⟩
      | false =>
        subst hnn
        rw [if_neg (by simp)]
        go_enter Try.func55, Try.ntmps55
        go_wp2_with fail
        refine (hg _).mono ?_
        rintro e w1 ⟨rfl, h1⟩
        have hb := below_trans (((Below.refl w.heap.size w).alloc (Nat.le_refl _) (.cells #[.string nm, .int .i64 k, .bool false, .int .i64 dk, .int .i64 dn, .float .f64 df, .string ds] 53)).alloc (by simp) (.cells #[.int .i64 vk, .int .i64 vn, .float .f64 vf, .string vs] 24)) h1
        have q0 : w1.cell? ⟨w.heap.size + 1, 0, none⟩ = some (.int .i64 vk) := (h1.cell (p := ⟨w.heap.size + 1, 0, none⟩) (by simp)).trans (by simp [go_sem])
        have q1 : w1.cell? ⟨w.heap.size, 1, none⟩ = some (.int .i64 k) := (h1.cell (p := ⟨w.heap.size, 1, none⟩) (by simp; omega)).trans (by simp [go_sem])
        have q2 : w1.cell? ⟨w.heap.size, 2, none⟩ = some (.bool false) := (h1.cell (p := ⟨w.heap.size, 2, none⟩) (by simp; omega)).trans (by simp [go_sem])
        clear h1
        go_wp2_with fail
        try go_quiet (fail)
        try go_wp2_with fail
        try go_quiet (fail)
        try go_wp2_with fail
        go_ret
        exact ⟨rfl, by first | exact hb | exact below_drewN hb _⟩
    · rw [if_neg h0]
      have t0 : (vk == 0) = false := by rw [beq_eq_false_iff_ne]; exact h0
      have t00 : (vk != 0) = true := by rw [bne, t0]; rfl
      by_cases h1 : vk = k
      · rw [if_pos h1]
        have t1 : (vk == k) = true := by rw [beq_iff_eq]; exact h1
        have t11 : (vk != k) = false := by rw [bne, t1]; rfl
        clear h0 h1
        go_enter Try.func55, Try.ntmps55
        go_wp2_with fail
        refine (hg _).mono ?_
        rintro e w1 ⟨rfl, h1⟩
        have hb := below_trans (((Below.refl w.heap.size w).alloc (Nat.le_refl _) (.cells #[.string nm, .int .i64 k, .bool nn, .int .i64 dk, .int .i64 dn, .float .f64 df, .string ds] 53)).alloc (by simp) (.cells #[.int .i64 vk, .int .i64 vn, .float .f64 vf, .string vs] 24)) h1
        have q0 : w1.cell? ⟨w.heap.size + 1, 0, none⟩ = some (.int .i64 vk) := (h1.cell (p := ⟨w.heap.size + 1, 0, none⟩) (by simp)).trans (by simp [go_sem])
        have q1 : w1.cell? ⟨w.heap.size, 1, none⟩ = some (.int .i64 k) := (h1.cell (p := ⟨w.heap.size, 1, none⟩) (by simp; omega)).trans (by simp [go_sem])
        have q2 : w1.cell? ⟨w.heap.size, 2, none⟩ = some (.bool nn) := (h1.cell (p := ⟨w.heap.size, 2, none⟩) (by simp; omega)).trans (by simp [go_sem])
        clear h1
        go_wp2_with fail
        try go_quiet (fail)
        try go_wp2_with fail
        try go_quiet (fail)
        try go_wp2_with fail
        go_ret
        exact ⟨rfl, by first | exact hb | exact below_drewN hb _⟩
      · rw [if_neg h1]
        have t1 : (vk == k) = false := by rw [beq_eq_false_iff_ne]; exact h1
        have t11 : (vk != k) = true := by rw [bne, t1]; rfl
        clear h0 h1
        go_enter Try.func55, Try.ntmps55
        go_wp2_with fail
        refine (hg _).mono ?_
        rintro e w1 ⟨rfl, h1⟩
        have hb := below_trans (((Below.refl w.heap.size w).alloc (Nat.le_refl _) (.cells #[.string nm, .int .i64 k, .bool nn, .int .i64 dk, .int .i64 dn, .float .f64 df, .string ds] 53)).alloc (by simp) (.cells #[.int .i64 vk, .int .i64 vn, .float .f64 vf, .string vs] 24)) h1
        have q0 : w1.cell? ⟨w.heap.size + 1, 0, none⟩ = some (.int .i64 vk) := (h1.cell (p := ⟨w.heap.size + 1, 0, none⟩) (by simp)).trans (by simp [go_sem])
        have q1 : w1.cell? ⟨w.heap.size, 1, none⟩ = some (.int .i64 k) := (h1.cell (p := ⟨w.heap.size, 1, none⟩) (by simp; omega)).trans (by simp [go_sem])
        have q2 : w1.cell? ⟨w.heap.size, 2, none⟩ = some (.bool nn) := (h1.cell (p := ⟨w.heap.size, 2, none⟩) (by simp; omega)).trans (by simp [go_sem])
        clear h1
        go_wp2_with fail
        try go_quiet (fail)
        try go_wp2_with fail
        try go_quiet (fail)
        try go_wp2_with fail
        go_ret
        exact ⟨rfl, by first | exact hb | exact below_drewN hb _⟩
end Go.Proofs.Ytmgpecomgffelaa
