/- Contracts of the reference: Takes, Pad. -/
import Derived.Test.YtmgpecomgffelaaRowJ
namespace Go.Proofs.Ytmgpecomgffelaa
open Go.RowKit
set_option linter.unusedVariables false
set_option maxRecDepth 100000 in
theorem rtakes_any (nm : ByteArray) (k : Int) (nn : Bool) (dk dn : Int) (df : Nat) (ds : ByteArray) (vk vn : Int) (vf : Nat) (vs : ByteArray) (w : World) :
    Calls Try.prog 56 #[cv nm k nn dk dn df ds, vv vk vn vf vs] w fun e w' => e = .returned (.int .i64 (takesV k nn vk vn vf vs)) ∧ Below w.heap.size w w' := by
  have hst := run_sf
  have hg := rgood_any vk vn vf vs
  unfold takesV
  cases hgv : goodV vk vn vf vs with
  | false =>
    rw [hgv] at hg
    rw [if_pos rfl]
    clear hgv
    go_enter Try.func56, Try.ntmps56
    go_wp2_with fail
    refine (hg _).mono ?_
    rintro e w1 ⟨rfl, h1⟩
    have hb := below_trans (((Below.refl w.heap.size w).alloc (Nat.le_refl _) (.cells #[.string nm, .int .i64 k, .bool nn, .int .i64 dk, .int .i64 dn, .float .f64 df, .string ds] 53)).alloc (by simp) (.cells #[.int .i64 vk, .int .i64 vn, .float .f64 vf, .string vs] 24)) h1
    have q0 : w1.cell? ⟨w.heap.size + 1, 0, none⟩ = some (.int .i64 vk) := (h1.cell (p := ⟨w.heap.size + 1, 0, none⟩) (by simp)).trans (by simp [go_sem])
    have q1 : w1.cell? ⟨w.heap.size, 1, none⟩ = some (.int .i64 k) := (h1.cell (p := ⟨w.heap.size, 1, none⟩) (by simp; omega)).trans (by simp [go_sem])
    have q2 : w1.cell? ⟨w.heap.size, 2, none⟩ = some (.bool nn) := (h1.cell (p := ⟨w.heap.size, 2, none⟩) (by simp; omega)).trans (by simp [go_sem])
    clear h1
    go_wp2_with fail
    go_ret
    exact ⟨rfl, hb⟩
  | true =>
    rw [hgv] at hg
    rw [if_neg (by simp)]
    clear hgv
    by_cases h0 : vk = 0
    · rw [if_pos h0]
      have t0 : (vk == 0) = true := by rw [beq_iff_eq]; exact h0
      clear h0
      have t00 : (vk != 0) = false := by rw [bne, t0]; rfl
      cases hnn : nn with
      | true =>
        subst hnn
        rw [if_pos rfl]
        go_enter Try.func56, Try.ntmps56
        go_wp2_with fail
        refine (hg _).mono ?_
        rintro e w1 ⟨rfl, h1⟩
        have hb := below_trans (((Below.refl w.heap.size w).alloc (Nat.le_refl _) (.cells #[.string nm, .int .i64 k, .bool true, .int .i64 dk, .int .i64 dn, .float .f64 df, .string ds] 53)).alloc (by simp) (.cells #[.int .i64 vk, .int .i64 vn, .float .f64 vf, .string vs] 24)) h1
        have q0 : w1.cell? ⟨w.heap.size + 1, 0, none⟩ = some (.int .i64 vk) := (h1.cell (p := ⟨w.heap.size + 1, 0, none⟩) (by simp)).trans (by simp [go_sem])
        have q1 : w1.cell? ⟨w.heap.size, 1, none⟩ = some (.int .i64 k) := (h1.cell (p := ⟨w.heap.size, 1, none⟩) (by simp; omega)).trans (by simp [go_sem])
        have q2 : w1.cell? ⟨w.heap.size, 2, none⟩ = some (.bool true) := (h1.cell (p := ⟨w.heap.size, 2, none⟩) (by simp; omega)).trans (by simp [go_sem])
        clear h1
        go_wp2_with fail
        try go_quiet (fail)
        try go_wp2_with fail
        go_ret
        exact ⟨rfl, by first | exact hb | exact below_drewN hb _⟩
      | false =>
        subst hnn
        rw [if_neg (by simp)]
        go_enter Try.func56, Try.ntmps56
        go_wp2_with fail
        refine (hg _).mono ?_
        rintro e w1 ⟨rfl, h1⟩
        have hb := below_trans (((Below.refl w.heap.size w).alloc (Nat.le_refl _) (.cells #[.string nm, .int .i64 k, .bool false, .int .i64 dk, .int .i64 dn, .float .f64 df, .string ds] 53)).alloc (by simp) (.cells #[.int .i64 vk, .int .i64 vn, .float .f64 vf, .string vs] 24)) h1
        have q0 : w1.cell? ⟨w.heap.size + 1, 0, none⟩ = some (.int .i64 vk) := (h1.cell (p := ⟨w.heap.size + 1, 0, none⟩) (by simp)).trans (by simp [go_sem])
        have q1 : w1.cell? ⟨w.heap.size, 1, none⟩ = some (.int .i64 k) := (h1.cell (p := ⟨w.heap.size, 1, none⟩) (by simp; omega)).trans (by simp [go_sem])
        have q2 : w1.cell? ⟨w.heap.size, 2, none⟩ = some (.bool false) := (h1.cell (p := ⟨w.heap.size, 2, none⟩) (by simp; omega)).trans (by simp [go_sem])
        clear h1
        go_wp2_with fail
        try go_quiet (fail)
        try go_wp2_with fail
        try go_quiet (fail)
        try go_wp2_with fail
        go_ret
        exact ⟨rfl, by first | exact hb | exact below_drewN hb _⟩
    · rw [if_neg h0]
      have t0 : (vk == 0) = false := by rw [beq_eq_false_iff_ne]; exact h0
      have t00 : (vk != 0) = true := by rw [bne, t0]; rfl
      by_cases h1 : vk = k
      · rw [if_pos h1]
        have t1 : (vk == k) = true := by rw [beq_iff_eq]; exact h1
        have t11 : (vk != k) = false := by rw [bne, t1]; rfl
        clear h0 h1
        go_enter Try.func56, Try.ntmps56
        go_wp2_with fail
        refine (hg _).mono ?_
        rintro e w1 ⟨rfl, h1⟩
        have hb := below_trans (((Below.refl w.heap.size w).alloc (Nat.le_refl _) (.cells #[.string nm, .int .i64 k, .bool nn, .int .i64 dk, .int .i64 dn, .float .f64 df, .string ds] 53)).alloc (by simp) (.cells #[.int .i64 vk, .int .i64 vn, .float .f64 vf, .string vs] 24)) h1
        have q0 : w1.cell? ⟨w.heap.size + 1, 0, none⟩ = some (.int .i64 vk) := (h1.cell (p := ⟨w.heap.size + 1, 0, none⟩) (by simp)).trans (by simp [go_sem])
        have q1 : w1.cell? ⟨w.heap.size, 1, none⟩ = some (.int .i64 k) := (h1.cell (p := ⟨w.heap.size, 1, none⟩) (by simp; omega)).trans (by simp [go_sem])
        have q2 : w1.cell? ⟨w.heap.size, 2, none⟩ = some (.bool nn) := (h1.cell (p := ⟨w.heap.size, 2, none⟩) (by simp; omega)).trans (by simp [go_sem])
        clear h1
        go_wp2_with fail
        try go_quiet (fail)
        try go_wp2_with fail
        try go_quiet (fail)
        try go_wp2_with fail
        go_ret
        exact ⟨rfl, by first | exact hb | exact below_drewN hb _⟩
      · rw [if_neg h1]
        have t1 : (vk == k) = false := by rw [beq_eq_false_iff_ne]; exact h1
        have t11 : (vk != k) = true := by rw [bne, t1]; rfl
        clear h0 h1
        go_enter Try.func56, Try.ntmps56
        go_wp2_with fail
        refine (hg _).mono ?_
        rintro e w1 ⟨rfl, h1⟩
        have hb := below_trans (((Below.refl w.heap.size w).alloc (Nat.le_refl _) (.cells #[.string nm, .int .i64 k, .bool nn, .int .i64 dk, .int .i64 dn, .float .f64 df, .string ds] 53)).alloc (by simp) (.cells #[.int .i64 vk, .int .i64 vn, .float .f64 vf, .string vs] 24)) h1
        have q0 : w1.cell? ⟨w.heap.size + 1, 0, none⟩ = some (.int .i64 vk) := (h1.cell (p := ⟨w.heap.size + 1, 0, none⟩) (by simp)).trans (by simp [go_sem])
        have q1 : w1.cell? ⟨w.heap.size, 1, none⟩ = some (.int .i64 k) := (h1.cell (p := ⟨w.heap.size, 1, none⟩) (by simp; omega)).trans (by simp [go_sem])
        have q2 : w1.cell? ⟨w.heap.size, 2, none⟩ = some (.bool nn) := (h1.cell (p := ⟨w.heap.size, 2, none⟩) (by simp; omega)).trans (by simp [go_sem])
        clear h1
        go_wp2_with fail
        try go_quiet (fail)
        try go_wp2_with fail
        try go_quiet (fail)
        try go_wp2_with fail
        go_ret
        exact ⟨rfl, by first | exact hb | exact below_drewN hb _⟩
set_option maxRecDepth 100000 in
theorem rpad_any (A B : Option Addr) (c d : Nat) (l : List Col) (r : List Val) (w : World) (ha : RdC w A l) (hb : RdV w B r) (hl : l.length ≤ 1000) :
    Calls Try.prog 54 #[.slice A l.length c, .slice B r.length d] w fun e w' => ∃ A' c', e = .returned (.slice A' l.length c') ∧ RdV w' A' (padV l r) ∧ (A' = none → c' = 0) ∧ Below w.heap.size w w' := by
  have hst := run_sf
  have HA := Lib.hid ha
  have HB := Lib.hid hb
  obtain ⟨i0, hi, hz0, hz1, hz2⟩ := info_parts info24
  clear ha hb
  go_enter Try.func54, Try.ntmps54
  go_wp2_with fail
  go_loopw [5, 6] (fun v i wr => ∃ k : Nat, k ≤ l.length ∧ i = .int .i64 k ∧ wr.ownsRow w.heap.size 24 4 v k (((padV l r).take k).flatMap Val.cells) ∧ Below w.heap.size w wr) (fun _ i _ => l.length - (intOf i).toNat)
  case atStart => exact ⟨0, by omega, rfl, World.ownsRow_nil _ _ _ _, Below.refl _ _⟩
  case round =>
    obtain ⟨k, hk, rfl, hown, hb⟩ := hrel
    by_cases hlt : k < l.length
    · obtain ⟨ad, rfl, q0, q1, q2, q3, q4, q5, q6⟩ := RdC.at (HA.out.keep hb (Nat.le_refl _)) k hlt
      have hp := pad_step l r k hlt
      by_cases hr : k < r.length
      · obtain ⟨ad2, rfl, r0, r1, r2, r3⟩ := RdV.at (HB.out.keep hb (Nat.le_refl _)) k hr
        have ht : decide ((k : Int) < (r.length : Int)) = true := by rw [decide_eq_true]; omega
        have hg : r.getD k l[k].d = r[k] := by simp [List.getD, hr]
        rw [hg] at hp
        have Hp := Lib.hid hp
        have hblk : (ad2.add (k * 4)).block < wr.heap.size := World.block_lt_of_cell? _ _ r0
        clear hp hg
        generalize l[k] = x at *
        generalize r[k] = y at *
        go_wp2_with (at_builtin; refine wpList_append_own _ rfl _ _ 39 rfl w.heap.size 24 i0 (.agg #[.int .i64 0, .int .i64 0, .float .f64 0, .string ⟨#[]⟩]) 4 40 Try.underlying39 hi hz0 hz1 hz2 rfl (by decide) _ _ _ rfl (hown.alloc _) ⟨wr.heap.size, 0, none⟩ 1 1 y.cells rfl rfl ?c1 ?c2 ?c3 ?c4 ?c5 ?_)
        case c1 =>
          intro j u hj
          rw [cell_new_at (by simp)]
          simpa [Val.cells] using hj
        case c2 => simp [Value.oneCell', Val.cells]
        case c3 => unfold maxLen; omega
        case c4 => omega
        case c5 => have := hb.size; simp; omega
        intro v' w1 hown' hgrow _
        have hb1 : Below w.heap.size w w1 := (hb.alloc hb.size _).grown hgrow (by have := hb.size; simp; omega) (fun j hj => (hown.lt j hj).1)
        go_wp2_with fail
        exact ⟨⟨k + 1, by omega, by go_num, by rw [Hp.out]; exact hown', hb1⟩, by simp [intOf]; omega⟩
      · have ht : decide ((k : Int) < (r.length : Int)) = false := by rw [decide_eq_false]; omega
        have hg : r.getD k l[k].d = l[k].d := by simp [List.getD, List.getElem?_eq_none (Nat.le_of_not_lt hr)]
        rw [hg] at hp
        have Hp := Lib.hid hp
        clear hp hg
        generalize l[k] = x at *
        generalize x.d = y at *
        go_wp2_with (at_builtin; refine wpList_append_own _ rfl _ _ 39 rfl w.heap.size 24 i0 (.agg #[.int .i64 0, .int .i64 0, .float .f64 0, .string ⟨#[]⟩]) 4 40 Try.underlying39 hi hz0 hz1 hz2 rfl (by decide) _ _ _ rfl (hown.alloc _) ⟨wr.heap.size, 0, none⟩ 1 1 y.cells rfl rfl ?c1 ?c2 ?c3 ?c4 ?c5 ?_)
        case c1 =>
          intro j u hj
          rw [cell_new_at (by simp)]
          simpa [Val.cells] using hj
        case c2 => simp [Value.oneCell', Val.cells]
        case c3 => unfold maxLen; omega
        case c4 => omega
        case c5 => have := hb.size; simp; omega
        intro v' w1 hown' hgrow _
        have hb1 : Below w.heap.size w w1 := (hb.alloc hb.size _).grown hgrow (by have := hb.size; simp; omega) (fun j hj => (hown.lt j hj).1)
        go_wp2_with fail
        exact ⟨⟨k + 1, by omega, by go_num, by rw [Hp.out]; exact hown', hb1⟩, by simp [intOf]; omega⟩
    · obtain rfl : k = l.length := by omega
      obtain ⟨A', c', rfl, hn0⟩ := slice_of_own' hown
      have hl2 : (padV l r).take l.length = padV l r := List.take_of_length_le (by rw [padV_len]; exact Nat.le_refl _)
      rw [hl2] at hown
      have hrd : RdV wr A' (padV l r) := RdL.of_own Val.cells_len (by omega) (c := c') (e := 24) (base := w.heap.size) (by rw [padV_len]; exact hown)
      clear hown hl2
      go_wp2_with fail
      go_ret
      exact ⟨A', c', rfl, hrd, hn0, hb⟩
end Go.Proofs.Ytmgpecomgffelaa
