/- Contracts of the document's log: Running, Horizon; liverykeep.Ints on one list. -/
import Derived.Test.YtobdooojdadgpaaClogRd
namespace Go.Proofs.Ytobdooojdadgpaa
open Go.RowKit
set_option linter.unusedVariables false

theorem horL_step (S : LogS) (k : Nat) : S.horL (S.runL (k + 1)) = if (S.tx (k + 1)).state == 1 then min (S.horL (S.runL k)) (S.tx (k + 1)).snap else S.horL (S.runL k) := by
  unfold LogS.horL
  rw [LogS.runL, List.foldl_append]
  by_cases h : (S.tx (k + 1)).state == 1
  · rw [if_pos h, if_pos h]
    simp only [List.foldl_cons, List.foldl_nil]
    rw [show ((k : Int) + 1).toNat = k + 1 by omega]
  · rw [if_neg h, if_neg h]
    rfl

/-- The cells of the transactions, by their numbers. -/
def RowsAt (w : World) (A : Option Addr) (S : LogS) (n : Nat) : Prop := ∀ k, k < n → ∃ ad, A = some ad ∧ ∀ w', Below w.heap.size w w' →
  w'.cell? (ad.add (k * 4)) = some (.int .i64 (S.tx (k + 1)).state) ∧ w'.cell? ⟨(ad.add (k * 4)).block, (ad.add (k * 4)).off + 1, none⟩ = some (.int .i64 (S.tx (k + 1)).snap)
theorem rows_at {w : World} {A : Option Addr} {S : LogS} (hr : RdL Tx.rc 4 w A S.l) : RowsAt w A S S.l.length := fun k hk => by
  obtain ⟨ad, rfl⟩ := hr.some k hk
  refine ⟨ad, rfl, fun w' hb => ?_⟩
  obtain ⟨q0, q1, _, _⟩ := rc_at (hr.keep hb (Nat.le_refl _)) k hk
  rw [tx_in S k hk]
  exact ⟨q0, q1⟩

set_option maxRecDepth 100000 in
theorem ref_running (q : Nat) (S : LogS) (w : World) (h : RefAt w q S) (hl : S.l.length ≤ 200) : Calls Try.prog 74 #[ptr q] w (RunEnd (S.runL S.l.length) w) := by
  obtain ⟨i0, hi, hz0, hz1, hz2⟩ := info_parts info3
  have hlt := h.lt
  obtain ⟨A, c, h0, h1, hn, hr⟩ := h.cells
  have HR := Lib.hid (rows_at hr)
  have h00 := h0
  clear h hn h1 hr
  generalize hN : S.l.length = N at *
  have HN := Lib.hid hN
  clear hN
  go_enter Try.func74, Try.ntmps74
  go_wp2
  go_loopw [3, 4] (fun v i wr => ∃ k : Nat, k ≤ N ∧ i = .int .i64 k ∧ wr.ownsRow w.heap.size 3 1 v (S.runL k).length ((S.runL k).map (.int .i64)) ∧ Below w.heap.size w wr) (fun _ i _ => (N + 1 - intOf i).toNat)
  case atStart => exact ⟨0, by omega, rfl, World.ownsRow_nil _ _ _ _, Below.refl _ _⟩
  case round =>
    obtain ⟨k, hk, rfl, hown, hb⟩ := hrel
    have g0 := (hb.cell (p := ⟨q, 0, none⟩) hlt).trans h00
    by_cases hlt2 : k < N
    · obtain ⟨ad, rfl, hrow⟩ := HR.out k hlt2
      obtain ⟨q0, _⟩ := hrow _ hb
      clear hrow
      have hlen := runL_len S k
      by_cases hs : ((S.tx (k + 1)).state == 1) = true
      · have Hs := Lib.hid (show S.runL (k + 1) = S.runL k ++ [(k : Int) + 1] by rw [LogS.runL, if_pos hs])
        go_wp2_with (at_builtin; refine wpList_append_own _ rfl _ _ 36 rfl w.heap.size 3 i0 (.int .i64 0) 1 8 Try.underlying36 hi hz0 hz1 hz2 rfl (by decide) _ _ _ rfl (hown.alloc _) ⟨wr.heap.size, 0, none⟩ 1 1 [.int .i64 ((k : Int) + 1)] rfl rfl ?c1 ?c2 ?c3 ?c4 ?c5 ?_)
        case c1 => exact cell_one_new _ _ _
        case c2 => simp [Value.oneCell']
        case c3 => unfold maxLen; omega
        case c4 => omega
        case c5 => have := hb.size; simp; omega
        intro v' w1 hown' hgrow _
        have hb1 : Below w.heap.size w w1 := (hb.alloc hb.size _).grown hgrow (by have := hb.size; simp; omega) (fun j hj => (hown.lt j hj).1)
        go_wp2
        go_roundw
        case rel => exact ⟨k + 1, by omega, by go_num, by rw [Hs.out]; simpa using hown', hb1⟩
        case measure => simp [intOf]; omega
      · have hs : ((S.tx (k + 1)).state == 1) = false := by simpa using hs
        have Hs := Lib.hid (show S.runL (k + 1) = S.runL k by rw [LogS.runL, if_neg (by rw [hs]; simp), List.append_nil])
        go_wp2
        go_roundw
        case rel => exact ⟨k + 1, by omega, by go_num, by rw [Hs.out]; exact hown, hb⟩
        case measure => simp [intOf]; omega
    · go_wp2
      go_ret
      obtain rfl : k = N := by omega
      exact runEnd_mk hown hb

set_option maxRecDepth 100000 in
theorem ref_horizon (q : Nat) (S : LogS) (w : World) (h : RefAt w q S) (hl : S.l.length ≤ 200) : Calls Try.prog 75 #[ptr q] w fun e w' => e = .returned (.int .i64 (S.horL (S.runL S.l.length))) ∧ w = w' := by
  have hlt := h.lt
  obtain ⟨A, c, h0, h1, hn, hr⟩ := h.cells
  have HR := Lib.hid (rows_at hr)
  have hst0 : S.horL (S.runL 0) = S.clock := rfl
  have Hstep := Lib.hid (horL_step S)
  clear h hn hr
  rw [← hst0] at h1
  clear hst0
  generalize hN : S.l.length = N at *
  have HN := Lib.hid hN
  clear hN
  generalize hf : (fun k => S.horL (S.runL k)) = f
  have hf' : ∀ k, S.horL (S.runL k) = f k := fun k => by rw [← hf]
  simp only [hf'] at *
  clear hf hf'
  go_enter Try.func75, Try.ntmps75
  go_wp2
  go_loop [3, 4] (fun m i => ∃ k : Nat, k ≤ N ∧ i = .int .i64 k ∧ m = .int .i64 (f k)) (fun _ i => (N + 1 - intOf i).toNat)
  case atStart => exact ⟨0, by omega, rfl, rfl⟩
  case round =>
    obtain ⟨k, hk, rfl, rfl⟩ := hrel
    by_cases hlt2 : k < N
    · obtain ⟨ad, rfl, hrow⟩ := HR.out k hlt2
      obtain ⟨q0, q1⟩ := hrow _ (Below.refl _ _)
      have hs2 := Hstep.out k
      clear hrow
      by_cases hs : ((S.tx (k + 1)).state == 1) = true
      · rw [if_pos hs] at hs2
        have Hs2 := Lib.hid hs2
        clear hs2
        go_wp2_with fail
        exact ⟨⟨k + 1, by omega, by go_num, by rw [Hs2.out, min_as]⟩, by simp [intOf]; omega⟩
      · rw [if_neg hs] at hs2
        have Hs2 := Lib.hid hs2
        clear hs2
        have hs : ((S.tx (k + 1)).state == 1) = false := by simpa using hs
        go_wp2_with fail
        exact ⟨⟨k + 1, by omega, by go_num, by rw [Hs2.out]⟩, by simp [intOf]; omega⟩
    · go_wp2
      go_ret
      obtain rfl : k = N := by omega
      exact ⟨rfl, rfl⟩

set_option maxRecDepth 100000 in
theorem ints_same (l : List Int) (A B : Option Addr) (c c' : Nat) (w : World) (ha : Rd w A (l.map (.int .i64))) (hb : Rd w B (l.map (.int .i64))) (hl : l.length ≤ 1000) :
    Calls Try.prog 73 #[.slice A l.length c, .slice B l.length c'] w fun e w' => e = .returned (.bool true) ∧ Below w.heap.size w w' := by
  go_enter Try.func73, Try.ntmps73
  go_wp2
  go_loopw [5] (fun i wr => ∃ k : Nat, k ≤ l.length ∧ i = .int .i64 k ∧ Dr w wr) (fun i _ => (l.length + 1 - intOf i).toNat)
  case atStart => exact ⟨0, Nat.zero_le _, rfl, Dr.refl _⟩
  case round =>
    obtain ⟨k, hk, rfl, n, rfl⟩ := hrel
    by_cases hlt2 : k < l.length
    · obtain ⟨ad, rfl, h1⟩ := ha k (by simpa using hlt2)
      obtain ⟨bd, rfl, h2⟩ := hb k (by simpa using hlt2)
      simp only [List.getElem_map] at h1 h2
      generalize l[k] = x at *
      go_wp2
      go_quiet (fail)
      go_wp2
      go_roundw
      case rel => exact ⟨k + 1, by omega, by go_num, _, rfl⟩
      case measure => simp [intOf]; omega
    · go_wp2
      go_ret
      exact ⟨rfl, Dr.below ⟨n, rfl⟩⟩
end Go.Proofs.Ytobdooojdadgpaa
