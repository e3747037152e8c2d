/- Contracts of package clog: one, State, Csn, Snapshot, Reads, Clock. -/
import Derived.Test.YtobdooojdadgpaaClogB
namespace Go.Proofs.Ytobdooojdadgpaa
open Go.RowKit
set_option linter.unusedVariables false

abbrev txV (t : Tx) : Value := .agg #[.int .i64 t.state, .int .i64 t.csn, .int .i64 t.snap, .bool t.reads]

theorem one_none (l : Value) (x : Int) (w : World) (hg : ∀ W : World, W.cell? ⟨w.heap.size, 0, none⟩ ≠ none → (∀ a : Addr, a.block < w.heap.size → W.cell? a = w.cell? a) → Calls Try.prog 67 #[l, .int .i64 x] W fun e w' => e = .returned (.pointer none) ∧ W = w') :
    Calls Try.prog 68 #[l, .int .i64 x] w fun e w' => e = .returned (txV Tx.zero) ∧ Below w.heap.size w w' := by
  have Hg := Lib.hid hg
  clear hg
  go_enter Try.func68, Try.ntmps68
  go_wp2_with (go_at_call 67; refine (Hg.out _ (by simp) (fun a ha => World.cell?_alloc_lt _ _ _ ha)).mono ?_; rintro e w' ⟨rfl, rfl⟩)
  exact bodyPost_ret (v := txV Tx.zero) (by simp [results, Try.results68, go_sem, Tx.zero]) rfl ⟨rfl, (Below.refl _ _).alloc (Nat.le_refl _) _⟩

theorem one_some (g k : Nat) (t : Tx) (x : Int) (w : World) (hk : g < w.heap.size)
    (hg : ∀ W : World, (∀ a : Addr, a.block < w.heap.size → W.cell? a = w.cell? a) → Calls Try.prog 67 #[ptr g, .int .i64 x] W fun e w' => e = .returned (.pointer (some ⟨g, k, none⟩)) ∧ W = w')
    (q0 : w.cell? ⟨g, k, none⟩ = some (.int .i64 t.state)) (q1 : w.cell? ⟨g, k + 1, none⟩ = some (.int .i64 t.csn)) (q2 : w.cell? ⟨g, k + 2, none⟩ = some (.int .i64 t.snap)) (q3 : w.cell? ⟨g, k + 3, none⟩ = some (.bool t.reads)) :
    Calls Try.prog 68 #[ptr g, .int .i64 x] w fun e w' => e = .returned (txV t) ∧ Below w.heap.size w w' := by
  have Hg := Lib.hid hg
  clear hg
  go_enter Try.func68, Try.ntmps68
  go_wp2_with (go_at_call 67; refine (Hg.out _ (fun a ha => World.cell?_alloc_lt _ _ _ ha)).mono ?_; rintro e w' ⟨rfl, rfl⟩)
  exact bodyPost_ret (v := txV t) (by simp [results, Try.results68, go_sem]) rfl ⟨rfl, (Below.refl _ _).alloc (Nat.le_refl _) _⟩

theorem tx_out (S : LogS) (x : Int) (h : x < 1 ∨ (S.l.length : Int) < x) : S.tx x.toNat = Tx.zero := by
  unfold LogS.tx
  by_cases h0 : x.toNat = 0
  · rw [if_pos h0]
  · rw [if_neg h0, List.getD_eq_getElem?_getD, List.getElem?_eq_none (by omega)]
    rfl

theorem one_any (g : Nat) (x : Int) (S : LogS) (w : World) (h : LogAt w g S) (hl : S.l.length ≤ 200) :
    Calls Try.prog 68 #[ptr g, .int .i64 x] w fun e w' => e = .returned (txV (S.tx x.toNat)) ∧ Below w.heap.size w w' := by
  have hlt := h.lt
  by_cases h1 : 1 ≤ x ∧ x ≤ S.l.length
  · refine one_some g (x.toNat * 4) _ x w hlt (fun W hW => get_yes g x S.l.length W ?_ h1.1 h1.2 (by omega)) (h.state _ (by omega)) (h.csn _ (by omega)) (h.snap _ (by omega)) (h.reads _ (by omega))
    rw [hW ⟨g, 804, none⟩ hlt]; exact h.n
  · rw [tx_out S x (by omega)]
    refine one_none (ptr g) x w (fun W _ hW => get_no g x S.l.length W ?_ (by omega))
    rw [hW ⟨g, 804, none⟩ hlt]; exact h.n

theorem one_nil (x : Int) (w : World) : Calls Try.prog 68 #[.pointer none, .int .i64 x] w fun e w' => e = .returned (txV Tx.zero) ∧ Below w.heap.size w w' :=
  one_none _ x w fun W _ _ => get_nil x W

theorem field_state (a b c : Int) (d : Bool) (w : World) : (Instr.field 87 (.agg #[.int .i64 a, .int .i64 b, .int .i64 c, .bool d]) 0).run Try.prog w = .ok (.int .i64 a) w := by kernel_rfl
theorem field_csn (a b c : Int) (d : Bool) (w : World) : (Instr.field 87 (.agg #[.int .i64 a, .int .i64 b, .int .i64 c, .bool d]) 1).run Try.prog w = .ok (.int .i64 b) w := by kernel_rfl
theorem field_snap (a b c : Int) (d : Bool) (w : World) : (Instr.field 87 (.agg #[.int .i64 a, .int .i64 b, .int .i64 c, .bool d]) 2).run Try.prog w = .ok (.int .i64 c) w := by kernel_rfl
theorem field_reads (a b c : Int) (d : Bool) (w : World) : (Instr.field 87 (.agg #[.int .i64 a, .int .i64 b, .int .i64 c, .bool d]) 3).run Try.prog w = .ok (.bool d) w := by kernel_rfl

theorem state_any (g : Nat) (x : Int) (S : LogS) (w : World) (h : LogAt w g S) (hl : S.l.length ≤ 200) :
    Calls Try.prog 41 #[ptr g, .int .i64 x] w fun e w' => e = .returned (.int .i64 (S.tx x.toNat).state) ∧ Below w.heap.size w w' := by
  have hc := Lib.hid (one_any g x S w h hl)
  have hf := field_state
  go_enter Try.func41, Try.ntmps41
  go_wp2_with (go_at_call 68; refine hc.out.mono ?_; rintro e w' ⟨rfl, hb⟩)
  go_ret
  exact ⟨rfl, hb⟩
theorem state_nil (x : Int) (w : World) : Calls Try.prog 41 #[.pointer none, .int .i64 x] w fun e w' => e = .returned (.int .i64 Tx.zero.state) ∧ Below w.heap.size w w' := by
  have hc := Lib.hid (one_nil x w)
  have hf := field_state
  go_enter Try.func41, Try.ntmps41
  go_wp2_with (go_at_call 68; refine hc.out.mono ?_; rintro e w' ⟨rfl, hb⟩)
  go_ret
  exact ⟨rfl, hb⟩

theorem csn_any (g : Nat) (x : Int) (S : LogS) (w : World) (h : LogAt w g S) (hl : S.l.length ≤ 200) :
    Calls Try.prog 48 #[ptr g, .int .i64 x] w fun e w' => e = .returned (.int .i64 (S.tx x.toNat).csn) ∧ Below w.heap.size w w' := by
  have hc := Lib.hid (one_any g x S w h hl)
  have hf := field_csn
  go_enter Try.func48, Try.ntmps48
  go_wp2_with (go_at_call 68; refine hc.out.mono ?_; rintro e w' ⟨rfl, hb⟩)
  go_ret
  exact ⟨rfl, hb⟩
theorem csn_nil (x : Int) (w : World) : Calls Try.prog 48 #[.pointer none, .int .i64 x] w fun e w' => e = .returned (.int .i64 Tx.zero.csn) ∧ Below w.heap.size w w' := by
  have hc := Lib.hid (one_nil x w)
  have hf := field_csn
  go_enter Try.func48, Try.ntmps48
  go_wp2_with (go_at_call 68; refine hc.out.mono ?_; rintro e w' ⟨rfl, hb⟩)
  go_ret
  exact ⟨rfl, hb⟩

theorem snapshot_any (g : Nat) (x : Int) (S : LogS) (w : World) (h : LogAt w g S) (hl : S.l.length ≤ 200) :
    Calls Try.prog 40 #[ptr g, .int .i64 x] w fun e w' => e = .returned (.int .i64 (S.tx x.toNat).snap) ∧ Below w.heap.size w w' := by
  have hc := Lib.hid (one_any g x S w h hl)
  have hf := field_snap
  go_enter Try.func40, Try.ntmps40
  go_wp2_with (go_at_call 68; refine hc.out.mono ?_; rintro e w' ⟨rfl, hb⟩)
  go_ret
  exact ⟨rfl, hb⟩
theorem snapshot_nil (x : Int) (w : World) : Calls Try.prog 40 #[.pointer none, .int .i64 x] w fun e w' => e = .returned (.int .i64 Tx.zero.snap) ∧ Below w.heap.size w w' := by
  have hc := Lib.hid (one_nil x w)
  have hf := field_snap
  go_enter Try.func40, Try.ntmps40
  go_wp2_with (go_at_call 68; refine hc.out.mono ?_; rintro e w' ⟨rfl, hb⟩)
  go_ret
  exact ⟨rfl, hb⟩

theorem reads_any (g : Nat) (x : Int) (S : LogS) (w : World) (h : LogAt w g S) (hl : S.l.length ≤ 200) :
    Calls Try.prog 49 #[ptr g, .int .i64 x] w fun e w' => e = .returned (.bool (S.tx x.toNat).reads) ∧ Below w.heap.size w w' := by
  have hc := Lib.hid (one_any g x S w h hl)
  have hf := field_reads
  go_enter Try.func49, Try.ntmps49
  go_wp2_with (go_at_call 68; refine hc.out.mono ?_; rintro e w' ⟨rfl, hb⟩)
  go_ret
  exact ⟨rfl, hb⟩
theorem reads_nil (x : Int) (w : World) : Calls Try.prog 49 #[.pointer none, .int .i64 x] w fun e w' => e = .returned (.bool Tx.zero.reads) ∧ Below w.heap.size w w' := by
  have hc := Lib.hid (one_nil x w)
  have hf := field_reads
  go_enter Try.func49, Try.ntmps49
  go_wp2_with (go_at_call 68; refine hc.out.mono ?_; rintro e w' ⟨rfl, hb⟩)
  go_ret
  exact ⟨rfl, hb⟩

theorem clock_any (g : Nat) (S : LogS) (w : World) (h : LogAt w g S) : Calls Try.prog 43 #[ptr g] w fun e w' => e = .returned (.int .i64 S.clock) ∧ w = w' := by
  have hc := h.clk
  clear h
  go_enter Try.func43, Try.ntmps43
  go_wp2
  go_ret
  exact ⟨rfl, rfl⟩
theorem clock_nil (w : World) : Calls Try.prog 43 #[.pointer none] w fun e w' => e = .returned (.int .i64 0) ∧ w = w' := by
  go_enter Try.func43, Try.ntmps43
  go_wp2
  go_ret
  exact ⟨rfl, rfl⟩
end Go.Proofs.Ytobdooojdadgpaa
