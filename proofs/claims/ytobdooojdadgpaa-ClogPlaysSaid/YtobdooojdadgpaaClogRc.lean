/- Contracts of the document's log: Commit, Abort. -/
import Derived.Test.YtobdooojdadgpaaClogRb
namespace Go.Proofs.Ytobdooojdadgpaa
open Go.RowKit
set_option linter.unusedVariables false

theorem rc_set1 (s : Int) : ∀ (l : List Tx) (k : Nat) (hk : k < l.length), (l.flatMap Tx.rc).set (k * 4) (.int .i64 s) = (l.set k ⟨s, l[k].csn, l[k].snap, l[k].reads⟩).flatMap Tx.rc
  | a :: l, 0, _ => by simp [Tx.rc]
  | a :: l, k + 1, hk => by
    have ih := rc_set1 s l k (by simpa using hk)
    rw [show (k + 1) * 4 = k * 4 + 4 by omega]
    simp only [List.flatMap_cons, List.set_cons_succ, List.getElem_cons_succ]
    rw [← ih]
    simp [Tx.rc]
theorem rc_set2 (s c : Int) : ∀ (l : List Tx) (k : Nat) (hk : k < l.length), ((l.flatMap Tx.rc).set (k * 4) (.int .i64 s)).set (k * 4 + 2) (.int .i64 c) = (l.set k ⟨s, c, l[k].snap, l[k].reads⟩).flatMap Tx.rc
  | a :: l, 0, _ => by simp [Tx.rc]
  | a :: l, k + 1, hk => by
    have ih := rc_set2 s c l k (by simpa using hk)
    rw [show (k + 1) * 4 = k * 4 + 4 by omega]
    simp only [List.flatMap_cons, List.set_cons_succ, List.getElem_cons_succ]
    rw [← ih]
    simp [Tx.rc]

theorem rfield_state (a b c : Int) (d : Bool) (w : World) : (Instr.field 113 (.agg #[.int .i64 a, .int .i64 b, .int .i64 c, .bool d]) 0).run Try.prog w = .ok (.int .i64 a) w := by kernel_rfl

theorem LogAt.belowB {w w' : World} {g B : Nat} {S : LogS} (h : LogAt w g S) (hb : Below B w w') (hg : g < B) : LogAt w' g S := World.rowIs.of_block h (hb.block g hg)

theorem ref_commit_no (q : Nat) (x : Int) (t : Tx) (w : World) (hx : Hid (Calls Try.prog 72 #[ptr q, .int .i64 x] w (GetP t w))) (ht : (t.state != 1) = true) :
    Calls Try.prog 70 #[ptr q, .int .i64 x] w fun e w' => e = .returned (.tuple #[.int .i64 0, .int .i64 76]) ∧ Below w.heap.size w w' := by
  have hf := rfield_state
  go_enter Try.func70, Try.ntmps70
  go_wp2_with fail
  refine hx.out.mono ?_
  rintro e w1 ⟨rfl, b1⟩
  go_wp2_with fail
  go_ret2
  exact ⟨rfl, b1⟩
theorem ref_abort_no (q : Nat) (x : Int) (t : Tx) (w : World) (hx : Hid (Calls Try.prog 72 #[ptr q, .int .i64 x] w (GetP t w))) (ht : (t.state != 1) = true) :
    Calls Try.prog 71 #[ptr q, .int .i64 x] w fun e w' => e = .returned (.int .i64 76) ∧ Below w.heap.size w w' := by
  have hf := rfield_state
  go_enter Try.func71, Try.ntmps71
  go_wp2_with fail
  refine hx.out.mono ?_
  rintro e w1 ⟨rfl, b1⟩
  go_wp2_with fail
  go_ret
  exact ⟨rfl, b1⟩

/-- Where the cells lie. -/
theorem RefAt.where_ {w : World} {q : Nat} {S : LogS} (h : RefAt w q S) (k : Nat) (hk : k < S.l.length) :
    ∃ b c, w.rowIs q 73 2 (fun i => if i = 0 then .slice (some ⟨b, 0, none⟩) S.l.length c else .int .i64 S.clock) ∧ w.ownsRow (q + 1) 113 4 (.slice (some ⟨b, 0, none⟩) S.l.length c) S.l.length (S.l.flatMap Tx.rc) ∧ q < b := by
  obtain ⟨A, c, h1, h2, hn, hr⟩ := h.opened
  rcases h2.2 with ⟨hv, h0⟩ | ⟨g, cap, cur, hv, hg, _⟩
  · omega
  · have hA : A = some ⟨g, 0, none⟩ := by injection hv
    subst hA
    exact ⟨g, c, h1, h2, hg⟩

theorem add0 (b j : Nat) : (⟨b, 0, none⟩ : Addr).add j = ⟨b, j, none⟩ := by unfold Addr.add; split <;> simp_all

theorem ref_commit_cells (q b k m c : Nat) (t : Tx) (cl : Int) (w : World) (hx : Hid (Calls Try.prog 72 #[ptr q, .int .i64 ((k : Int) + 1)] w (GetP t w))) (ht : t.state = 1) (hk : k < m) (hm : m ≤ 200) (c0 : 0 ≤ cl) (c1 : cl ≤ 400)
    (hq : ∀ w1 : World, Below w.heap.size w w1 → ∃ w2, w2 = w1.setCell ⟨q, 1, none⟩ (.int .i64 (cl + 1)) ∧ w1.cell? ⟨q, 1, none⟩ = some (.int .i64 cl) ∧ w1.frozen? ⟨q, 1, none⟩ = false ∧ w2.cell? ⟨q, 0, none⟩ = some (.slice (some ⟨b, 0, none⟩) m c) ∧ w2.cell? ⟨q, 1, none⟩ = some (.int .i64 (cl + 1)) ∧
      w2.cell? ⟨b, k * 4, none⟩ = some (.int .i64 t.state) ∧ w2.frozen? ⟨b, k * 4, none⟩ = false ∧ w2.cell? ⟨b, k * 4 + 2, none⟩ = some (.int .i64 t.csn) ∧ w2.frozen? ⟨b, k * 4 + 2, none⟩ = false ∧ q < b) :
    Calls Try.prog 70 #[ptr q, .int .i64 ((k : Int) + 1)] w fun e w' => e = .returned (.tuple #[.int .i64 (cl + 1), .int .i64 0]) ∧
      ∃ w1, Below w.heap.size w w1 ∧ w' = (((w1.setCell ⟨q, 1, none⟩ (.int .i64 (cl + 1))).setCell ⟨b, k * 4, none⟩ (.int .i64 2)).setCell ⟨b, k * 4 + 2, none⟩ (.int .i64 (cl + 1))).drew := by
  have hf := rfield_state
  obtain ⟨ts, tc, tn, tr⟩ := t
  dsimp only at ht
  subst ht
  have Hq := Lib.hid hq
  clear hq
  have e1 : ((k : Int) + 1) - 1 = k := by omega
  go_enter Try.func70, Try.ntmps70
  go_wp2_with fail
  refine hx.out.mono ?_
  rintro e w1 ⟨rfl, b1⟩
  obtain ⟨w2, hw, g0, g1, g2, g3, g4, g5, g6, g7, hqb⟩ := Hq.out w1 b1
  have Hw := Lib.hid hw
  clear hw
  go_wp2_with fail
  rw [← Hw.out]
  go_region
  all_goals (go_wp2; go_ret2; exact ⟨rfl, w1, b1, by rw [← Hw.out]⟩)

theorem ref_abort_cells (q b k m c : Nat) (t : Tx) (w : World) (hx : Hid (Calls Try.prog 72 #[ptr q, .int .i64 ((k : Int) + 1)] w (GetP t w))) (ht : t.state = 1) (hk : k < m) (hm : m ≤ 200)
    (hq : ∀ w1 : World, Below w.heap.size w w1 → w1.cell? ⟨q, 0, none⟩ = some (.slice (some ⟨b, 0, none⟩) m c) ∧ w1.cell? ⟨b, k * 4, none⟩ = some (.int .i64 t.state) ∧ w1.frozen? ⟨b, k * 4, none⟩ = false) :
    Calls Try.prog 71 #[ptr q, .int .i64 ((k : Int) + 1)] w fun e w' => e = .returned (.int .i64 0) ∧
      ∃ w1, Below w.heap.size w w1 ∧ w' = w1.setCell ⟨b, k * 4, none⟩ (.int .i64 3) := by
  have hf := rfield_state
  obtain ⟨ts, tc, tn, tr⟩ := t
  dsimp only at ht
  subst ht
  have Hq := Lib.hid hq
  clear hq
  have e1 : ((k : Int) + 1) - 1 = k := by omega
  go_enter Try.func71, Try.ntmps71
  go_wp2_with fail
  refine hx.out.mono ?_
  rintro e w1 ⟨rfl, b1⟩
  obtain ⟨g0, g1, g2⟩ := Hq.out w1 b1
  go_wp2_with fail
  go_ret
  exact ⟨rfl, w1, b1, rfl⟩

theorem RefAt.blk {w : World} {q b c n : Nat} {xs : List Value} (h2 : w.ownsRow (q + 1) 113 4 (.slice (some ⟨b, 0, none⟩) n c) n xs) : b < w.heap.size := (h2.lt b rfl).2

theorem ref_commit_yes (q : Nat) (x : Int) (S : LogS) (w : World) (h : RefAt w q S) (hl : S.l.length ≤ 200) (c0 : 0 ≤ S.clock) (c1 : S.clock ≤ 400) (hr : S.runs x = true) :
    Calls Try.prog 70 #[ptr q, .int .i64 x] w fun e w' => e = .returned (.tuple #[.int .i64 (S.clock + 1), .int .i64 0]) ∧ RefAt w' q (S.commit x.toNat) ∧ Below q w w' := by
  obtain ⟨h1, h2, h3⟩ := runs_spec hr
  obtain ⟨k, rfl⟩ : ∃ k : Nat, x = k + 1 := ⟨(x - 1).toNat, by omega⟩
  have hk : k < S.l.length := by omega
  have hx := ref_get q ((k : Int) + 1) S w h hl
  rw [show ((k : Int) + 1).toNat = k + 1 by omega] at *
  rw [tx_in S k hk] at *
  obtain ⟨b, c, r1, r2, hqb⟩ := h.where_ k hk
  have hblk := RefAt.blk r2
  have hqs := h.lt
  have f0 : (S.l.flatMap Tx.rc)[k * 4]? = some (.int .i64 S.l[k].state) := flat_at Tx.rc 4 rc_len S.l k hk 0 (by omega)
  have f2 : (S.l.flatMap Tx.rc)[k * 4 + 2]? = some (.int .i64 S.l[k].csn) := flat_at Tx.rc 4 rc_len S.l k hk 2 (by omega)
  refine (ref_commit_cells q b k S.l.length c S.l[k] S.clock w (Lib.hid hx) h3 hk hl c0 c1 ?_).mono ?_
  · intro w1 b1
    have r1' := r1.of_block (b1.block q hqs)
    have r2' := own_kept r2 b1
    have r1s := r1'.set 1 (.int .i64 (S.clock + 1))
    have r2s := ownsRow_setCell_below r2' (a := ⟨q, 1, none⟩) (Nat.lt_succ_self q) (.int .i64 (S.clock + 1))
    exact ⟨_, rfl, r1'.cell (i := 1) (by omega), r1'.frozen 1, r1s.cell (i := 0) (by omega), r1s.cell (i := 1) (by omega), (r2s.cellAt (k * 4) (by omega)).trans f0, r2s.frozenAt _, (r2s.cellAt (k * 4 + 2) (by omega)).trans f2, r2s.frozenAt _, hqb⟩
  · rintro e w' ⟨rfl, w1, b1, rfl⟩
    have r1' := r1.of_block (b1.block q hqs)
    have r2' := own_kept r2 b1
    have r1s := r1'.set 1 (.int .i64 (S.clock + 1))
    have r2s := ownsRow_setCell_below r2' (a := ⟨q, 1, none⟩) (Nat.lt_succ_self q) (.int .i64 (S.clock + 1))
    have r2a := (r2s.stored (k * 4) (.int .i64 2)).1
    have r2b := (r2a.stored (k * 4 + 2) (.int .i64 (S.clock + 1))).1
    have r1b := (r1s.setOther (a := ⟨b, k * 4, none⟩) (by show q ≠ b; omega) (.int .i64 2)).setOther (a := ⟨b, k * 4 + 2, none⟩) (by show q ≠ b; omega) (.int .i64 (S.clock + 1))
    refine ⟨rfl, ⟨.slice (some ⟨b, 0, none⟩) S.l.length c, ?_, ?_⟩, ?_⟩
    · refine World.rowIs.congr r1b.drew fun i hi => ?_
      show (if i = 1 then _ else if i = 0 then _ else _) = _
      by_cases e : i = 0
      · rw [if_neg (by omega), if_pos e, if_pos e]
      · rw [if_pos (by omega), if_neg e]; rfl
    · rw [rc_set2 2 (S.clock + 1) S.l k hk] at r2b
      have e : S.commit (k + 1) = ⟨S.l.set k ⟨2, S.clock + 1, S.l[k].snap, S.l[k].reads⟩, S.clock + 1⟩ := by
        unfold LogS.commit LogS.put
        rw [tx_in S k hk]; rfl
      rw [e]
      simpa using r2b.drew
    · exact ((((b1.mono (Nat.le_of_lt hqs)).setCell (p := ⟨q, 1, none⟩) (Nat.le_refl q) _).setCell (p := ⟨b, k * 4, none⟩) (by show q ≤ b; omega) _).setCell (p := ⟨b, k * 4 + 2, none⟩) (by show q ≤ b; omega) _).drew

theorem ref_abort_yes (q : Nat) (x : Int) (S : LogS) (w : World) (h : RefAt w q S) (hl : S.l.length ≤ 200) (hr : S.runs x = true) :
    Calls Try.prog 71 #[ptr q, .int .i64 x] w fun e w' => e = .returned (.int .i64 0) ∧ RefAt w' q (S.abort x.toNat) ∧ Below q w w' := by
  obtain ⟨h1, h2, h3⟩ := runs_spec hr
  obtain ⟨k, rfl⟩ : ∃ k : Nat, x = k + 1 := ⟨(x - 1).toNat, by omega⟩
  have hk : k < S.l.length := by omega
  have hx := ref_get q ((k : Int) + 1) S w h hl
  rw [show ((k : Int) + 1).toNat = k + 1 by omega] at *
  rw [tx_in S k hk] at *
  obtain ⟨b, c, r1, r2, hqb⟩ := h.where_ k hk
  have hblk := RefAt.blk r2
  have hqs := h.lt
  have f0 : (S.l.flatMap Tx.rc)[k * 4]? = some (.int .i64 S.l[k].state) := flat_at Tx.rc 4 rc_len S.l k hk 0 (by omega)
  refine (ref_abort_cells q b k S.l.length c S.l[k] w (Lib.hid hx) h3 hk hl ?_).mono ?_
  · intro w1 b1
    have r1' := r1.of_block (b1.block q hqs)
    have r2' := own_kept r2 b1
    exact ⟨r1'.cell (i := 0) (by omega), (r2'.cellAt (k * 4) (by omega)).trans f0, r2'.frozenAt _⟩
  · rintro e w' ⟨rfl, w1, b1, rfl⟩
    have r1' := r1.of_block (b1.block q hqs)
    have r2' := own_kept r2 b1
    have r2b := (r2'.stored (k * 4) (.int .i64 3)).1
    have r1b := r1'.setOther (a := ⟨b, k * 4, none⟩) (by show q ≠ b; omega) (.int .i64 3)
    refine ⟨rfl, ⟨_, r1b, ?_⟩, ?_⟩
    · rw [rc_set1 3 S.l k hk] at r2b
      have e : S.abort (k + 1) = ⟨S.l.set k ⟨3, S.l[k].csn, S.l[k].snap, S.l[k].reads⟩, S.clock⟩ := by
        unfold LogS.abort LogS.put
        rw [tx_in S k hk]; rfl
      rw [e]
      simpa using r2b
    · exact (b1.mono (Nat.le_of_lt hqs)).setCell (p := ⟨b, k * 4, none⟩) (by show q ≤ b; omega) _
end Go.Proofs.Ytobdooojdadgpaa
