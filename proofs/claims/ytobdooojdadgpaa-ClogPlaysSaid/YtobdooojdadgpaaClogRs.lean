/- Both logs tell the same (liverylaw08.Same). -/
import Derived.Test.YtobdooojdadgpaaClogRp
namespace Go.Proofs.Ytobdooojdadgpaa
open Go.RowKit
set_option linter.unusedVariables false

set_option maxRecDepth 100000 in
set_option maxHeartbeats 4000000 in
theorem same_any (g q : Nat) (S : LogS) (w : World) (hl : LogAt w g S) (hr : RefAt w q S) (hlen : S.l.length ≤ 200) :
    Calls Try.prog 45 #[ptr g, ptr q] w fun e w' => e = .returned (.bool true) ∧ Below w.heap.size w w' := by
  have hg := hl.lt
  have hq := hr.lt
  have HC72 := Lib.hid (fun (x : Int) (W : World) (h : Below w.heap.size w W) => ref_get q x S W (hr.below h) hlen)
  have HC41 := Lib.hid (fun (x : Int) (W : World) (h : Below w.heap.size w W) => state_any g x S W (hl.below h) hlen)
  have HC48 := Lib.hid (fun (x : Int) (W : World) (h : Below w.heap.size w W) => csn_any g x S W (hl.below h) hlen)
  have HC40 := Lib.hid (fun (x : Int) (W : World) (h : Below w.heap.size w W) => snapshot_any g x S W (hl.below h) hlen)
  have HC49 := Lib.hid (fun (x : Int) (W : World) (h : Below w.heap.size w W) => reads_any g x S W (hl.below h) hlen)
  have HC27 := Lib.hid (fun (W : World) (h : Below w.heap.size w W) => running_any g S W (hl.below h) hlen)
  have HC74 := Lib.hid (fun (W : World) (h : Below w.heap.size w W) => ref_running q S W (hr.below h) hlen)
  have HC50 := Lib.hid (fun (W : World) (h : Below w.heap.size w W) => horizon_any g S W (hl.below h) hlen)
  have HC75 := Lib.hid (fun (W : World) (h : Below w.heap.size w W) => ref_horizon q S W (hr.below h) hlen)
  have HC43 := Lib.hid (fun (W : World) (h : Below w.heap.size w W) => clock_any g S W (hl.below h))
  obtain ⟨A, c, h0, h1, hn, hrd⟩ := hr.cells
  have hL := runL_len S S.l.length
  clear hn hrd hl hr
  generalize S.clock = cl at *
  generalize S.horL (S.runL S.l.length) = H at *
  generalize S.runL S.l.length = L at *
  generalize S.l.length = N at *
  go_enter Try.func45, Try.ntmps45
  go_wp2
  go_loopw [5] (fun i wr => ∃ x : Int, -1 ≤ x ∧ x ≤ N + 2 ∧ i = .int .i64 x ∧ Below w.heap.size w wr) (fun i _ => (N + 2 - intOf i).toNat)
  case atStart => exact ⟨-1, by omega, by omega, rfl, Below.refl _ _⟩
  case round =>
    obtain ⟨x, hx1, hx2, rfl, hb⟩ := hrel
    have z0 := (hb.cell (p := ⟨q, 0, none⟩) hq).trans h0
    have z1 := (hb.cell (p := ⟨q, 1, none⟩) hq).trans h1
    by_cases hlt2 : x ≤ (N : Int) + 1
    · have hd : decide (x ≤ (N : Int) + 1) = true := decide_eq_true hlt2
      have HC72 := Lib.hid (HC72.out x)
      have HC41 := Lib.hid (HC41.out x)
      have HC48 := Lib.hid (HC48.out x)
      have HC40 := Lib.hid (HC40.out x)
      have HC49 := Lib.hid (HC49.out x)
      generalize S.tx x.toNat = t at *
      obtain ⟨ts, tc, tn, tr⟩ := t
      dsimp only at *
      go_wp2_with fail
      refine (HC72.out _ hb).mono ?_
      rintro e w2 ⟨rfl, b2⟩
      have d2 := hb.trans (b2.mono hb.size)
      go_wp2_with fail
      have y0 : (w2.alloc (.cells #[.int .i64 ts, .int .i64 tn, .int .i64 tc, .bool tr] 113)).cell? ⟨w2.heap.size, 0, none⟩ = some (.int .i64 ts) := by simp
      have y1 : (w2.alloc (.cells #[.int .i64 ts, .int .i64 tn, .int .i64 tc, .bool tr] 113)).cell? ⟨w2.heap.size, 1, none⟩ = some (.int .i64 tn) := by simp
      have y2 : (w2.alloc (.cells #[.int .i64 ts, .int .i64 tn, .int .i64 tc, .bool tr] 113)).cell? ⟨w2.heap.size, 2, none⟩ = some (.int .i64 tc) := by simp
      have y3 : (w2.alloc (.cells #[.int .i64 ts, .int .i64 tn, .int .i64 tc, .bool tr] 113)).cell? ⟨w2.heap.size, 3, none⟩ = some (.bool tr) := by simp
      refine wp_region_held_drew (S := (fun w' => Below w.heap.size w w' ∧ w'.cell? ⟨w2.heap.size, 0, none⟩ = some (.int .i64 ts) ∧ w'.cell? ⟨w2.heap.size, 1, none⟩ = some (.int .i64 tn) ∧ w'.cell? ⟨w2.heap.size, 2, none⟩ = some (.int .i64 tc) ∧ w'.cell? ⟨w2.heap.size, 3, none⟩ = some (.bool tr))) (by kernel_rfl) (⟨(d2.alloc d2.size _).drew, y0, y1, y2, y3⟩) (fun hHeld => ?_)
      (refine wpAnyH_take (i := 0) (oi := { dst := some 20, op := Go.Op.move (Go.Operand.tmp 0), type := 31, pos := _, after := _, guard := none }) (v := ?_) rfl (by kernel_rfl) (by kernel_rfl) (by kernel_rfl) (fun _ _ _ h => h) (Or.inl ⟨by rfl, ?_⟩) (by assumption) ?_; rotate_left; (intro w hSw; (try dsimp only at hSw); go_simp; try with_reducible rfl); try simp only [Act.put, List.setIfInBounds_toArray, List.set_cons_zero, List.set_cons_succ])
      (refine wpAnyH_take (i := 1) (oi := { dst := some 21, op := Go.Op.move (Go.Operand.tmp 5), type := 3, pos := _, after := _, guard := none }) (v := ?_) rfl (by kernel_rfl) (by kernel_rfl) (by kernel_rfl) (fun _ _ _ h => h) (Or.inl ⟨by rfl, ?_⟩) (by assumption) ?_; rotate_left; (intro w hSw; (try dsimp only at hSw); go_simp; try with_reducible rfl); try simp only [Act.put, List.setIfInBounds_toArray, List.set_cons_zero, List.set_cons_succ])
      (refine wpAnyH_take (i := 3) (oi := { dst := some 23, op := Go.Op.fieldAddr 113 (Go.Operand.tmp 6) 0, type := 0, pos := _, after := _, guard := none }) (v := ?_) rfl (by kernel_rfl) (by kernel_rfl) (by kernel_rfl) (fun _ _ _ h => h) (Or.inl ⟨by rfl, ?_⟩) (by assumption) ?_; rotate_left; (intro w hSw; (try dsimp only at hSw); go_simp; try with_reducible rfl); try simp only [Act.put, List.setIfInBounds_toArray, List.set_cons_zero, List.set_cons_succ])
      (refine wpAnyH_take (i := 4) (oi := { dst := some 24, op := Go.Op.load 3 (Go.Operand.tmp 23), type := 3, pos := _, after := _, guard := none }) (v := ?_) rfl (by kernel_rfl) (by kernel_rfl) (by kernel_rfl) (fun _ _ _ h => h) (Or.inl ⟨by rfl, ?_⟩) (by assumption) ?_; rotate_left; (intro w hSw; (try dsimp only at hSw); go_simp; try with_reducible rfl); try simp only [Act.put, List.setIfInBounds_toArray, List.set_cons_zero, List.set_cons_succ])
      refine wpAnyH_ready (rs := [2]) (by kernel_rfl) (by simp) ?_
      refine AllReadyH.cons (o := { dst := some 22, op := Go.Op.call { callee := Go.Callee.value (Go.Operand.func 41), args := #[Go.Operand.tmp 20, Go.Operand.tmp 21], argTypes := #[31, 3] }, type := 3, pos := _, after := _, guard := none }) rfl (fun K hK => ?_) AllReadyH.nil
      go_simp
      (refine (HC41.out _ (And.left hHeld)).mono ?_; rintro e w41 ⟨rfl, b41⟩)
      go_wp2_with fail
      refine hK.out _ _ ?_ (fun hHeld2 => ?_)
      · (go_split_ands; exact ⟨Below.trans (by assumption) (b41.mono (Below.size (by assumption))), kc b41 (by assumption), kc b41 (by assumption), kc b41 (by assumption), kc b41 (by assumption)⟩)
      clear hK K hHeld
      have hHeld := hHeld2
      clear hHeld2
      try simp only [Act.put, List.setIfInBounds_toArray, List.set_cons_zero, List.set_cons_succ]
      (refine wpAnyH_take (i := 5) (oi := { dst := some 25, op := Go.Op.binOp Go.BinOp.neq 3 (Go.Operand.tmp 22) (Go.Operand.tmp 24) 3, type := 4, pos := _, after := _, guard := none }) (v := ?_) rfl (by kernel_rfl) (by kernel_rfl) (by kernel_rfl) (fun _ _ _ h => h) (Or.inl ⟨by rfl, ?_⟩) (by assumption) ?_; rotate_left; (intro w hSw; (try dsimp only at hSw); go_simp; try with_reducible rfl); try simp only [Act.put, List.setIfInBounds_toArray, List.set_cons_zero, List.set_cons_succ])
      (refine wpAnyH_take (i := 6) (oi := { dst := some 26, op := Go.Op.move (Go.Operand.tmp 25), type := 4, pos := _, after := _, guard := none }) (v := ?_) rfl (by kernel_rfl) (by kernel_rfl) (by kernel_rfl) (fun _ _ _ h => h) (Or.inl ⟨by rfl, ?_⟩) (by assumption) ?_; rotate_left; (intro w hSw; (try dsimp only at hSw); go_simp; try with_reducible rfl); try simp only [Act.put, List.setIfInBounds_toArray, List.set_cons_zero, List.set_cons_succ])
      (refine wpAnyH_take (i := 7) (oi := { dst := some 27, op := Go.Op.move (Go.Operand.tmp 0), type := 31, pos := _, after := _, guard := some (6, false) }) (v := ?_) rfl (by kernel_rfl) (by kernel_rfl) (by kernel_rfl) (fun _ _ _ h => h) (Or.inl ⟨by rfl, ?_⟩) (by assumption) ?_; rotate_left; (intro w hSw; (try dsimp only at hSw); go_simp; try with_reducible rfl); try simp only [Act.put, List.setIfInBounds_toArray, List.set_cons_zero, List.set_cons_succ])
      (refine wpAnyH_take (i := 8) (oi := { dst := some 28, op := Go.Op.move (Go.Operand.tmp 5), type := 3, pos := _, after := _, guard := some (6, false) }) (v := ?_) rfl (by kernel_rfl) (by kernel_rfl) (by kernel_rfl) (fun _ _ _ h => h) (Or.inl ⟨by rfl, ?_⟩) (by assumption) ?_; rotate_left; (intro w hSw; (try dsimp only at hSw); go_simp; try with_reducible rfl); try simp only [Act.put, List.setIfInBounds_toArray, List.set_cons_zero, List.set_cons_succ])
      (refine wpAnyH_take (i := 10) (oi := { dst := some 30, op := Go.Op.fieldAddr 113 (Go.Operand.tmp 6) 2, type := 0, pos := _, after := _, guard := some (6, false) }) (v := ?_) rfl (by kernel_rfl) (by kernel_rfl) (by kernel_rfl) (fun _ _ _ h => h) (Or.inl ⟨by rfl, ?_⟩) (by assumption) ?_; rotate_left; (intro w hSw; (try dsimp only at hSw); go_simp; try with_reducible rfl); try simp only [Act.put, List.setIfInBounds_toArray, List.set_cons_zero, List.set_cons_succ])
      (refine wpAnyH_take (i := 11) (oi := { dst := some 31, op := Go.Op.load 3 (Go.Operand.tmp 30), type := 3, pos := _, after := _, guard := some (6, false) }) (v := ?_) rfl (by kernel_rfl) (by kernel_rfl) (by kernel_rfl) (fun _ _ _ h => h) (Or.inl ⟨by rfl, ?_⟩) (by assumption) ?_; rotate_left; (intro w hSw; (try dsimp only at hSw); go_simp; try with_reducible rfl); try simp only [Act.put, List.setIfInBounds_toArray, List.set_cons_zero, List.set_cons_succ])
      refine wpAnyH_ready (rs := [9]) (by kernel_rfl) (by simp) ?_
      refine AllReadyH.cons (o := { dst := some 29, op := Go.Op.call { callee := Go.Callee.value (Go.Operand.func 48), args := #[Go.Operand.tmp 27, Go.Operand.tmp 28], argTypes := #[31, 3] }, type := 3, pos := _, after := _, guard := some (6, false) }) rfl (fun K hK => ?_) AllReadyH.nil
      go_simp
      (refine (HC48.out _ (And.left hHeld)).mono ?_; rintro e w48 ⟨rfl, b48⟩)
      go_wp2_with fail
      refine hK.out _ _ ?_ (fun hHeld2 => ?_)
      · (go_split_ands; exact ⟨Below.trans (by assumption) (b48.mono (Below.size (by assumption))), kc b48 (by assumption), kc b48 (by assumption), kc b48 (by assumption), kc b48 (by assumption)⟩)
      clear hK K hHeld
      have hHeld := hHeld2
      clear hHeld2
      try simp only [Act.put, List.setIfInBounds_toArray, List.set_cons_zero, List.set_cons_succ]
      (refine wpAnyH_take (i := 12) (oi := { dst := some 32, op := Go.Op.binOp Go.BinOp.neq 3 (Go.Operand.tmp 29) (Go.Operand.tmp 31) 3, type := 4, pos := _, after := _, guard := some (6, false) }) (v := ?_) rfl (by kernel_rfl) (by kernel_rfl) (by kernel_rfl) (fun _ _ _ h => h) (Or.inl ⟨by rfl, ?_⟩) (by assumption) ?_; rotate_left; (intro w hSw; (try dsimp only at hSw); go_simp; try with_reducible rfl); try simp only [Act.put, List.setIfInBounds_toArray, List.set_cons_zero, List.set_cons_succ])
      (refine wpAnyH_take (i := 13) (oi := { dst := some 33, op := Go.Op.pick (Go.Operand.tmp 26) (Go.Operand.const (Go.Value.bool true)) (Go.Operand.tmp 32), type := 4, pos := _, after := _, guard := none }) (v := ?_) rfl (by kernel_rfl) (by kernel_rfl) (by kernel_rfl) (fun _ _ _ h => h) (Or.inl ⟨by rfl, ?_⟩) (by assumption) ?_; rotate_left; (intro w hSw; (try dsimp only at hSw); go_simp; try with_reducible rfl); try simp only [Act.put, List.setIfInBounds_toArray, List.set_cons_zero, List.set_cons_succ])
      (refine wpAnyH_take (i := 14) (oi := { dst := some 34, op := Go.Op.move (Go.Operand.tmp 33), type := 4, pos := _, after := _, guard := none }) (v := ?_) rfl (by kernel_rfl) (by kernel_rfl) (by kernel_rfl) (fun _ _ _ h => h) (Or.inl ⟨by rfl, ?_⟩) (by assumption) ?_; rotate_left; (intro w hSw; (try dsimp only at hSw); go_simp; try with_reducible rfl); try simp only [Act.put, List.setIfInBounds_toArray, List.set_cons_zero, List.set_cons_succ])
      (refine wpAnyH_take (i := 15) (oi := { dst := some 35, op := Go.Op.move (Go.Operand.tmp 0), type := 31, pos := _, after := _, guard := some (14, false) }) (v := ?_) rfl (by kernel_rfl) (by kernel_rfl) (by kernel_rfl) (fun _ _ _ h => h) (Or.inl ⟨by rfl, ?_⟩) (by assumption) ?_; rotate_left; (intro w hSw; (try dsimp only at hSw); go_simp; try with_reducible rfl); try simp only [Act.put, List.setIfInBounds_toArray, List.set_cons_zero, List.set_cons_succ])
      (refine wpAnyH_take (i := 16) (oi := { dst := some 36, op := Go.Op.move (Go.Operand.tmp 5), type := 3, pos := _, after := _, guard := some (14, false) }) (v := ?_) rfl (by kernel_rfl) (by kernel_rfl) (by kernel_rfl) (fun _ _ _ h => h) (Or.inl ⟨by rfl, ?_⟩) (by assumption) ?_; rotate_left; (intro w hSw; (try dsimp only at hSw); go_simp; try with_reducible rfl); try simp only [Act.put, List.setIfInBounds_toArray, List.set_cons_zero, List.set_cons_succ])
      (refine wpAnyH_take (i := 18) (oi := { dst := some 38, op := Go.Op.fieldAddr 113 (Go.Operand.tmp 6) 1, type := 0, pos := _, after := _, guard := some (14, false) }) (v := ?_) rfl (by kernel_rfl) (by kernel_rfl) (by kernel_rfl) (fun _ _ _ h => h) (Or.inl ⟨by rfl, ?_⟩) (by assumption) ?_; rotate_left; (intro w hSw; (try dsimp only at hSw); go_simp; try with_reducible rfl); try simp only [Act.put, List.setIfInBounds_toArray, List.set_cons_zero, List.set_cons_succ])
      (refine wpAnyH_take (i := 19) (oi := { dst := some 39, op := Go.Op.load 3 (Go.Operand.tmp 38), type := 3, pos := _, after := _, guard := some (14, false) }) (v := ?_) rfl (by kernel_rfl) (by kernel_rfl) (by kernel_rfl) (fun _ _ _ h => h) (Or.inl ⟨by rfl, ?_⟩) (by assumption) ?_; rotate_left; (intro w hSw; (try dsimp only at hSw); go_simp; try with_reducible rfl); try simp only [Act.put, List.setIfInBounds_toArray, List.set_cons_zero, List.set_cons_succ])
      refine wpAnyH_ready (rs := [17]) (by kernel_rfl) (by simp) ?_
      refine AllReadyH.cons (o := { dst := some 37, op := Go.Op.call { callee := Go.Callee.value (Go.Operand.func 40), args := #[Go.Operand.tmp 35, Go.Operand.tmp 36], argTypes := #[31, 3] }, type := 3, pos := _, after := _, guard := some (14, false) }) rfl (fun K hK => ?_) AllReadyH.nil
      go_simp
      (refine (HC40.out _ (And.left hHeld)).mono ?_; rintro e w40 ⟨rfl, b40⟩)
      go_wp2_with fail
      refine hK.out _ _ ?_ (fun hHeld2 => ?_)
      · (go_split_ands; exact ⟨Below.trans (by assumption) (b40.mono (Below.size (by assumption))), kc b40 (by assumption), kc b40 (by assumption), kc b40 (by assumption), kc b40 (by assumption)⟩)
      clear hK K hHeld
      have hHeld := hHeld2
      clear hHeld2
      try simp only [Act.put, List.setIfInBounds_toArray, List.set_cons_zero, List.set_cons_succ]
      (refine wpAnyH_take (i := 20) (oi := { dst := some 40, op := Go.Op.binOp Go.BinOp.neq 3 (Go.Operand.tmp 37) (Go.Operand.tmp 39) 3, type := 4, pos := _, after := _, guard := some (14, false) }) (v := ?_) rfl (by kernel_rfl) (by kernel_rfl) (by kernel_rfl) (fun _ _ _ h => h) (Or.inl ⟨by rfl, ?_⟩) (by assumption) ?_; rotate_left; (intro w hSw; (try dsimp only at hSw); go_simp; try with_reducible rfl); try simp only [Act.put, List.setIfInBounds_toArray, List.set_cons_zero, List.set_cons_succ])
      (refine wpAnyH_take (i := 21) (oi := { dst := some 41, op := Go.Op.pick (Go.Operand.tmp 34) (Go.Operand.const (Go.Value.bool true)) (Go.Operand.tmp 40), type := 4, pos := _, after := _, guard := none }) (v := ?_) rfl (by kernel_rfl) (by kernel_rfl) (by kernel_rfl) (fun _ _ _ h => h) (Or.inl ⟨by rfl, ?_⟩) (by assumption) ?_; rotate_left; (intro w hSw; (try dsimp only at hSw); go_simp; try with_reducible rfl); try simp only [Act.put, List.setIfInBounds_toArray, List.set_cons_zero, List.set_cons_succ])
      (refine wpAnyH_take (i := 22) (oi := { dst := some 42, op := Go.Op.move (Go.Operand.tmp 41), type := 4, pos := _, after := _, guard := none }) (v := ?_) rfl (by kernel_rfl) (by kernel_rfl) (by kernel_rfl) (fun _ _ _ h => h) (Or.inl ⟨by rfl, ?_⟩) (by assumption) ?_; rotate_left; (intro w hSw; (try dsimp only at hSw); go_simp; try with_reducible rfl); try simp only [Act.put, List.setIfInBounds_toArray, List.set_cons_zero, List.set_cons_succ])
      (refine wpAnyH_take (i := 23) (oi := { dst := some 43, op := Go.Op.move (Go.Operand.tmp 0), type := 31, pos := _, after := _, guard := some (22, false) }) (v := ?_) rfl (by kernel_rfl) (by kernel_rfl) (by kernel_rfl) (fun _ _ _ h => h) (Or.inl ⟨by rfl, ?_⟩) (by assumption) ?_; rotate_left; (intro w hSw; (try dsimp only at hSw); go_simp; try with_reducible rfl); try simp only [Act.put, List.setIfInBounds_toArray, List.set_cons_zero, List.set_cons_succ])
      (refine wpAnyH_take (i := 24) (oi := { dst := some 44, op := Go.Op.move (Go.Operand.tmp 5), type := 3, pos := _, after := _, guard := some (22, false) }) (v := ?_) rfl (by kernel_rfl) (by kernel_rfl) (by kernel_rfl) (fun _ _ _ h => h) (Or.inl ⟨by rfl, ?_⟩) (by assumption) ?_; rotate_left; (intro w hSw; (try dsimp only at hSw); go_simp; try with_reducible rfl); try simp only [Act.put, List.setIfInBounds_toArray, List.set_cons_zero, List.set_cons_succ])
      (refine wpAnyH_take (i := 26) (oi := { dst := some 46, op := Go.Op.fieldAddr 113 (Go.Operand.tmp 6) 3, type := 0, pos := _, after := _, guard := some (22, false) }) (v := ?_) rfl (by kernel_rfl) (by kernel_rfl) (by kernel_rfl) (fun _ _ _ h => h) (Or.inl ⟨by rfl, ?_⟩) (by assumption) ?_; rotate_left; (intro w hSw; (try dsimp only at hSw); go_simp; try with_reducible rfl); try simp only [Act.put, List.setIfInBounds_toArray, List.set_cons_zero, List.set_cons_succ])
      (refine wpAnyH_take (i := 27) (oi := { dst := some 47, op := Go.Op.load 4 (Go.Operand.tmp 46), type := 4, pos := _, after := _, guard := some (22, false) }) (v := ?_) rfl (by kernel_rfl) (by kernel_rfl) (by kernel_rfl) (fun _ _ _ h => h) (Or.inl ⟨by rfl, ?_⟩) (by assumption) ?_; rotate_left; (intro w hSw; (try dsimp only at hSw); go_simp; try with_reducible rfl); try simp only [Act.put, List.setIfInBounds_toArray, List.set_cons_zero, List.set_cons_succ])
      refine wpAnyH_ready (rs := [25]) (by kernel_rfl) (by simp) ?_
      refine AllReadyH.cons (o := { dst := some 45, op := Go.Op.call { callee := Go.Callee.value (Go.Operand.func 49), args := #[Go.Operand.tmp 43, Go.Operand.tmp 44], argTypes := #[31, 3] }, type := 4, pos := _, after := _, guard := some (22, false) }) rfl (fun K hK => ?_) AllReadyH.nil
      go_simp
      (refine (HC49.out _ (And.left hHeld)).mono ?_; rintro e w49 ⟨rfl, b49⟩)
      go_wp2_with fail
      refine hK.out _ _ ?_ (fun hHeld2 => ?_)
      · (go_split_ands; exact ⟨Below.trans (by assumption) (b49.mono (Below.size (by assumption))), kc b49 (by assumption), kc b49 (by assumption), kc b49 (by assumption), kc b49 (by assumption)⟩)
      clear hK K hHeld
      have hHeld := hHeld2
      clear hHeld2
      try simp only [Act.put, List.setIfInBounds_toArray, List.set_cons_zero, List.set_cons_succ]
      (refine wpAnyH_take (i := 28) (oi := { dst := some 48, op := Go.Op.binOp Go.BinOp.neq 4 (Go.Operand.tmp 45) (Go.Operand.tmp 47) 4, type := 4, pos := _, after := _, guard := some (22, false) }) (v := ?_) rfl (by kernel_rfl) (by kernel_rfl) (by kernel_rfl) (fun _ _ _ h => h) (Or.inl ⟨by rfl, ?_⟩) (by assumption) ?_; rotate_left; (intro w hSw; (try dsimp only at hSw); go_simp; try with_reducible rfl); try simp only [Act.put, List.setIfInBounds_toArray, List.set_cons_zero, List.set_cons_succ])
      (refine wpAnyH_take (i := 29) (oi := { dst := some 49, op := Go.Op.pick (Go.Operand.tmp 42) (Go.Operand.const (Go.Value.bool true)) (Go.Operand.tmp 48), type := 4, pos := _, after := _, guard := none }) (v := ?_) rfl (by kernel_rfl) (by kernel_rfl) (by kernel_rfl) (fun _ _ _ h => h) (Or.inl ⟨by rfl, ?_⟩) (by assumption) ?_; rotate_left; (intro w hSw; (try dsimp only at hSw); go_simp; try with_reducible rfl); try simp only [Act.put, List.setIfInBounds_toArray, List.set_cons_zero, List.set_cons_succ])
      refine wpAnyH_done (by kernel_rfl) ?_ _
      have hbE := And.left hHeld
      clear hHeld
      go_wp2_with fail
      go_roundw
      case rel => exact ⟨x + 1, by omega, by omega, rfl, hbE⟩
      case measure => simp [intOf]; omega
    · have hd : decide (x ≤ (N : Int) + 1) = false := decide_eq_false hlt2
      go_wp2_with fail
      refine wp_region_held_drew (S := (fun w' => Below w.heap.size w w' ∧ w'.cell? ⟨q, 1, none⟩ = some (.int .i64 cl))) (by kernel_rfl) (⟨hb.drew, z1⟩) (fun hHeld => ?_)
      (refine wpAnyH_take (i := 0) (oi := { dst := some 50, op := Go.Op.move (Go.Operand.tmp 0), type := 31, pos := _, after := _, guard := none }) (v := ?_) rfl (by kernel_rfl) (by kernel_rfl) (by kernel_rfl) (fun _ _ _ h => h) (Or.inl ⟨by rfl, ?_⟩) (by assumption) ?_; rotate_left; (intro w hSw; (try dsimp only at hSw); go_simp; try with_reducible rfl); try simp only [Act.put, List.setIfInBounds_toArray, List.set_cons_zero, List.set_cons_succ])
      (refine wpAnyH_take (i := 2) (oi := { dst := some 52, op := Go.Op.move (Go.Operand.tmp 1), type := 70, pos := _, after := _, guard := none }) (v := ?_) rfl (by kernel_rfl) (by kernel_rfl) (by kernel_rfl) (fun _ _ _ h => h) (Or.inl ⟨by rfl, ?_⟩) (by assumption) ?_; rotate_left; (intro w hSw; (try dsimp only at hSw); go_simp; try with_reducible rfl); try simp only [Act.put, List.setIfInBounds_toArray, List.set_cons_zero, List.set_cons_succ])
      refine wpAnyH_ready (rs := [1]) (by kernel_rfl) (by simp) ?_
      refine AllReadyH.cons (o := { dst := some 51, op := Go.Op.call { callee := Go.Callee.value (Go.Operand.func 27), args := #[Go.Operand.tmp 50], argTypes := #[31] }, type := 36, pos := _, after := _, guard := none }) rfl (fun K hK => ?_) AllReadyH.nil
      go_simp
      (refine (HC27.out _ (And.left hHeld)).mono ?_; rintro e w27 ⟨A1, c1, rfl, hrd1, b27⟩; have HRD1 := Lib.hid hrd1; clear hrd1)
      go_wp2_with fail
      refine hK.out _ _ ?_ (fun hHeld2 => ?_)
      · (go_split_ands; exact ⟨Below.trans (by assumption) (b27.mono (Below.size (by assumption))), kc b27 (by assumption)⟩)
      clear hK K hHeld
      have hHeld := hHeld2
      clear hHeld2
      try simp only [Act.put, List.setIfInBounds_toArray, List.set_cons_zero, List.set_cons_succ]
      refine wpAnyH_ready (rs := [3]) (by kernel_rfl) (by simp) ?_
      refine AllReadyH.cons (o := { dst := some 53, op := Go.Op.call { callee := Go.Callee.value (Go.Operand.func 74), args := #[Go.Operand.tmp 52], argTypes := #[70] }, type := 36, pos := _, after := _, guard := none }) rfl (fun K hK => ?_) AllReadyH.nil
      go_simp
      (refine (HC74.out _ (And.left hHeld)).mono ?_; rintro e w74 ⟨A2, c2, rfl, hrd2, b74⟩; have HRD2 := Lib.hid hrd2; have HRD3 := Lib.hid (HRD1.out.keep b74 (Nat.le_refl _)); clear hrd2 HRD1)
      go_wp2_with fail
      refine hK.out _ _ ?_ (fun hHeld2 => ?_)
      · (go_split_ands; exact ⟨Below.trans (by assumption) (b74.mono (Below.size (by assumption))), kc b74 (by assumption)⟩)
      clear hK K hHeld
      have hHeld := hHeld2
      clear hHeld2
      try simp only [Act.put, List.setIfInBounds_toArray, List.set_cons_zero, List.set_cons_succ]
      refine wpAnyH_ready (rs := [4]) (by kernel_rfl) (by simp) ?_
      refine AllReadyH.cons (o := { dst := some 54, op := Go.Op.call { callee := Go.Callee.value (Go.Operand.func 73), args := #[Go.Operand.tmp 51, Go.Operand.tmp 53], argTypes := #[36, 36] }, type := 4, pos := _, after := _, guard := none }) rfl (fun K hK => ?_) AllReadyH.nil
      go_simp
      (refine (ints_same L A1 A2 c1 c2 _ HRD3.out HRD2.out (by omega)).mono ?_; rintro e w73 ⟨rfl, b73⟩)
      go_wp2_with fail
      refine hK.out _ _ ?_ (fun hHeld2 => ?_)
      · (go_split_ands; exact ⟨Below.trans (by assumption) (b73.mono (Below.size (by assumption))), kc b73 (by assumption)⟩)
      clear hK K hHeld
      have hHeld := hHeld2
      clear hHeld2
      try simp only [Act.put, List.setIfInBounds_toArray, List.set_cons_zero, List.set_cons_succ]
      (refine wpAnyH_take (i := 5) (oi := { dst := some 55, op := Go.Op.move (Go.Operand.tmp 54), type := 4, pos := _, after := _, guard := none }) (v := ?_) rfl (by kernel_rfl) (by kernel_rfl) (by kernel_rfl) (fun _ _ _ h => h) (Or.inl ⟨by rfl, ?_⟩) (by assumption) ?_; rotate_left; (intro w hSw; (try dsimp only at hSw); go_simp; try with_reducible rfl); try simp only [Act.put, List.setIfInBounds_toArray, List.set_cons_zero, List.set_cons_succ])
      (refine wpAnyH_take (i := 6) (oi := { dst := some 56, op := Go.Op.move (Go.Operand.tmp 0), type := 31, pos := _, after := _, guard := some (5, true) }) (v := ?_) rfl (by kernel_rfl) (by kernel_rfl) (by kernel_rfl) (fun _ _ _ h => h) (Or.inl ⟨by rfl, ?_⟩) (by assumption) ?_; rotate_left; (intro w hSw; (try dsimp only at hSw); go_simp; try with_reducible rfl); try simp only [Act.put, List.setIfInBounds_toArray, List.set_cons_zero, List.set_cons_succ])
      (refine wpAnyH_take (i := 8) (oi := { dst := some 58, op := Go.Op.move (Go.Operand.tmp 1), type := 70, pos := _, after := _, guard := some (5, true) }) (v := ?_) rfl (by kernel_rfl) (by kernel_rfl) (by kernel_rfl) (fun _ _ _ h => h) (Or.inl ⟨by rfl, ?_⟩) (by assumption) ?_; rotate_left; (intro w hSw; (try dsimp only at hSw); go_simp; try with_reducible rfl); try simp only [Act.put, List.setIfInBounds_toArray, List.set_cons_zero, List.set_cons_succ])
      refine wpAnyH_ready (rs := [7]) (by kernel_rfl) (by simp) ?_
      refine AllReadyH.cons (o := { dst := some 57, op := Go.Op.call { callee := Go.Callee.value (Go.Operand.func 50), args := #[Go.Operand.tmp 56], argTypes := #[31] }, type := 3, pos := _, after := _, guard := some (5, true) }) rfl (fun K hK => ?_) AllReadyH.nil
      go_simp
      (refine (HC50.out _ (And.left hHeld)).mono ?_; rintro e w50 ⟨rfl, b50⟩)
      go_wp2_with fail
      refine hK.out _ _ ?_ (fun hHeld2 => ?_)
      · (go_split_ands; exact ⟨Below.trans (by assumption) (b50.mono (Below.size (by assumption))), kc b50 (by assumption)⟩)
      clear hK K hHeld
      have hHeld := hHeld2
      clear hHeld2
      try simp only [Act.put, List.setIfInBounds_toArray, List.set_cons_zero, List.set_cons_succ]
      refine wpAnyH_ready (rs := [9]) (by kernel_rfl) (by simp) ?_
      refine AllReadyH.cons (o := { dst := some 59, op := Go.Op.call { callee := Go.Callee.value (Go.Operand.func 75), args := #[Go.Operand.tmp 58], argTypes := #[70] }, type := 3, pos := _, after := _, guard := some (5, true) }) rfl (fun K hK => ?_) AllReadyH.nil
      go_simp
      (refine (HC75.out _ (And.left hHeld)).mono ?_; rintro e w75 ⟨rfl, rfl⟩)
      go_wp2_with fail
      refine hK.out _ _ ?_ (fun hHeld2 => ?_)
      · (exact hHeld)
      clear hK K hHeld
      have hHeld := hHeld2
      clear hHeld2
      try simp only [Act.put, List.setIfInBounds_toArray, List.set_cons_zero, List.set_cons_succ]
      (refine wpAnyH_take (i := 10) (oi := { dst := some 60, op := Go.Op.binOp Go.BinOp.eql 3 (Go.Operand.tmp 57) (Go.Operand.tmp 59) 3, type := 4, pos := _, after := _, guard := some (5, true) }) (v := ?_) rfl (by kernel_rfl) (by kernel_rfl) (by kernel_rfl) (fun _ _ _ h => h) (Or.inl ⟨by rfl, ?_⟩) (by assumption) ?_; rotate_left; (intro w hSw; (try dsimp only at hSw); go_simp; try with_reducible rfl); try simp only [Act.put, List.setIfInBounds_toArray, List.set_cons_zero, List.set_cons_succ])
      (refine wpAnyH_take (i := 11) (oi := { dst := some 61, op := Go.Op.pick (Go.Operand.tmp 55) (Go.Operand.tmp 60) (Go.Operand.const (Go.Value.bool false)), type := 4, pos := _, after := _, guard := none }) (v := ?_) rfl (by kernel_rfl) (by kernel_rfl) (by kernel_rfl) (fun _ _ _ h => h) (Or.inl ⟨by rfl, ?_⟩) (by assumption) ?_; rotate_left; (intro w hSw; (try dsimp only at hSw); go_simp; try with_reducible rfl); try simp only [Act.put, List.setIfInBounds_toArray, List.set_cons_zero, List.set_cons_succ])
      (refine wpAnyH_take (i := 12) (oi := { dst := some 62, op := Go.Op.move (Go.Operand.tmp 61), type := 4, pos := _, after := _, guard := none }) (v := ?_) rfl (by kernel_rfl) (by kernel_rfl) (by kernel_rfl) (fun _ _ _ h => h) (Or.inl ⟨by rfl, ?_⟩) (by assumption) ?_; rotate_left; (intro w hSw; (try dsimp only at hSw); go_simp; try with_reducible rfl); try simp only [Act.put, List.setIfInBounds_toArray, List.set_cons_zero, List.set_cons_succ])
      (refine wpAnyH_take (i := 13) (oi := { dst := some 63, op := Go.Op.move (Go.Operand.tmp 0), type := 31, pos := _, after := _, guard := some (12, true) }) (v := ?_) rfl (by kernel_rfl) (by kernel_rfl) (by kernel_rfl) (fun _ _ _ h => h) (Or.inl ⟨by rfl, ?_⟩) (by assumption) ?_; rotate_left; (intro w hSw; (try dsimp only at hSw); go_simp; try with_reducible rfl); try simp only [Act.put, List.setIfInBounds_toArray, List.set_cons_zero, List.set_cons_succ])
      (refine wpAnyH_take (i := 15) (oi := { dst := some 65, op := Go.Op.move (Go.Operand.tmp 1), type := 70, pos := _, after := _, guard := some (12, true) }) (v := ?_) rfl (by kernel_rfl) (by kernel_rfl) (by kernel_rfl) (fun _ _ _ h => h) (Or.inl ⟨by rfl, ?_⟩) (by assumption) ?_; rotate_left; (intro w hSw; (try dsimp only at hSw); go_simp; try with_reducible rfl); try simp only [Act.put, List.setIfInBounds_toArray, List.set_cons_zero, List.set_cons_succ])
      (refine wpAnyH_take (i := 16) (oi := { dst := some 66, op := Go.Op.nilCheck (Go.Operand.tmp 65), type := 0, pos := _, after := _, guard := some (12, true) }) (v := ?_) rfl (by kernel_rfl) (by kernel_rfl) (by kernel_rfl) (fun _ _ _ h => h) (Or.inl ⟨by rfl, ?_⟩) (by assumption) ?_; rotate_left; (intro w hSw; (try dsimp only at hSw); go_simp; try with_reducible rfl); try simp only [Act.put, List.setIfInBounds_toArray, List.set_cons_zero, List.set_cons_succ])
      (refine wpAnyH_take (i := 17) (oi := { dst := some 67, op := Go.Op.fieldAddr 73 (Go.Operand.tmp 66) 1, type := 0, pos := _, after := _, guard := some (12, true) }) (v := ?_) rfl (by kernel_rfl) (by kernel_rfl) (by kernel_rfl) (fun _ _ _ h => h) (Or.inl ⟨by rfl, ?_⟩) (by assumption) ?_; rotate_left; (intro w hSw; (try dsimp only at hSw); go_simp; try with_reducible rfl); try simp only [Act.put, List.setIfInBounds_toArray, List.set_cons_zero, List.set_cons_succ])
      (refine wpAnyH_take (i := 18) (oi := { dst := some 68, op := Go.Op.load 3 (Go.Operand.tmp 67), type := 3, pos := _, after := _, guard := some (12, true) }) (v := ?_) rfl (by kernel_rfl) (by kernel_rfl) (by kernel_rfl) (fun _ _ _ h => h) (Or.inl ⟨by rfl, ?_⟩) (by assumption) ?_; rotate_left; (intro w hSw; (try dsimp only at hSw); go_simp; try with_reducible rfl); try simp only [Act.put, List.setIfInBounds_toArray, List.set_cons_zero, List.set_cons_succ])
      refine wpAnyH_ready (rs := [14]) (by kernel_rfl) (by simp) ?_
      refine AllReadyH.cons (o := { dst := some 64, op := Go.Op.call { callee := Go.Callee.value (Go.Operand.func 43), args := #[Go.Operand.tmp 63], argTypes := #[31] }, type := 3, pos := _, after := _, guard := some (12, true) }) rfl (fun K hK => ?_) AllReadyH.nil
      go_simp
      (refine (HC43.out _ (And.left hHeld)).mono ?_; rintro e w43 ⟨rfl, rfl⟩)
      go_wp2_with fail
      refine hK.out _ _ ?_ (fun hHeld2 => ?_)
      · (exact hHeld)
      clear hK K hHeld
      have hHeld := hHeld2
      clear hHeld2
      try simp only [Act.put, List.setIfInBounds_toArray, List.set_cons_zero, List.set_cons_succ]
      (refine wpAnyH_take (i := 19) (oi := { dst := some 69, op := Go.Op.binOp Go.BinOp.eql 3 (Go.Operand.tmp 64) (Go.Operand.tmp 68) 3, type := 4, pos := _, after := _, guard := some (12, true) }) (v := ?_) rfl (by kernel_rfl) (by kernel_rfl) (by kernel_rfl) (fun _ _ _ h => h) (Or.inl ⟨by rfl, ?_⟩) (by assumption) ?_; rotate_left; (intro w hSw; (try dsimp only at hSw); go_simp; try with_reducible rfl); try simp only [Act.put, List.setIfInBounds_toArray, List.set_cons_zero, List.set_cons_succ])
      (refine wpAnyH_take (i := 20) (oi := { dst := some 70, op := Go.Op.pick (Go.Operand.tmp 62) (Go.Operand.tmp 69) (Go.Operand.const (Go.Value.bool false)), type := 4, pos := _, after := _, guard := none }) (v := ?_) rfl (by kernel_rfl) (by kernel_rfl) (by kernel_rfl) (fun _ _ _ h => h) (Or.inl ⟨by rfl, ?_⟩) (by assumption) ?_; rotate_left; (intro w hSw; (try dsimp only at hSw); go_simp; try with_reducible rfl); try simp only [Act.put, List.setIfInBounds_toArray, List.set_cons_zero, List.set_cons_succ])
      (refine wpAnyH_take (i := 21) (oi := { dst := some 4, op := Go.Op.assign (Go.Operand.tmp 70), type := 4, pos := _, after := _, guard := none }) (v := ?_) rfl (by kernel_rfl) (by kernel_rfl) (by kernel_rfl) (fun _ _ _ h => h) (Or.inl ⟨by rfl, ?_⟩) (by assumption) ?_; rotate_left; (intro w hSw; (try dsimp only at hSw); go_simp; try with_reducible rfl); try simp only [Act.put, List.setIfInBounds_toArray, List.set_cons_zero, List.set_cons_succ])
      refine wpAnyH_done (by kernel_rfl) ?_ _
      have hbE := And.left hHeld
      clear hHeld
      go_wp2_with fail
      go_ret
      exact ⟨rfl, hbE⟩
end Go.Proofs.Ytobdooojdadgpaa
