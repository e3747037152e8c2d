/- The law ReplyEncodes: the bytes of every reply, or that it is not good. No condition. -/
import Derived.Test.YtmgpecomgffelaaRepI
namespace Go.Proofs.Ytmgpecomgffelaa
open Go.RowKit Go.ChangeShapes Go.WideShapes Go.ChangeAt
set_option linter.unusedVariables false
set_option maxRecDepth 100000 in
theorem encs_large (c n : Int) (A : Option Addr) (q : Nat) (ls : List (List Val)) (w : World) (hr : RdRows w A ls) (h : largeRR ls = true) : Tells Try.prog 19 #[rv c n A ls.length q] w := by
  unfold Tells
  have HL := Lib.hid (large_rows A q ls _ (hr.keep ((Below.refl _ _).alloc (Nat.le_refl _) (.cells (a3 c n A ls.length q) 96))))
  rw [h] at HL
  clear hr h
  go_enter Try.func19, Try.ntmps19
  go_wp2_with fail
  refine HL.out.mono ?_
  rintro e w1 ⟨rfl, b1⟩
  go_wp2_with fail
  refine (rep_wakes _).mono ?_
  rintro e w2 ⟨rfl, b2⟩
  go_wp2_with fail
  go_ret
  exact ⟨rfl, below_trans (below_trans ((Below.refl _ _).alloc (Nat.le_refl _) _) b1) b2⟩
set_option maxRecDepth 100000 in
set_option maxHeartbeats 2000000 in
theorem encs_main (c n : Int) (A : Option Addr) (q : Nat) (ls : List (List Val)) (w : World) (hr : RdRows w A ls) (hf : ∀ l ∈ ls, ∀ v ∈ l, v.f < two64) (h : largeRR ls = false) : Tells Try.prog 19 #[rv c n A ls.length q] w := by
  unfold Tells
  have k0 : Below w.heap.size w (w.alloc (.cells (a3 c n A ls.length q) 96)) := (Below.refl _ _).alloc (Nat.le_refl _) _
  have HL := Lib.hid (large_rows A q ls _ (hr.keep k0))
  rw [h] at HL
  have hbd := largeRR_no h
  have HR0 := Lib.hid (hr.keep k0)
  have HB0 := Lib.hid (B3.new w c n A ls.length q 96)
  have HC := Lib.hid (fun w' (hw : RdRows w' A ls) => copied_any c n A q ls w' hw (by omega) (fun l hl => by have := hbd.2 l hl; omega))
  have HE : Hid (∀ A' q' w', RdRows w' A' ls → _) := Lib.hid (fun A' q' w' (hw : RdRows w' A' ls) => encr_any ⟨c, n, ls⟩ A' q' w' hw hf)
  have HF : Hid (∀ A' q' w', RdRows w' A' ls → _) := Lib.hid (fun A' q' w' (hw : RdRows w' A' ls) => rencr_any ⟨c, n, ls⟩ A' q' w' hw hf)
  have HG : Hid (∀ A' q' w', RdRows w' A' ls → _) := Lib.hid (fun A' q' w' (hw : RdRows w' A' ls) => goodr_any ⟨c, n, ls⟩ A' q' w' hw hf)
  have HH : Hid (∀ A' q' w', RdRows w' A' ls → _) := Lib.hid (fun A' q' w' (hw : RdRows w' A' ls) => rgoodr_any ⟨c, n, ls⟩ A' q' w' hw hf)
  have HK := Lib.hid (fun A' q' w' (h1 : RdRows w' A' ls) (h2 : RdRows w' A ls) => keep_same c n A' A q' q ls w' h1 h2 (by omega) (fun l hl => by have := hbd.2 l hl; omega))
  simp only at HE HF HG HH
  generalize repS ⟨c, n, ls⟩ = S at *
  generalize repE ⟨c, n, ls⟩ = E at *
  generalize goodR ⟨c, n, ls⟩ = g at *
  have e1 : (g == g) = true := beq_self_eq_true g
  have e2 : (E == E) = true := beq_self_eq_true E
  have e3 : (S.toList == S.toList) = true := beq_self_eq_true _
  clear hr hf h hbd
  go_enter Try.func19, Try.ntmps19
  go_wp2_with fail
  refine HL.out.mono ?_
  rintro e w1 ⟨rfl, b1⟩
  have k1 := k0.trans (b1.mono k0.size)
  have HR1 := Lib.hid (HR0.out.keep b1)
  have HB1 := Lib.hid (HB0.out.keep b1)
  obtain ⟨⟨c0, _⟩, ⟨c1, _⟩, ⟨c2, _⟩⟩ := HB1.out.cells
  clear b1 k0 HR0 HB0
  go_wp2_with fail
  refine (HC.out _ HR1.out).mono ?_
  rintro e w2 ⟨A2, q2, rfl, hR2, hn2, b2⟩
  have k2 := (k1.trans (b2.mono k1.size)).alloc (k1.trans (b2.mono k1.size)).size (.cells (a3 c n A2 ls.length q2) 96)
  have HX2 := Lib.hid (hR2.keep ((Below.refl _ _).alloc (Nat.le_refl _) (.cells (a3 c n A2 ls.length q2) 96)))
  have HR2 := Lib.hid ((HR1.out.keep b2).keep ((Below.refl _ _).alloc (Nat.le_refl _) (.cells (a3 c n A2 ls.length q2) 96)))
  have HB2 := Lib.hid ((HB1.out.keep b2).alloc (.cells (a3 c n A2 ls.length q2) 96))
  have HT2 := Lib.hid (B3.new w2 c n A2 ls.length q2 96)
  clear c0 c1 c2 hR2 hn2 b2 k1 HR1 HB1
  go_wp2_with fail
  refine (HE.out _ _ _ HX2.out).mono ?_
  rintro e w3 ⟨rfl, b3⟩
  have k3 := k2.trans (b3.mono k2.size)
  have HX3 := Lib.hid (HX2.out.keep b3)
  have HR3 := Lib.hid (HR2.out.keep b3)
  have HB3 := Lib.hid (HB2.out.keep b3)
  have HT3 := Lib.hid (HT2.out.keep b3)
  obtain ⟨⟨c0, _⟩, ⟨c1, _⟩, ⟨c2, _⟩⟩ := HB3.out.cells
  clear b3 k2 HX2 HR2 HB2 HT2
  go_wp2_with fail
  refine (HF.out _ _ _ HR3.out).mono ?_
  rintro e w4 ⟨rfl, b4⟩
  have k4 := k3.trans (b4.mono k3.size)
  have HX4 := Lib.hid (HX3.out.keep b4)
  have HR4 := Lib.hid (HR3.out.keep b4)
  clear c0 c1 c2
  obtain ⟨⟨c0, _⟩, ⟨c1, _⟩, ⟨c2, _⟩⟩ := (HB3.out.keep b4).cells
  obtain ⟨⟨f0, _⟩, ⟨f1, _⟩, ⟨f2, _⟩⟩ := (HT3.out.keep b4).cells
  clear b4 k3 HX3 HR3 HB3 HT3
  go_wp2_with fail
  refine wp_region_held_drew (S := (fun w' => Below w4.heap.size w4 w' ∧ w'.cell? ⟨w.heap.size, 0, none⟩ = some (.int .i64 c) ∧ w'.cell? ⟨w.heap.size, 1, none⟩ = some (.int .i64 n) ∧ w'.cell? ⟨w.heap.size, 2, none⟩ = some (.slice A ls.length q) ∧ w'.cell? ⟨w2.heap.size, 0, none⟩ = some (.int .i64 c) ∧ w'.cell? ⟨w2.heap.size, 1, none⟩ = some (.int .i64 n) ∧ w'.cell? ⟨w2.heap.size, 2, none⟩ = some (.slice A2 ls.length q2))) (by kernel_rfl) (⟨(Below.refl _ _).drew, c0, c1, c2, f0, f1, f2⟩) (fun hHeld => ?_)
  (refine wpAnyH_take (i := 0) (oi := { dst := some 24, op := Go.Op.load 96 (Go.Operand.tmp 3), type := 96, pos := _, after := _, guard := none }) (v := ?_) rfl (by kernel_rfl) (by kernel_rfl) (by kernel_rfl) (fun _ _ _ h => h) (Or.inl ⟨by rfl, ?_⟩) (by assumption) ?_; rotate_left; (intro w hSw; (try dsimp only at hSw); go_simp; try with_reducible rfl); try simp only [Act.put, List.setIfInBounds_toArray, List.set_cons_zero, List.set_cons_succ])
  (refine wpAnyH_take (i := 2) (oi := { dst := some 26, op := Go.Op.load 96 (Go.Operand.tmp 1), type := 96, pos := _, after := _, guard := none }) (v := ?_) rfl (by kernel_rfl) (by kernel_rfl) (by kernel_rfl) (fun _ _ _ h => h) (Or.inl ⟨by rfl, ?_⟩) (by assumption) ?_; rotate_left; (intro w hSw; (try dsimp only at hSw); go_simp; try with_reducible rfl); try simp only [Act.put, List.setIfInBounds_toArray, List.set_cons_zero, List.set_cons_succ])
  refine wpAnyH_ready (rs := [1]) (by kernel_rfl) (by simp) ?_
  refine AllReadyH.cons (o := { dst := some 25, op := Go.Op.call { callee := Go.Callee.value (Go.Operand.func 84), args := #[Go.Operand.tmp 24], argTypes := #[96] }, type := 4, pos := _, after := _, guard := none }) rfl (fun K hK => ?_) AllReadyH.nil
  go_simp
  refine (HG.out _ _ _ (HX4.out.keep (And.left hHeld))).mono ?_
  rintro e w5 ⟨rfl, b5⟩
  go_wp2_with fail
  refine hK.out _ _ ?_ (fun hHeld2 => ?_)
  · (go_split_ands; exact ⟨Below.trans (by assumption) (b5.mono (Below.size (by assumption))), kc b5 (by assumption), kc b5 (by assumption), kc b5 (by assumption), kc b5 (by assumption), kc b5 (by assumption), kc b5 (by assumption)⟩)
  clear hK K hHeld
  have hHeld := hHeld2
  clear hHeld2
  try simp only [Act.put, List.setIfInBounds_toArray, List.set_cons_zero, List.set_cons_succ]
  refine wpAnyH_ready (rs := [3]) (by kernel_rfl) (by simp) ?_
  refine AllReadyH.cons (o := { dst := some 27, op := Go.Op.call { callee := Go.Callee.value (Go.Operand.func 85), args := #[Go.Operand.tmp 26], argTypes := #[96] }, type := 4, pos := _, after := _, guard := none }) rfl (fun K hK => ?_) AllReadyH.nil
  go_simp
  refine (HH.out _ _ _ (HR4.out.keep (And.left hHeld))).mono ?_
  rintro e w5 ⟨rfl, b5⟩
  go_wp2_with fail
  refine hK.out _ _ ?_ (fun hHeld2 => ?_)
  · (go_split_ands; exact ⟨Below.trans (by assumption) (b5.mono (Below.size (by assumption))), kc b5 (by assumption), kc b5 (by assumption), kc b5 (by assumption), kc b5 (by assumption), kc b5 (by assumption), kc b5 (by assumption)⟩)
  clear hK K hHeld
  have hHeld := hHeld2
  clear hHeld2
  try simp only [Act.put, List.setIfInBounds_toArray, List.set_cons_zero, List.set_cons_succ]
  (refine wpAnyH_take (i := 4) (oi := { dst := some 28, op := Go.Op.binOp Go.BinOp.eql 4 (Go.Operand.tmp 25) (Go.Operand.tmp 27) 4, type := 4, pos := _, after := _, guard := none }) (v := ?_) rfl (by kernel_rfl) (by kernel_rfl) (by kernel_rfl) (fun _ _ _ h => h) (Or.inl ⟨by rfl, ?_⟩) (by assumption) ?_; rotate_left; (intro w hSw; (try dsimp only at hSw); go_simp; try with_reducible rfl); try simp only [Act.put, List.setIfInBounds_toArray, List.set_cons_zero, List.set_cons_succ])
  (refine wpAnyH_take (i := 5) (oi := { dst := some 29, op := Go.Op.move (Go.Operand.tmp 28), type := 4, pos := _, after := _, guard := none }) (v := ?_) rfl (by kernel_rfl) (by kernel_rfl) (by kernel_rfl) (fun _ _ _ h => h) (Or.inl ⟨by rfl, ?_⟩) (by assumption) ?_; rotate_left; (intro w hSw; (try dsimp only at hSw); go_simp; try with_reducible rfl); try simp only [Act.put, List.setIfInBounds_toArray, List.set_cons_zero, List.set_cons_succ])
  (refine wpAnyH_take (i := 6) (oi := { dst := some 30, op := Go.Op.move (Go.Operand.tmp 4), type := 9, pos := _, after := _, guard := some (5, true) }) (v := ?_) rfl (by kernel_rfl) (by kernel_rfl) (by kernel_rfl) (fun _ _ _ h => h) (Or.inl ⟨by rfl, ?_⟩) (by assumption) ?_; rotate_left; (intro w hSw; (try dsimp only at hSw); go_simp; try with_reducible rfl); try simp only [Act.put, List.setIfInBounds_toArray, List.set_cons_zero, List.set_cons_succ])
  (refine wpAnyH_take (i := 7) (oi := { dst := some 31, op := Go.Op.move (Go.Operand.tmp 6), type := 9, pos := _, after := _, guard := some (5, true) }) (v := ?_) rfl (by kernel_rfl) (by kernel_rfl) (by kernel_rfl) (fun _ _ _ h => h) (Or.inl ⟨by rfl, ?_⟩) (by assumption) ?_; rotate_left; (intro w hSw; (try dsimp only at hSw); go_simp; try with_reducible rfl); try simp only [Act.put, List.setIfInBounds_toArray, List.set_cons_zero, List.set_cons_succ])
  (refine wpAnyH_take (i := 8) (oi := { dst := some 32, op := Go.Op.binOp Go.BinOp.eql 9 (Go.Operand.tmp 30) (Go.Operand.tmp 31) 9, type := 4, pos := _, after := _, guard := some (5, true) }) (v := ?_) rfl (by kernel_rfl) (by kernel_rfl) (by kernel_rfl) (fun _ _ _ h => h) (Or.inl ⟨by rfl, ?_⟩) (by assumption) ?_; rotate_left; (intro w hSw; (try dsimp only at hSw); go_simp; try with_reducible rfl); try simp only [Act.put, List.setIfInBounds_toArray, List.set_cons_zero, List.set_cons_succ])
  (refine wpAnyH_take (i := 9) (oi := { dst := some 33, op := Go.Op.pick (Go.Operand.tmp 29) (Go.Operand.tmp 32) (Go.Operand.const (Go.Value.bool false)), type := 4, pos := _, after := _, guard := none }) (v := ?_) rfl (by kernel_rfl) (by kernel_rfl) (by kernel_rfl) (fun _ _ _ h => h) (Or.inl ⟨by rfl, ?_⟩) (by assumption) ?_; rotate_left; (intro w hSw; (try dsimp only at hSw); go_simp; try with_reducible rfl); try simp only [Act.put, List.setIfInBounds_toArray, List.set_cons_zero, List.set_cons_succ])
  (refine wpAnyH_take (i := 10) (oi := { dst := some 34, op := Go.Op.move (Go.Operand.tmp 33), type := 4, pos := _, after := _, guard := none }) (v := ?_) rfl (by kernel_rfl) (by kernel_rfl) (by kernel_rfl) (fun _ _ _ h => h) (Or.inl ⟨by rfl, ?_⟩) (by assumption) ?_; rotate_left; (intro w hSw; (try dsimp only at hSw); go_simp; try with_reducible rfl); try simp only [Act.put, List.setIfInBounds_toArray, List.set_cons_zero, List.set_cons_succ])
  (refine wpAnyH_take (i := 11) (oi := { dst := some 35, op := Go.Op.move (Go.Operand.tmp 5), type := 27, pos := _, after := _, guard := some (10, true) }) (v := ?_) rfl (by kernel_rfl) (by kernel_rfl) (by kernel_rfl) (fun _ _ _ h => h) (Or.inl ⟨by rfl, ?_⟩) (by assumption) ?_; rotate_left; (intro w hSw; (try dsimp only at hSw); go_simp; try with_reducible rfl); try simp only [Act.put, List.setIfInBounds_toArray, List.set_cons_zero, List.set_cons_succ])
  (refine wpAnyH_take (i := 12) (oi := { dst := some 36, op := Go.Op.move (Go.Operand.tmp 7), type := 3, pos := _, after := _, guard := some (10, true) }) (v := ?_) rfl (by kernel_rfl) (by kernel_rfl) (by kernel_rfl) (fun _ _ _ h => h) (Or.inl ⟨by rfl, ?_⟩) (by assumption) ?_; rotate_left; (intro w hSw; (try dsimp only at hSw); go_simp; try with_reducible rfl); try simp only [Act.put, List.setIfInBounds_toArray, List.set_cons_zero, List.set_cons_succ])
  (refine wpAnyH_take (i := 13) (oi := { dst := some 37, op := Go.Op.binOp Go.BinOp.eql 3 (Go.Operand.tmp 35) (Go.Operand.tmp 36) 3, type := 4, pos := _, after := _, guard := some (10, true) }) (v := ?_) rfl (by kernel_rfl) (by kernel_rfl) (by kernel_rfl) (fun _ _ _ h => h) (Or.inl ⟨by rfl, ?_⟩) (by assumption) ?_; rotate_left; (intro w hSw; (try dsimp only at hSw); go_simp; try with_reducible rfl); try simp only [Act.put, List.setIfInBounds_toArray, List.set_cons_zero, List.set_cons_succ])
  (refine wpAnyH_take (i := 14) (oi := { dst := some 38, op := Go.Op.pick (Go.Operand.tmp 34) (Go.Operand.tmp 37) (Go.Operand.const (Go.Value.bool false)), type := 4, pos := _, after := _, guard := none }) (v := ?_) rfl (by kernel_rfl) (by kernel_rfl) (by kernel_rfl) (fun _ _ _ h => h) (Or.inl ⟨by rfl, ?_⟩) (by assumption) ?_; rotate_left; (intro w hSw; (try dsimp only at hSw); go_simp; try with_reducible rfl); try simp only [Act.put, List.setIfInBounds_toArray, List.set_cons_zero, List.set_cons_succ])
  (refine wpAnyH_take (i := 15) (oi := { dst := some 39, op := Go.Op.move (Go.Operand.tmp 38), type := 4, pos := _, after := _, guard := none }) (v := ?_) rfl (by kernel_rfl) (by kernel_rfl) (by kernel_rfl) (fun _ _ _ h => h) (Or.inl ⟨by rfl, ?_⟩) (by assumption) ?_; rotate_left; (intro w hSw; (try dsimp only at hSw); go_simp; try with_reducible rfl); try simp only [Act.put, List.setIfInBounds_toArray, List.set_cons_zero, List.set_cons_succ])
  (refine wpAnyH_take (i := 16) (oi := { dst := some 40, op := Go.Op.load 96 (Go.Operand.tmp 3), type := 96, pos := _, after := _, guard := some (15, true) }) (v := ?_) rfl (by kernel_rfl) (by kernel_rfl) (by kernel_rfl) (fun _ _ _ h => h) (Or.inl ⟨by rfl, ?_⟩) (by assumption) ?_; rotate_left; (intro w hSw; (try dsimp only at hSw); go_simp; try with_reducible rfl); try simp only [Act.put, List.setIfInBounds_toArray, List.set_cons_zero, List.set_cons_succ])
  (refine wpAnyH_take (i := 17) (oi := { dst := some 41, op := Go.Op.load 96 (Go.Operand.tmp 1), type := 96, pos := _, after := _, guard := some (15, true) }) (v := ?_) rfl (by kernel_rfl) (by kernel_rfl) (by kernel_rfl) (fun _ _ _ h => h) (Or.inl ⟨by rfl, ?_⟩) (by assumption) ?_; rotate_left; (intro w hSw; (try dsimp only at hSw); go_simp; try with_reducible rfl); try simp only [Act.put, List.setIfInBounds_toArray, List.set_cons_zero, List.set_cons_succ])
  refine wpAnyH_ready (rs := [18]) (by kernel_rfl) (by simp) ?_
  refine AllReadyH.cons (o := { dst := some 42, op := Go.Op.call { callee := Go.Callee.value (Go.Operand.func 81), args := #[Go.Operand.tmp 40, Go.Operand.tmp 41], argTypes := #[96, 96] }, type := 4, pos := _, after := _, guard := some (15, true) }) rfl (fun K hK => ?_) AllReadyH.nil
  go_simp
  refine (HK.out _ _ _ (HX4.out.keep (And.left hHeld)) (HR4.out.keep (And.left hHeld))).mono ?_
  rintro e w5 ⟨rfl, b5⟩
  go_wp2_with fail
  refine hK.out _ _ ?_ (fun hHeld2 => ?_)
  · (go_split_ands; exact ⟨Below.trans (by assumption) (b5.mono (Below.size (by assumption))), kc b5 (by assumption), kc b5 (by assumption), kc b5 (by assumption), kc b5 (by assumption), kc b5 (by assumption), kc b5 (by assumption)⟩)
  clear hK K hHeld
  have hHeld := hHeld2
  clear hHeld2
  try simp only [Act.put, List.setIfInBounds_toArray, List.set_cons_zero, List.set_cons_succ]
  (refine wpAnyH_take (i := 19) (oi := { dst := some 43, op := Go.Op.pick (Go.Operand.tmp 39) (Go.Operand.tmp 42) (Go.Operand.const (Go.Value.bool false)), type := 4, pos := _, after := _, guard := none }) (v := ?_) rfl (by kernel_rfl) (by kernel_rfl) (by kernel_rfl) (fun _ _ _ h => h) (Or.inl ⟨by rfl, ?_⟩) (by assumption) ?_; rotate_left; (intro w hSw; (try dsimp only at hSw); go_simp; try with_reducible rfl); try simp only [Act.put, List.setIfInBounds_toArray, List.set_cons_zero, List.set_cons_succ])
  (refine wpAnyH_take (i := 20) (oi := { dst := some 44, op := Go.Op.move (Go.Operand.tmp 43), type := 4, pos := _, after := _, guard := none }) (v := ?_) rfl (by kernel_rfl) (by kernel_rfl) (by kernel_rfl) (fun _ _ _ h => h) (Or.inl ⟨by rfl, ?_⟩) (by assumption) ?_; rotate_left; (intro w hSw; (try dsimp only at hSw); go_simp; try with_reducible rfl); try simp only [Act.put, List.setIfInBounds_toArray, List.set_cons_zero, List.set_cons_succ])
  refine wpAnyH_ready (rs := [21]) (by kernel_rfl) (by simp) ?_
  refine AllReadyH.cons (o := { dst := some 45, op := Go.Op.call { callee := Go.Callee.value (Go.Operand.func 77), args := #[], argTypes := #[] }, type := 4, pos := _, after := _, guard := some (20, true) }) rfl (fun K hK => ?_) AllReadyH.nil
  go_simp
  refine (rep_wakes _).mono ?_
  rintro e w5 ⟨rfl, b5⟩
  go_wp2_with fail
  refine hK.out _ _ ?_ (fun hHeld2 => ?_)
  · (go_split_ands; exact ⟨Below.trans (by assumption) (b5.mono (Below.size (by assumption))), kc b5 (by assumption), kc b5 (by assumption), kc b5 (by assumption), kc b5 (by assumption), kc b5 (by assumption), kc b5 (by assumption)⟩)
  clear hK K hHeld
  have hHeld := hHeld2
  clear hHeld2
  try simp only [Act.put, List.setIfInBounds_toArray, List.set_cons_zero, List.set_cons_succ]
  (refine wpAnyH_take (i := 22) (oi := { dst := some 46, op := Go.Op.pick (Go.Operand.tmp 44) (Go.Operand.tmp 45) (Go.Operand.const (Go.Value.bool false)), type := 4, pos := _, after := _, guard := none }) (v := ?_) rfl (by kernel_rfl) (by kernel_rfl) (by kernel_rfl) (fun _ _ _ h => h) (Or.inl ⟨by rfl, ?_⟩) (by assumption) ?_; rotate_left; (intro w hSw; (try dsimp only at hSw); go_simp; try with_reducible rfl); try simp only [Act.put, List.setIfInBounds_toArray, List.set_cons_zero, List.set_cons_succ])
  (refine wpAnyH_take (i := 23) (oi := { dst := some 2, op := Go.Op.assign (Go.Operand.tmp 46), type := 4, pos := _, after := _, guard := none }) (v := ?_) rfl (by kernel_rfl) (by kernel_rfl) (by kernel_rfl) (fun _ _ _ h => h) (Or.inl ⟨by rfl, ?_⟩) (by assumption) ?_; rotate_left; (intro w hSw; (try dsimp only at hSw); go_simp; try with_reducible rfl); try simp only [Act.put, List.setIfInBounds_toArray, List.set_cons_zero, List.set_cons_succ])
  refine wpAnyH_done (by kernel_rfl) ?_ _
  have hbf := k4.trans ((And.left hHeld).mono k4.size)
  go_wp2_with fail
  go_ret
  exact ⟨rfl, hbf⟩

set_option maxRecDepth 100000 in
theorem replyEncodes_lifted (os : Os) (started : os.Started) (H : Type) (enc : TypeId × Value → H) :
    ReturnsInHanded {} Try.checked os 19 .any (Rows.replyEncodesSpec.pre6 enc Try.prog Try.f19 [] false) (Rows.replyEncodesSpec.post enc Try.prog Try.f19 false true false false) := by
  refine law_lifted (C := Try.checked) own started (by kernel_rfl) Try.func19
    (ChangeSpec.witness6 (enc := enc) (C := Try.checked) false ⟨#[], #[.agg #[.int .i64 0, .int .i64 0, .slice none 0 0]], []⟩ 8 (by kernel_rfl) (by kernel_rfl) (by kernel_rfl) (by kernel_rfl))
    rfl (fun ds h => by match ds, h with | [_], _ => rfl) laid (by kernel_rfl) (tb := 4) rfl Try.underlying4 ?_
  intro W base args ds ps hval hA hsz
  rw [Try.params19] at hA hval hsz
  obtain ⟨v0, d0, rfl, rfl, h0⟩ := trodAll_one hA
  obtain ⟨c, n, A, q, ls, rfl, hr, hw, hn⟩ := open_rep (hval 0 96 v0 rfl rfl) h0
  cases h : largeRR ls with
  | true => exact encs_large c n A q ls W hr h
  | false =>
  exact encs_main c n A q ls W hr (fun l hl v hv => (hw l hl v hv).1) h

theorem replyEncodes_holds : Rows.ReplyEncodesSaid :=
  OpenClaim.holds_of_wide 19 Try.f19 rfl rfl rfl rfl rfl rfl rfl ⟨rfl, rfl, rfl, rfl, rfl⟩ rfl rfl rfl rfl rfl (by kernel_rfl) Try.func19 (by kernel_rfl)
    (of_decide_eq_true (by kernel_rfl)) (by unfold Func.isWrapper; first | (rw [if_pos (by decide +kernel)]; kernel_rfl) | (rw [if_neg (by decide +kernel)]; exact ⟨rfl, rfl⟩))
    (fun os started H enc _ => replyEncodes_lifted os started H enc)
#print axioms replyEncodes_holds
end Go.Proofs.Ytmgpecomgffelaa
