/- Contract: the reply of bytes (of the reference). -/
import Derived.Test.YtmgpecomgffelaaRepF
namespace Go.Proofs.Ytmgpecomgffelaa
open Go.RowKit
set_option linter.unusedVariables false
section
variable {w : World} {o : Oper} {a : Act} {K : Act → World → Prop} {Q : Exit → Act → World → Prop}
theorem wp_alloc96 (ho : o.op = .alloc 96) (h : ∀ w' b, B3 w' b 0 0 none 0 0 → w.heap.size ≤ b → w'.heap.size = b + 1 → Below w.heap.size w w' → K (a.put o.dst (.pointer (some ⟨b, 0, none⟩))) w') : o.wp Try.prog a w K Q := by
  have hr : (execOp a.eval o).run Try.prog w = .ok (.value (.pointer (some ⟨w.heap.size, 0, none⟩))) (w.alloc (.cells (a3 0 0 none 0 0) 96)) := by
    unfold execOp
    rw [ho]
    go_simp
  unfold Oper.wp
  rw [hr, Oper.upon_value]
  exact h _ _ (B3.new w 0 0 none 0 0 96) (Nat.le_refl _) (by simp) ((Below.refl _ _).alloc (Nat.le_refl _) _)
theorem wp_store96 (x y : Operand) (ho : o.op = .store 96 x y) (b : Nat) (c n : Int) (A : Option Addr) (l k : Nat) (c' n' : Int) (A' : Option Addr) (l' k' : Nat) (hx : a.eval x = .pointer (some ⟨b, 0, none⟩)) (hy : a.eval y = rv c' n' A' l' k') (hP : B3 w b c n A l k)
    (h : ∀ w', B3 w' b c' n' A' l' k' → w'.heap.size = w.heap.size → (∀ B0, B0 ≤ b → Below B0 w w') → K (a.put o.dst undef) w') : o.wp Try.prog a w K Q := by
  refine wp_store_mid 96 x y ho b 0 #[.int .i64 c', .int .i64 n', .slice A' l' k'] hx hy (show w.there b 0 3 from BoxT.there hP) (by kernel_rfl) (by simp [Value.oneCell']) ?_
  have h1 : B3 (((w.setCell ⟨b, 0, none⟩ (.int .i64 c')).setCell ⟨b, 1, none⟩ (.int .i64 n')).setCell ⟨b, 2, none⟩ (.slice A' l' k')) b c' n' A' l' k' :=
    ((BoxT.set hP 0 (by simp) (.int .i64 c')).set 1 (by simp) (.int .i64 n')).set 2 (by simp) (.slice A' l' k')
  exact h _ h1 (by simp [World.setCell, World.setCells]) fun B0 hB => (((Below.refl _ _).setCell (p := ⟨b, 0, none⟩) hB _).setCell (p := ⟨b, 1, none⟩) hB _).setCell (p := ⟨b, 2, none⟩) hB _
end
set_option maxRecDepth 100000 in
theorem rdecr_short (b : ByteArray) (h : b.size < 6) (w : World) : Calls Try.prog 86 #[.string b] w (DecP b w) := by
  have hno := Lib.hid (decR_short h)
  have t1 : decide ((b.size : Int) < 6) = true := by rw [decide_eq_true]; omega
  have t2 : decide (b.size < 6) = true := by rw [decide_eq_true]; omega
  clear h
  go_enter Try.func86, Try.ntmps86
  go_wp2_with fail
  exact bodyPost_ret (v := .tuple #[rv 0 0 none 0 0, .int .i64 11]) (by simp [results, Try.results86, go_sem]) rfl (DecP.no hno.out ((Below.refl w.heap.size w).alloc (Nat.le_refl _) _))
set_option maxRecDepth 100000 in
set_option maxHeartbeats 4000000 in
theorem rdecr_main (b : ByteArray) (h6 : 6 ≤ b.size) (hsz : b.size ≤ 1000000) (w : World) : Calls Try.prog 86 #[.string b] w (DecP b w) := by
  have t1 : decide ((b.size : Int) < 6) = false := by rw [decide_eq_false]; omega
  have t2 : decide (b.size < 6) = false := by rw [decide_eq_false]; omega
  have HT := Lib.hid (fun q => take_any b q hsz)
  have HNO := Lib.hid (decR_rows (b := b))
  have HBAD := Lib.hid (fun ls q => decR_bad h6 (ls := ls) (q := q))
  have HGOOD := Lib.hid (fun ls q => decR_good h6 (ls := ls) (q := q))
  have hm2 := numB_lt b 4 2
  have HOK := Lib.hid (fun k ls e => rowsA_ok b 6 h6 k ls e)
  have HOKV := Lib.hid (fun k ls e => rowsA_okv b 6 h6 k ls e)
  have i0 : 0 < b.size := by omega
  have I0 : (0 : Int) < (b.size : Int) := by omega
  have h0 := sAt_eq b 0 i0
  have l0 := sAt_lt b 0
  have i1 : 1 < b.size := by omega
  have I1 : (1 : Int) < (b.size : Int) := by omega
  have h1 := sAt_eq b 1 i1
  have l1 := sAt_lt b 1
  have i2 : 2 < b.size := by omega
  have I2 : (2 : Int) < (b.size : Int) := by omega
  have h2 := sAt_eq b 2 i2
  have l2 := sAt_lt b 2
  have i3 : 3 < b.size := by omega
  have I3 : (3 : Int) < (b.size : Int) := by omega
  have h3 := sAt_eq b 3 i3
  have l3 := sAt_lt b 3
  have i4 : 4 < b.size := by omega
  have I4 : (4 : Int) < (b.size : Int) := by omega
  have h4 := sAt_eq b 4 i4
  have l4 := sAt_lt b 4
  have i5 : 5 < b.size := by omega
  have I5 : (5 : Int) < (b.size : Int) := by omega
  have h5 := sAt_eq b 5 i5
  have l5 := sAt_lt b 5
  have n0 := numB2 b 0
  have n1 := numB2 b 2
  have n2 := numB2 b 4
  simp only [Nat.zero_add, Nat.reduceAdd] at n0 n1 n2
  generalize sAt b 0 = v0 at *
  generalize sAt b 1 = v1 at *
  generalize sAt b 2 = v2 at *
  generalize sAt b 3 = v3 at *
  generalize sAt b 4 = v4 at *
  generalize sAt b 5 = v5 at *
  generalize numB b 0 2 = x0 at *
  generalize numB b 2 2 = x1 at *
  generalize numB b 4 2 = m at *
  have u0 : IntKind.i64.wrap (v0 : Int) = (v0 : Int) := by rw [IntKind.wrap_i64]; omega
  have u1 : IntKind.i64.wrap (v1 : Int) = (v1 : Int) := by rw [IntKind.wrap_i64]; omega
  have u2 : IntKind.i64.wrap (v2 : Int) = (v2 : Int) := by rw [IntKind.wrap_i64]; omega
  have u3 : IntKind.i64.wrap (v3 : Int) = (v3 : Int) := by rw [IntKind.wrap_i64]; omega
  have u4 : IntKind.i64.wrap (v4 : Int) = (v4 : Int) := by rw [IntKind.wrap_i64]; omega
  have u5 : IntKind.i64.wrap (v5 : Int) = (v5 : Int) := by rw [IntKind.wrap_i64]; omega
  have p0 : IntKind.i64.wrap ((v0 : Int) * 256) = (v0 : Int) * 256 := by rw [IntKind.wrap_i64]; omega
  have q0 : IntKind.i64.wrap ((v0 : Int) * 256 + (v1 : Int)) = ((x0 : Nat) : Int) := by rw [IntKind.wrap_i64]; omega
  have p2 : IntKind.i64.wrap ((v2 : Int) * 256) = (v2 : Int) * 256 := by rw [IntKind.wrap_i64]; omega
  have q2 : IntKind.i64.wrap ((v2 : Int) * 256 + (v3 : Int)) = ((x1 : Nat) : Int) := by rw [IntKind.wrap_i64]; omega
  have p4 : IntKind.i64.wrap ((v4 : Int) * 256) = (v4 : Int) * 256 := by rw [IntKind.wrap_i64]; omega
  have q4 : IntKind.i64.wrap ((v4 : Int) * 256 + (v5 : Int)) = ((m : Nat) : Int) := by rw [IntKind.wrap_i64]; omega
  clear n0 n1 n2
  go_enter Try.func86, Try.ntmps86
  go_wp2_with fail
  have R0 : Hid (B3 (w.alloc (.cells (a3 0 0 none 0 0) 96)) w.heap.size 0 0 none 0 0) := Lib.hid (B3.new w 0 0 none 0 0 96)
  have k0 : Below w.heap.size w (w.alloc (.cells (a3 0 0 none 0 0) 96)) := (Below.refl w.heap.size w).alloc (Nat.le_refl _) _
  obtain ⟨w0, hw0⟩ : ∃ w0 : World, w0 = w.alloc (.cells (a3 0 0 none 0 0) 96) := ⟨_, rfl⟩
  rw [← hw0] at R0 k0 ⊢
  have hws : w.heap.size < w0.heap.size := R0.out.lt
  clear hw0
  refine wp_region_held_drew (S := (fun w' => Below w0.heap.size w0 w')) (by kernel_rfl) ((Below.refl _ _).drew) (fun hHeld => ?_)
  (refine wpAnyH_take (i := 0) (oi := { dst := some 13, op := Go.Op.move (Go.Operand.tmp 0), type := 9, pos := _, after := _, guard := none }) (v := ?_) rfl (by kernel_rfl) (by kernel_rfl) (by kernel_rfl) (fun _ _ _ h => h) (Or.inl ⟨by rfl, ?_⟩) (by assumption) ?_; rotate_left; (intro w hSw; (try dsimp only at hSw); go_simp; try with_reducible rfl); try simp only [Act.put, List.setIfInBounds_toArray, List.set_cons_zero, List.set_cons_succ])
  (refine wpAnyH_take (i := 1) (oi := { dst := some 14, op := Go.Op.index 9 (Go.Operand.tmp 13) (Go.Operand.const (Go.Value.int Go.IntKind.i64 0)), type := 5, pos := _, after := _, guard := none }) (v := ?_) rfl (by kernel_rfl) (by kernel_rfl) (by kernel_rfl) (fun _ _ _ h => h) (Or.inl ⟨by rfl, ?_⟩) (by assumption) ?_; rotate_left; (intro w hSw; (try dsimp only at hSw); go_simp; try with_reducible rfl); try simp only [Act.put, List.setIfInBounds_toArray, List.set_cons_zero, List.set_cons_succ])
  (refine wpAnyH_take (i := 2) (oi := { dst := some 15, op := Go.Op.convert 5 3 (Go.Operand.tmp 14), type := 3, pos := _, after := _, guard := none }) (v := ?_) rfl (by kernel_rfl) (by kernel_rfl) (by kernel_rfl) (fun _ _ _ h => h) (Or.inl ⟨by rfl, ?_⟩) (by assumption) ?_; rotate_left; (intro w hSw; (try dsimp only at hSw); go_simp; try with_reducible rfl); try simp only [Act.put, List.setIfInBounds_toArray, List.set_cons_zero, List.set_cons_succ])
  (refine wpAnyH_take (i := 3) (oi := { dst := some 16, op := Go.Op.binOp Go.BinOp.mul 3 (Go.Operand.tmp 15) (Go.Operand.const (Go.Value.int Go.IntKind.i64 256)) 3, type := 3, pos := _, after := _, guard := none }) (v := ?_) rfl (by kernel_rfl) (by kernel_rfl) (by kernel_rfl) (fun _ _ _ h => h) (Or.inl ⟨by rfl, ?_⟩) (by assumption) ?_; rotate_left; (intro w hSw; (try dsimp only at hSw); go_simp; try with_reducible rfl); try simp only [Act.put, List.setIfInBounds_toArray, List.set_cons_zero, List.set_cons_succ])
  (refine wpAnyH_take (i := 4) (oi := { dst := some 17, op := Go.Op.move (Go.Operand.tmp 0), type := 9, pos := _, after := _, guard := none }) (v := ?_) rfl (by kernel_rfl) (by kernel_rfl) (by kernel_rfl) (fun _ _ _ h => h) (Or.inl ⟨by rfl, ?_⟩) (by assumption) ?_; rotate_left; (intro w hSw; (try dsimp only at hSw); go_simp; try with_reducible rfl); try simp only [Act.put, List.setIfInBounds_toArray, List.set_cons_zero, List.set_cons_succ])
  (refine wpAnyH_take (i := 5) (oi := { dst := some 18, op := Go.Op.index 9 (Go.Operand.tmp 17) (Go.Operand.const (Go.Value.int Go.IntKind.i64 1)), type := 5, pos := _, after := _, guard := none }) (v := ?_) rfl (by kernel_rfl) (by kernel_rfl) (by kernel_rfl) (fun _ _ _ h => h) (Or.inl ⟨by rfl, ?_⟩) (by assumption) ?_; rotate_left; (intro w hSw; (try dsimp only at hSw); go_simp; try with_reducible rfl); try simp only [Act.put, List.setIfInBounds_toArray, List.set_cons_zero, List.set_cons_succ])
  (refine wpAnyH_take (i := 6) (oi := { dst := some 19, op := Go.Op.convert 5 3 (Go.Operand.tmp 18), type := 3, pos := _, after := _, guard := none }) (v := ?_) rfl (by kernel_rfl) (by kernel_rfl) (by kernel_rfl) (fun _ _ _ h => h) (Or.inl ⟨by rfl, ?_⟩) (by assumption) ?_; rotate_left; (intro w hSw; (try dsimp only at hSw); go_simp; try with_reducible rfl); try simp only [Act.put, List.setIfInBounds_toArray, List.set_cons_zero, List.set_cons_succ])
  (refine wpAnyH_take (i := 7) (oi := { dst := some 20, op := Go.Op.binOp Go.BinOp.add 3 (Go.Operand.tmp 16) (Go.Operand.tmp 19) 3, type := 3, pos := _, after := _, guard := none }) (v := ?_) rfl (by kernel_rfl) (by kernel_rfl) (by kernel_rfl) (fun _ _ _ h => h) (Or.inl ⟨by rfl, ?_⟩) (by assumption) ?_; rotate_left; (intro w hSw; (try dsimp only at hSw); go_simp; try with_reducible rfl); try simp only [Act.put, List.setIfInBounds_toArray, List.set_cons_zero, List.set_cons_succ])
  (refine wpAnyH_take (i := 8) (oi := { dst := some 21, op := Go.Op.move (Go.Operand.tmp 0), type := 9, pos := _, after := _, guard := none }) (v := ?_) rfl (by kernel_rfl) (by kernel_rfl) (by kernel_rfl) (fun _ _ _ h => h) (Or.inl ⟨by rfl, ?_⟩) (by assumption) ?_; rotate_left; (intro w hSw; (try dsimp only at hSw); go_simp; try with_reducible rfl); try simp only [Act.put, List.setIfInBounds_toArray, List.set_cons_zero, List.set_cons_succ])
  (refine wpAnyH_take (i := 9) (oi := { dst := some 22, op := Go.Op.index 9 (Go.Operand.tmp 21) (Go.Operand.const (Go.Value.int Go.IntKind.i64 2)), type := 5, pos := _, after := _, guard := none }) (v := ?_) rfl (by kernel_rfl) (by kernel_rfl) (by kernel_rfl) (fun _ _ _ h => h) (Or.inl ⟨by rfl, ?_⟩) (by assumption) ?_; rotate_left; (intro w hSw; (try dsimp only at hSw); go_simp; try with_reducible rfl); try simp only [Act.put, List.setIfInBounds_toArray, List.set_cons_zero, List.set_cons_succ])
  (refine wpAnyH_take (i := 10) (oi := { dst := some 23, op := Go.Op.convert 5 3 (Go.Operand.tmp 22), type := 3, pos := _, after := _, guard := none }) (v := ?_) rfl (by kernel_rfl) (by kernel_rfl) (by kernel_rfl) (fun _ _ _ h => h) (Or.inl ⟨by rfl, ?_⟩) (by assumption) ?_; rotate_left; (intro w hSw; (try dsimp only at hSw); go_simp; try with_reducible rfl); try simp only [Act.put, List.setIfInBounds_toArray, List.set_cons_zero, List.set_cons_succ])
  (refine wpAnyH_take (i := 11) (oi := { dst := some 24, op := Go.Op.binOp Go.BinOp.mul 3 (Go.Operand.tmp 23) (Go.Operand.const (Go.Value.int Go.IntKind.i64 256)) 3, type := 3, pos := _, after := _, guard := none }) (v := ?_) rfl (by kernel_rfl) (by kernel_rfl) (by kernel_rfl) (fun _ _ _ h => h) (Or.inl ⟨by rfl, ?_⟩) (by assumption) ?_; rotate_left; (intro w hSw; (try dsimp only at hSw); go_simp; try with_reducible rfl); try simp only [Act.put, List.setIfInBounds_toArray, List.set_cons_zero, List.set_cons_succ])
  (refine wpAnyH_take (i := 12) (oi := { dst := some 25, op := Go.Op.move (Go.Operand.tmp 0), type := 9, pos := _, after := _, guard := none }) (v := ?_) rfl (by kernel_rfl) (by kernel_rfl) (by kernel_rfl) (fun _ _ _ h => h) (Or.inl ⟨by rfl, ?_⟩) (by assumption) ?_; rotate_left; (intro w hSw; (try dsimp only at hSw); go_simp; try with_reducible rfl); try simp only [Act.put, List.setIfInBounds_toArray, List.set_cons_zero, List.set_cons_succ])
  (refine wpAnyH_take (i := 13) (oi := { dst := some 26, op := Go.Op.index 9 (Go.Operand.tmp 25) (Go.Operand.const (Go.Value.int Go.IntKind.i64 3)), type := 5, pos := _, after := _, guard := none }) (v := ?_) rfl (by kernel_rfl) (by kernel_rfl) (by kernel_rfl) (fun _ _ _ h => h) (Or.inl ⟨by rfl, ?_⟩) (by assumption) ?_; rotate_left; (intro w hSw; (try dsimp only at hSw); go_simp; try with_reducible rfl); try simp only [Act.put, List.setIfInBounds_toArray, List.set_cons_zero, List.set_cons_succ])
  (refine wpAnyH_take (i := 14) (oi := { dst := some 27, op := Go.Op.convert 5 3 (Go.Operand.tmp 26), type := 3, pos := _, after := _, guard := none }) (v := ?_) rfl (by kernel_rfl) (by kernel_rfl) (by kernel_rfl) (fun _ _ _ h => h) (Or.inl ⟨by rfl, ?_⟩) (by assumption) ?_; rotate_left; (intro w hSw; (try dsimp only at hSw); go_simp; try with_reducible rfl); try simp only [Act.put, List.setIfInBounds_toArray, List.set_cons_zero, List.set_cons_succ])
  (refine wpAnyH_take (i := 15) (oi := { dst := some 28, op := Go.Op.binOp Go.BinOp.add 3 (Go.Operand.tmp 24) (Go.Operand.tmp 27) 3, type := 3, pos := _, after := _, guard := none }) (v := ?_) rfl (by kernel_rfl) (by kernel_rfl) (by kernel_rfl) (fun _ _ _ h => h) (Or.inl ⟨by rfl, ?_⟩) (by assumption) ?_; rotate_left; (intro w hSw; (try dsimp only at hSw); go_simp; try with_reducible rfl); try simp only [Act.put, List.setIfInBounds_toArray, List.set_cons_zero, List.set_cons_succ])
  (refine wpAnyH_take (i := 16) (oi := { dst := some 29, op := Go.Op.build 96 #[(0, Go.Operand.tmp 20), (1, Go.Operand.tmp 28)], type := 96, pos := _, after := _, guard := none }) (v := ?_) rfl (by kernel_rfl) (by kernel_rfl) (by kernel_rfl) (fun _ _ _ h => h) (Or.inl ⟨by rfl, ?_⟩) (by assumption) ?_; rotate_left; (intro w hSw; (try dsimp only at hSw); go_simp; try with_reducible rfl); try simp only [Act.put, List.setIfInBounds_toArray, List.set_cons_zero, List.set_cons_succ])
  refine wpAnyH_ready (rs := [17]) (by kernel_rfl) (by simp) ?_
  refine AllReadyH.cons (o := { dst := some 4, op := Go.Op.alloc 96, type := 0, pos := _, after := _, guard := none }) rfl (fun K hK => ?_) AllReadyH.nil
  rw [if_pos (by rfl)]
  refine wp_alloc96 rfl ?_
  intro w1 P hP1 hPle hP2 b1
  have hWP : w0.heap.size ≤ P := Nat.le_trans (Below.size hHeld) hPle
  refine hK.out _ _ ?_ (fun hHeld2 => ?_)
  · (exact Below.trans hHeld (b1.mono (Below.size hHeld)))
  clear hK K hHeld
  have hHeld := hHeld2
  clear hHeld2
  try simp only [Act.put, List.setIfInBounds_toArray, List.set_cons_zero, List.set_cons_succ]
  refine wpAnyH_ready (rs := [18]) (by kernel_rfl) (by simp) ?_
  refine AllReadyH.cons (o := { dst := none, op := Go.Op.store 96 (Go.Operand.tmp 4) (Go.Operand.tmp 29), type := 0, pos := _, after := _, guard := none }) rfl (fun K hK => ?_) AllReadyH.nil
  rw [if_pos (by rfl)]
  refine wp_store96 _ _ rfl P 0 0 none 0 0 x0 x1 none 0 0 rfl rfl hP1 ?_
  intro w3 hP3 hs3 b3
  refine hK.out _ _ ?_ (fun hHeld2 => ?_)
  · (exact Below.trans hHeld (b3 _ hWP))
  clear hK K hHeld
  have hHeld := hHeld2
  clear hHeld2
  try simp only [Act.put]
  refine wpAnyH_done (by kernel_rfl) ?_ _
  have R4 := Lib.hid (R0.out.keep hHeld)
  have P4 := Lib.hid hP3
  have k4 := k0.trans (hHeld.mono k0.size)
  have hPw : P < w3.heap.size := by omega
  have hwP : w.heap.size < P := by omega
  have hPs : w3.heap.size = P + 1 := by omega
  clear hHeld hP1 hP2 hP3 hs3 b1 b3 hPle R0 k0 hWP
  go_wp2_with fail
  go_quiet (fail)
  go_wp2_with fail
  go_loopw [6, 7] (fun v i wr => ∃ (k q : Nat) (ls : List (List Val)) (A : Option Addr) (c : Nat), k ≤ m ∧ i = .int .i64 k ∧ v = .int .i64 q ∧ rowsA b 6 k = some (ls, q) ∧ (A = none → c = 0) ∧ B3 wr P x0 x1 A k c ∧ OwnRows wr (P + 1) (.slice A k c) ls ∧ B3 wr w.heap.size 0 0 none 0 0 ∧ Below w.heap.size w wr) (fun _ i _ => m - (intOf i).toNat)
  case atStart => exact ⟨0, 6, [], none, 0, by omega, rfl, rfl, rfl, fun _ => rfl, P4.out, OwnRows.nil _ _, R4.out, below_drewN k4 _⟩
  case round =>
    obtain ⟨k, q, ls, A, c, hkm, rfl, rfl, hrw, hnA, hP, hO, hR, hb⟩ := hrel
    obtain ⟨g1, g2, g3, g4, g5⟩ := HOK.out k ls q hrw
    clear g4 g5
    have HRW := Lib.hid hrw
    have HP := Lib.hid hP
    have HO := Lib.hid hO
    have HR := Lib.hid hR
    have HNA := Lib.hid hnA
    have G1 := Lib.hid g1
    have hPr : P < wr.heap.size := hP.lt
    clear hrw hP hO hR hnA g1
    by_cases hlt : k < m
    · have htake := HT.out q
      have hw1 : IntKind.i64.wrap ((k : Int) + 1) = (k : Int) + 1 := by rw [IntKind.wrap_i64]; omega
      unfold TakeP at htake
      cases ht : takA b q with
      | none =>
        have Hno := Lib.hid (HNO.out (rowsA_end b 6 k ls q HRW.out ht m hlt))
        obtain ⟨e1, e2⟩ := tak_of_none ht
        rw [e1, e2] at htake
        have HL := Lib.hid htake
        clear htake e1 e2 ht
        go_wp2_with fail
        refine (HL.out _).mono ?_
        rintro e w5 ⟨A5, c5, rfl, f5, n5, b5⟩
        have k5 := hb.trans (b5.mono hb.size)
        have R5 := (HR.out.keep b5).alloc (.cells (a2 A5 0 c5 0) 117)
        have hs5 := b5.size
        have hne1 : w5.heap.size ≠ w.heap.size := by omega
        have hne2 : w.heap.size ≠ w5.heap.size := by omega
        obtain ⟨⟨d0, z0⟩, ⟨d1, z1⟩, ⟨d2, z2⟩⟩ := R5.cells
        clear b5 R5 f5 n5 hs5
        go_wp2_with fail
        exact bodyPost_ret (v := .tuple #[rv 0 0 none 0 0, .int .i64 11]) (by simp [results, Try.results86, go_sem, d0, d1, d2]) rfl (DecP.no Hno.out ((((k5.alloc k5.size _).setCell (p := ⟨w.heap.size, 0, none⟩) (Nat.le_refl _) _).setCell (p := ⟨w.heap.size, 1, none⟩) (Nat.le_refl _) _).setCell (p := ⟨w.heap.size, 2, none⟩) (Nat.le_refl _) _))
      | some y =>
        obtain ⟨l, e⟩ := y
        obtain ⟨j1, j2, _⟩ := takA_bd ht
        obtain ⟨e1, e2⟩ := tak_of_some ht
        rw [e1, e2] at htake
        have Hrw := Lib.hid (show rowsA b 6 (k + 1) = some (ls ++ [l], e) by rw [rowsA_succ _ _ _ _ _ HRW.out, ht]; rfl)
        obtain ⟨d, hd⟩ : ∃ d, d = e - q := ⟨_, rfl⟩
        rw [← hd] at htake
        have tn : ((d : Int) == 0) = false := by rw [beq_eq_false_iff_ne]; omega
        have tn2 : (d == 0) = false := by rw [beq_eq_false_iff_ne]; omega
        have hne : d ≠ 0 := by omega
        have hwd : IntKind.i64.wrap ((q : Int) + (d : Int)) = (q : Int) + (d : Int) := by rw [IntKind.wrap_i64]; omega
        have Hqd := Lib.hid (show ((q : Int) + (d : Int)) = (e : Int) by omega)
        have HL := Lib.hid htake
        clear htake e1 e2 ht hd j1
        go_wp2_with fail
        refine (HL.out _).mono ?_
        rintro e' w5 ⟨A5, c5, rfl, f5, n5, b5⟩
        have k5 := hb.trans (b5.mono hb.size)
        have hs5 := b5.size
        have F5 := Lib.hid (Fresh.up f5 (show P + 1 ≤ wr.heap.size by omega))
        have R5 := Lib.hid (((HR.out.keep b5).alloc (.cells (a2 A5 l.length c5 d) 117)).alloc (.cells #[.slice A5 l.length c5] 39))
        have P5 := Lib.hid (((HP.out.keep b5).alloc (.cells (a2 A5 l.length c5 d) 117)).alloc (.cells #[.slice A5 l.length c5] 39))
        have O5 := Lib.hid (((HO.out.keep b5).alloc (.cells (a2 A5 l.length c5 d) 117)).alloc (.cells #[.slice A5 l.length c5] 39))
        have C5 := Lib.hid (BoxT.alloc (BoxT.new w5 (a2 A5 l.length c5 d) 117) (.cells #[.slice A5 l.length c5] 39))
        obtain ⟨⟨p0, y0⟩, ⟨p1, y1⟩, ⟨p2, y2⟩⟩ := ((HP.out.keep b5).alloc (.cells (a2 A5 l.length c5 d) 117)).cells
        have HNe := Lib.hid (O5.out.ne P (Or.inl (by omega)))
        have HNe2 := Lib.hid (O5.out.ne w.heap.size (Or.inl (by omega)))
        have HNe3 := Lib.hid ((HO.out.keep b5).ne w5.heap.size (Or.inr (Nat.le_refl _)))
        have hne1 : w5.heap.size ≠ P := by omega
        have hne2 : P ≠ w5.heap.size := by omega
        clear f5 b5 n5
        go_wp2_with (at_builtin; refine wl_own_row rfl _ _ rfl (P + 1) _ ls rfl O5.out (by simp; omega) _ c5 A5 l _ rfl (by first | (rw [World.cell?_alloc_new]; rfl) | (go_simp)) (Fresh.alloc (Fresh.alloc F5.out _) _) (by have := G1.out; omega) ?_; intro v' w7 hO7 hg7 hb7; have R7 := Lib.hid (R5.out.grown hg7 HNe2.out); have P7 := Lib.hid (P5.out.grown hg7 HNe.out); have K7 := Lib.hid (((k5.alloc k5.size _).alloc (by have := k5.size; simp; omega) _).trans (hb7.mono (by omega))); have C7 := (BoxT.grown C5.out hg7 HNe3.out 1 _ rfl).1; obtain ⟨A7, c7, hv7, hn7⟩ := hO7.slice' (k + 1) (by rw [List.length_append, G1.out]; rfl); subst hv7; have O7 := Lib.hid hO7; have NA7 := Lib.hid hn7; clear p0 y0 p1 y1 p2 y2; obtain ⟨⟨r0, x0'⟩, ⟨r1, x1'⟩, ⟨r2, x2'⟩⟩ := P7.out.cells; clear hO7 hg7 hb7 hn7)
        exact ⟨⟨k + 1, e, ls ++ [l], A7, c7, by omega, by go_num, by rw [Hqd.out], Hrw.out, NA7.out, P7.out.set2 _ _ _, O7.out.setCell (by simp) _, R7.out.other _ (by show P ≠ w.heap.size; omega) _, K7.out.setCell (by show w.heap.size ≤ P; omega) _⟩, by simp [intOf]; omega⟩
    · obtain rfl : k = m := by omega
      have hlen := G1.out
      subst hlen
      by_cases hq : q = b.size
      · have tq : ((q : Int) == (b.size : Int)) = true := by rw [beq_iff_eq]; omega
        have tq2 : (q == b.size) = true := by rw [beq_iff_eq]; omega
        have tq3 : ((q : Int) != (b.size : Int)) = false := by rw [bne, tq]; rfl
        have HC := Lib.hid (rgoodr_any ⟨x0, x1, ls⟩ A c wr HO.out.rd (HOKV.out _ _ _ HRW.out))
        simp only at HC
        obtain ⟨⟨p0', y0⟩, ⟨p1', y1⟩, ⟨p2', y2⟩⟩ := HP.out.cells
        cases hg : goodR ⟨x0, x1, ls⟩ with
        | false =>
          rw [hg] at HC
          have Hno := Lib.hid (HBAD.out ls q HRW.out (fun h => by rw [h.2] at hg; cases hg))
          clear hg hq
          go_wp2_with fail
          refine HC.out.mono ?_
          rintro e w5 ⟨rfl, b5⟩
          have k5 := hb.trans (b5.mono hb.size)
          obtain ⟨⟨d0, z0⟩, ⟨d1, z1⟩, ⟨d2, z2⟩⟩ := (HR.out.keep b5).cells
          clear b5 p0' y0 p1' y1 p2' y2
          go_wp2_with fail
          exact bodyPost_ret (v := .tuple #[rv 0 0 none 0 0, .int .i64 11]) (by simp [results, Try.results86, go_sem, d0, d1, d2]) rfl (DecP.no Hno.out (((k5.setCell (p := ⟨w.heap.size, 0, none⟩) (Nat.le_refl _) _).setCell (p := ⟨w.heap.size, 1, none⟩) (Nat.le_refl _) _).setCell (p := ⟨w.heap.size, 2, none⟩) (Nat.le_refl _) _))
        | true =>
          rw [hg] at HC
          have Hy := Lib.hid (HGOOD.out ls q HRW.out ⟨hq, hg⟩)
          clear hg hq
          go_wp2_with fail
          refine HC.out.mono ?_
          rintro e w5 ⟨rfl, b5⟩
          have k5 := hb.trans (b5.mono hb.size)
          have O5 := Lib.hid (HO.out.keep b5)
          obtain ⟨⟨d0, z0⟩, ⟨d1, z1⟩, ⟨d2, z2⟩⟩ := (HR.out.keep b5).cells
          clear p0' y0 p1' y1 p2' y2
          obtain ⟨⟨p0', y0⟩, ⟨p1', y1⟩, ⟨p2', y2⟩⟩ := (HP.out.keep b5).cells
          clear b5
          go_wp2_with fail
          exact bodyPost_ret (v := .tuple #[rv x0 x1 A ls.length c, .int .i64 0]) (by simp [results, Try.results86, go_sem, d0, d1, d2]) rfl (DecP.yes Hy.out (((O5.out.setCell (a := ⟨w.heap.size, 0, none⟩) (by show w.heap.size < P + 1; omega) _).setCell (a := ⟨w.heap.size, 1, none⟩) (by show w.heap.size < P + 1; omega) _).setCell (a := ⟨w.heap.size, 2, none⟩) (by show w.heap.size < P + 1; omega) _).rd HNA.out (((k5.setCell (p := ⟨w.heap.size, 0, none⟩) (Nat.le_refl _) _).setCell (p := ⟨w.heap.size, 1, none⟩) (Nat.le_refl _) _).setCell (p := ⟨w.heap.size, 2, none⟩) (Nat.le_refl _) _))
      · have tq : ((q : Int) == (b.size : Int)) = false := by rw [beq_eq_false_iff_ne]; omega
        have tq2 : (q == b.size) = false := by rw [beq_eq_false_iff_ne]; omega
        have tq3 : ((q : Int) != (b.size : Int)) = true := by rw [bne, tq]; rfl
        have Hno := Lib.hid (HBAD.out ls q HRW.out (fun h => hq h.1))
        obtain ⟨⟨d0, z0⟩, ⟨d1, z1⟩, ⟨d2, z2⟩⟩ := HR.out.cells
        clear hq
        go_wp2_with fail
        exact bodyPost_ret (v := .tuple #[rv 0 0 none 0 0, .int .i64 11]) (by simp [results, Try.results86, go_sem, d0, d1, d2]) rfl (DecP.no Hno.out (((hb.setCell (p := ⟨w.heap.size, 0, none⟩) (Nat.le_refl _) _).setCell (p := ⟨w.heap.size, 1, none⟩) (Nat.le_refl _) _).setCell (p := ⟨w.heap.size, 2, none⟩) (Nat.le_refl _) _))
theorem rdecr_any (b : ByteArray) (hsz : b.size ≤ 1000000) (w : World) : Calls Try.prog 86 #[.string b] w (DecP b w) := by
  by_cases h : 6 ≤ b.size
  · exact rdecr_main b h hsz w
  · exact rdecr_short b (by omega) w
end Go.Proofs.Ytmgpecomgffelaa
