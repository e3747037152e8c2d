/- Contracts: the sort of two rows of one value each. -/
import Derived.Test.YtmgpecomgffelaaCodK
import Derived.RegionTactic
import Derived.ChangeAlike
namespace Go.Proofs.Ytmgpecomgffelaa
open Go.RowKit
set_option linter.unusedVariables false
set_option maxRecDepth 100000 in
theorem cmpf1 (a b : Addr) (c d : Nat) (x y : Val) (z : Int) (hz : cmpV x y = z) (hne : z ≠ 0) (w : World) (ha : RdV w (some a) [x]) (hb : RdV w (some b) [y]) :
    Calls Try.prog 131 #[.slice (some a) 1 c, .slice (some b) 1 d, .func (.func 132) #[] #[]] w fun e w' => e = .returned (.int .i64 z) ∧ Below w.heap.size w w' := by
  have hst := run_sf
  have hcall := cmpv_any x y
  rw [hz] at hcall
  obtain ⟨_, e1, q0, q1, q2, q3⟩ := RdV.at ha 0 (by simp)
  cases e1
  obtain ⟨_, e1, r0, r1, r2, r3⟩ := RdV.at hb 0 (by simp)
  cases e1
  rw [Nat.zero_mul, add_zero'] at q0 q1 q2 q3 r0 r1 r2 r3
  simp only [List.getElem_cons_zero] at q0 q1 q2 q3 r0 r1 r2 r3
  have la := World.block_lt_of_cell? _ _ q0
  have lb := World.block_lt_of_cell? _ _ r0
  have t1 : (z == 0) = false := by rw [beq_eq_false_iff_ne]; exact hne
  have t2 : (z != 0) = true := by rw [bne, t1]; rfl
  have n1 : b.block ≠ w.heap.size := by omega
  have n2 : w.heap.size ≠ b.block := by omega
  have HB := Lib.hid (hb.keep ((Below.refl _ _).alloc (Nat.le_refl _) (.cells (va x.kind x.n x.f x.s) 24)) (Nat.le_refl _))
  obtain ⟨_, e1, s0, s1, s2, s3⟩ := RdV.at HB.out 0 (by simp)
  cases e1
  rw [Nat.zero_mul, add_zero'] at s0 s1 s2 s3
  simp only [List.getElem_cons_zero] at s0 s1 s2 s3
  clear ha hb hz hne HB
  go_enter Try.func131, Try.ntmps131
  go_wp2_with fail
  refine wp_loop_rounds 1 ?_
  rw [rounds_succ]
  go_wp2_with fail
  refine (hcall _).mono ?_
  rintro e w1 ⟨rfl, b1⟩
  have hbf : Below w.heap.size w w1 := (((Below.refl w.heap.size w).alloc (Nat.le_refl _) _).alloc (by simp) _).trans (b1.mono (by simp; omega))
  go_wp2_with fail
  go_ret
  exact ⟨rfl, hbf⟩
set_option maxRecDepth 100000 in
theorem cmpc1 (a b : Addr) (c d : Nat) (x y : Val) (z : Int) (hz : cmpV x y = z) (hne : z ≠ 0) (w : World) (ha : RdV w (some a) [x]) (hb : RdV w (some b) [y]) :
    Calls Try.prog 130 #[.slice (some a) 1 c, .slice (some b) 1 d] w fun e w' => e = .returned (.int .i64 z) ∧ Below w.heap.size w w' := by
  have hc := Lib.hid (cmpf1 a b c d x y z hz hne w ha hb)
  clear hz hne ha hb
  go_enter Try.func130, Try.ntmps130
  go_wp2_with fail
  refine hc.out.mono ?_
  rintro e w1 ⟨rfl, b1⟩
  go_wp2_with fail
  go_ret
  exact ⟨rfl, b1⟩

/-- Behind the exchange: the two rows have changed places. -/
def Swp (w : World) (g : Nat) (a0 a1 : Addr) (c0 c1 : Nat) (w' : World) : Prop :=
  w'.cell? ⟨g, 0, none⟩ = some (.slice (some a1) 1 c1) ∧ w'.cell? ⟨g, 1, none⟩ = some (.slice (some a0) 1 c0) ∧ (∀ a : Addr, a.block ≠ g → a.block < w.heap.size → w'.cell? a = w.cell? a) ∧ (∀ B0, B0 ≤ g → B0 ≤ w.heap.size → Below B0 w w')
theorem Swp.drew {w w' : World} {g : Nat} {a0 a1 : Addr} {c0 c1 : Nat} (h : Swp w g a0 a1 c0 c1 w') : Swp w g a0 a1 c0 c1 w'.drew := ⟨h.1, h.2.1, h.2.2.1, fun B0 h1 h2 => (h.2.2.2 B0 h1 h2).drew⟩
theorem Swp.mk' {w w5 : World} {g : Nat} {a0 a1 : Addr} {c0 c1 : Nat} (hb : Below w.heap.size w w5) (k0 : w5.cell? ⟨g, 0, none⟩ = some (.slice (some a0) 1 c0)) (k1 : w5.cell? ⟨g, 1, none⟩ = some (.slice (some a1) 1 c1)) :
    Swp w g a0 a1 c0 c1 ((w5.setCell ⟨g, 1, none⟩ (.slice (some a0) 1 c0)).setCell ⟨g, 0, none⟩ (.slice (some a1) 1 c1)) := by
  have e1 : (w5.setCell ⟨g, 1, none⟩ (.slice (some a0) 1 c0)).cell? ⟨g, 0, none⟩ = some (.slice (some a0) 1 c0) := (World.cell?_setCell_other _ _ _ _ (fun e => by cases e)).trans k0
  have e2 : (w5.setCell ⟨g, 1, none⟩ (.slice (some a0) 1 c0)).cell? ⟨g, 1, none⟩ = some (.slice (some a0) 1 c0) := World.cell?_setCell_same _ _ _ k1
  refine ⟨World.cell?_setCell_same _ _ _ e1, (World.cell?_setCell_other _ _ _ _ (fun e => by cases e)).trans e2, fun a hne hlt => ?_, fun B0 h1 h2 => ?_⟩
  · refine (World.cell?_setCell_other _ _ _ _ (fun e => by subst e; exact hne rfl)).trans ((World.cell?_setCell_other _ _ _ _ (fun e => by subst e; exact hne rfl)).trans (hb.cell hlt))
  · exact ((hb.mono h2).setCell (p := ⟨g, 1, none⟩) h1 _).setCell (p := ⟨g, 0, none⟩) h1 _
set_option maxRecDepth 100000 in
set_option maxHeartbeats 4000000 in
theorem ins2 (g : Nat) (c : Nat) (a0 a1 : Addr) (c0 c1 : Nat) (x0 x1 : Val) (z : Int) (hz : cmpV x1 x0 = z) (hne : z < 0) (w : World) (h0 : w.cell? ⟨g, 0, none⟩ = some (.slice (some a0) 1 c0)) (h1 : w.cell? ⟨g, 1, none⟩ = some (.slice (some a1) 1 c1)) (f0 : w.frozen? ⟨g, 0, none⟩ = false) (f1 : w.frozen? ⟨g, 1, none⟩ = false) (r0 : RdV w (some a0) [x0]) (r1 : RdV w (some a1) [x1]) :
    Calls Try.prog 149 #[.slice (some ⟨g, 0, none⟩) 2 c, .int .i64 0, .int .i64 2, .func (.func 130) #[] #[]] w fun e w' => e = .returned (.tuple #[]) ∧ Swp w g a0 a1 c0 c1 w' := by
  have HC := Lib.hid (fun w => cmpc1 a1 a0 c1 c0 x1 x0 z hz (by omega) w)
  have t1 : decide (z < 0) = true := decide_eq_true hne
  have hwz : IntKind.i64.wrap 0 = 0 := rfl
  have R0 := Lib.hid r0
  have R1 := Lib.hid r1
  have H0 := Lib.hid h0
  have H1 := Lib.hid h1
  have F0 := Lib.hid f0
  have F1 := Lib.hid f1
  clear hz hne r0 r1 h0 h1 f0 f1
  go_enter Try.func149, Try.ntmps149
  go_wp2_with fail
  go_loopw [8] (fun i wr => (i = .int .i64 1 ∧ wr = w) ∨ (i = .int .i64 2 ∧ Swp w g a0 a1 c0 c1 wr)) (fun i _ => (2 - intOf i).toNat)
  case atStart => exact Or.inl ⟨rfl, rfl⟩
  case round =>
    rcases hrel with ⟨rfl, rfl⟩ | ⟨rfl, hsw⟩
    · obtain ⟨wo, rfl⟩ : ∃ wo : World, wo = wr := ⟨_, rfl⟩
      go_wp2_with fail
      go_loopw [9] (fun j wr => (j = .int .i64 1 ∧ wr = wo) ∨ (j = .int .i64 0 ∧ Swp wo g a0 a1 c0 c1 wr)) (fun j _ => (intOf j).toNat)
      case atStart => exact Or.inl ⟨rfl, rfl⟩
      case round =>
        rcases hrel with ⟨rfl, rfl⟩ | ⟨rfl, hsw⟩
        · have h0 := H0.out
          have h1 := H1.out
          go_wp2_with fail
          refine wp_region_held_drew (S := (fun w' => Below wr.heap.size wr w' ∧ w'.cell? ⟨g, 0, none⟩ = some (.slice (some a0) 1 c0) ∧ w'.cell? ⟨g, 1, none⟩ = some (.slice (some a1) 1 c1))) (by kernel_rfl) (⟨(Below.refl _ _).drew, h0, h1⟩) (fun hHeld => ?_)
          (refine wpAnyH_take (i := 0) (oi := { dst := some 18, op := Go.Op.move (Go.Operand.tmp 9), type := 3, pos := _, after := _, guard := none }) (v := ?_) rfl (by kernel_rfl) (by kernel_rfl) (by kernel_rfl) (fun _ _ _ h => h) (Or.inl ⟨by rfl, ?_⟩) (by assumption) ?_; rotate_left; (intro w hSw; (try dsimp only at hSw); go_simp; try with_reducible rfl); try simp only [Act.put, List.setIfInBounds_toArray, List.set_cons_zero, List.set_cons_succ])
          (refine wpAnyH_take (i := 1) (oi := { dst := some 19, op := Go.Op.move (Go.Operand.tmp 1), type := 3, pos := _, after := _, guard := none }) (v := ?_) rfl (by kernel_rfl) (by kernel_rfl) (by kernel_rfl) (fun _ _ _ h => h) (Or.inl ⟨by rfl, ?_⟩) (by assumption) ?_; rotate_left; (intro w hSw; (try dsimp only at hSw); go_simp; try with_reducible rfl); try simp only [Act.put, List.setIfInBounds_toArray, List.set_cons_zero, List.set_cons_succ])
          (refine wpAnyH_take (i := 2) (oi := { dst := some 20, op := Go.Op.binOp Go.BinOp.gtr 3 (Go.Operand.tmp 18) (Go.Operand.tmp 19) 3, type := 4, pos := _, after := _, guard := none }) (v := ?_) rfl (by kernel_rfl) (by kernel_rfl) (by kernel_rfl) (fun _ _ _ h => h) (Or.inl ⟨by rfl, ?_⟩) (by assumption) ?_; rotate_left; (intro w hSw; (try dsimp only at hSw); go_simp; try with_reducible rfl); try simp only [Act.put, List.setIfInBounds_toArray, List.set_cons_zero, List.set_cons_succ])
          (refine wpAnyH_take (i := 3) (oi := { dst := some 21, op := Go.Op.move (Go.Operand.tmp 20), type := 4, pos := _, after := _, guard := none }) (v := ?_) rfl (by kernel_rfl) (by kernel_rfl) (by kernel_rfl) (fun _ _ _ h => h) (Or.inl ⟨by rfl, ?_⟩) (by assumption) ?_; rotate_left; (intro w hSw; (try dsimp only at hSw); go_simp; try with_reducible rfl); try simp only [Act.put, List.setIfInBounds_toArray, List.set_cons_zero, List.set_cons_succ])
          (refine wpAnyH_take (i := 4) (oi := { dst := some 22, op := Go.Op.move (Go.Operand.tmp 3), type := 142, pos := _, after := _, guard := some (3, true) }) (v := ?_) rfl (by kernel_rfl) (by kernel_rfl) (by kernel_rfl) (fun _ _ _ h => h) (Or.inl ⟨by rfl, ?_⟩) (by assumption) ?_; rotate_left; (intro w hSw; (try dsimp only at hSw); go_simp; try with_reducible rfl); try simp only [Act.put, List.setIfInBounds_toArray, List.set_cons_zero, List.set_cons_succ])
          (refine wpAnyH_take (i := 5) (oi := { dst := some 23, op := Go.Op.move (Go.Operand.tmp 0), type := 94, pos := _, after := _, guard := some (3, true) }) (v := ?_) rfl (by kernel_rfl) (by kernel_rfl) (by kernel_rfl) (fun _ _ _ h => h) (Or.inl ⟨by rfl, ?_⟩) (by assumption) ?_; rotate_left; (intro w hSw; (try dsimp only at hSw); go_simp; try with_reducible rfl); try simp only [Act.put, List.setIfInBounds_toArray, List.set_cons_zero, List.set_cons_succ])
          (refine wpAnyH_take (i := 6) (oi := { dst := some 24, op := Go.Op.move (Go.Operand.tmp 9), type := 3, pos := _, after := _, guard := some (3, true) }) (v := ?_) rfl (by kernel_rfl) (by kernel_rfl) (by kernel_rfl) (fun _ _ _ h => h) (Or.inl ⟨by rfl, ?_⟩) (by assumption) ?_; rotate_left; (intro w hSw; (try dsimp only at hSw); go_simp; try with_reducible rfl); try simp only [Act.put, List.setIfInBounds_toArray, List.set_cons_zero, List.set_cons_succ])
          (refine wpAnyH_take (i := 7) (oi := { dst := some 25, op := Go.Op.indexAddr 94 (Go.Operand.tmp 23) (Go.Operand.tmp 24), type := 0, pos := _, after := _, guard := some (3, true) }) (v := ?_) rfl (by kernel_rfl) (by kernel_rfl) (by kernel_rfl) (fun _ _ _ h => h) (Or.inl ⟨by rfl, ?_⟩) (by assumption) ?_; rotate_left; (intro w hSw; (try dsimp only at hSw); go_simp; try with_reducible rfl); try simp only [Act.put, List.setIfInBounds_toArray, List.set_cons_zero, List.set_cons_succ])
          (refine wpAnyH_take (i := 8) (oi := { dst := some 26, op := Go.Op.load 39 (Go.Operand.tmp 25), type := 39, pos := _, after := _, guard := some (3, true) }) (v := ?_) rfl (by kernel_rfl) (by kernel_rfl) (by kernel_rfl) (fun _ _ _ h => h) (Or.inl ⟨by rfl, ?_⟩) (by assumption) ?_; rotate_left; (intro w hSw; (try dsimp only at hSw); go_simp; try with_reducible rfl); try simp only [Act.put, List.setIfInBounds_toArray, List.set_cons_zero, List.set_cons_succ])
          (refine wpAnyH_take (i := 9) (oi := { dst := some 27, op := Go.Op.move (Go.Operand.tmp 0), type := 94, pos := _, after := _, guard := some (3, true) }) (v := ?_) rfl (by kernel_rfl) (by kernel_rfl) (by kernel_rfl) (fun _ _ _ h => h) (Or.inl ⟨by rfl, ?_⟩) (by assumption) ?_; rotate_left; (intro w hSw; (try dsimp only at hSw); go_simp; try with_reducible rfl); try simp only [Act.put, List.setIfInBounds_toArray, List.set_cons_zero, List.set_cons_succ])
          (refine wpAnyH_take (i := 10) (oi := { dst := some 28, op := Go.Op.move (Go.Operand.tmp 9), type := 3, pos := _, after := _, guard := some (3, true) }) (v := ?_) rfl (by kernel_rfl) (by kernel_rfl) (by kernel_rfl) (fun _ _ _ h => h) (Or.inl ⟨by rfl, ?_⟩) (by assumption) ?_; rotate_left; (intro w hSw; (try dsimp only at hSw); go_simp; try with_reducible rfl); try simp only [Act.put, List.setIfInBounds_toArray, List.set_cons_zero, List.set_cons_succ])
          (refine wpAnyH_take (i := 11) (oi := { dst := some 29, op := Go.Op.binOp Go.BinOp.sub 3 (Go.Operand.tmp 28) (Go.Operand.const (Go.Value.int Go.IntKind.i64 1)) 3, type := 3, pos := _, after := _, guard := some (3, true) }) (v := ?_) rfl (by kernel_rfl) (by kernel_rfl) (by kernel_rfl) (fun _ _ _ h => h) (Or.inl ⟨by rfl, ?_⟩) (by assumption) ?_; rotate_left; (intro w hSw; (try dsimp only at hSw); go_simp; try with_reducible rfl); try simp only [Act.put, List.setIfInBounds_toArray, List.set_cons_zero, List.set_cons_succ])
          (refine wpAnyH_take (i := 12) (oi := { dst := some 30, op := Go.Op.indexAddr 94 (Go.Operand.tmp 27) (Go.Operand.tmp 29), type := 0, pos := _, after := _, guard := some (3, true) }) (v := ?_) rfl (by kernel_rfl) (by kernel_rfl) (by kernel_rfl) (fun _ _ _ h => h) (Or.inl ⟨by rfl, ?_⟩) (by assumption) ?_; rotate_left; (intro w hSw; (try dsimp only at hSw); go_simp; try with_reducible rfl); try simp only [Act.put, List.setIfInBounds_toArray, List.set_cons_zero, List.set_cons_succ])
          (refine wpAnyH_take (i := 13) (oi := { dst := some 31, op := Go.Op.load 39 (Go.Operand.tmp 30), type := 39, pos := _, after := _, guard := some (3, true) }) (v := ?_) rfl (by kernel_rfl) (by kernel_rfl) (by kernel_rfl) (fun _ _ _ h => h) (Or.inl ⟨by rfl, ?_⟩) (by assumption) ?_; rotate_left; (intro w hSw; (try dsimp only at hSw); go_simp; try with_reducible rfl); try simp only [Act.put, List.setIfInBounds_toArray, List.set_cons_zero, List.set_cons_succ])
          refine wpAnyH_ready (rs := [14]) (by kernel_rfl) (by simp) ?_
          refine AllReadyH.cons (o := { dst := some 32, op := Go.Op.call { callee := Go.Callee.value (Go.Operand.tmp 22), args := #[Go.Operand.tmp 26, Go.Operand.tmp 31], argTypes := #[39, 39] }, type := 3, pos := _, after := _, guard := some (3, true) }) rfl (fun K hK => ?_) AllReadyH.nil
          go_simp
          refine (HC.out _ (R1.out.keep (And.left hHeld) (Nat.le_refl _)) (R0.out.keep (And.left hHeld) (Nat.le_refl _))).mono ?_
          rintro e w5 ⟨rfl, b5⟩
          go_wp2_with fail
          refine hK.out _ _ ?_ (fun hHeld2 => ?_)
          · (go_split_ands; exact ⟨Below.trans (by assumption) (b5.mono (Below.size (by assumption))), kc b5 (by assumption), kc b5 (by assumption)⟩)
          clear hK K hHeld
          have hHeld := hHeld2
          clear hHeld2
          try simp only [Act.put, List.setIfInBounds_toArray, List.set_cons_zero, List.set_cons_succ]
          (refine wpAnyH_take (i := 15) (oi := { dst := some 33, op := Go.Op.binOp Go.BinOp.lss 3 (Go.Operand.tmp 32) (Go.Operand.const (Go.Value.int Go.IntKind.i64 0)) 3, type := 4, pos := _, after := _, guard := some (3, true) }) (v := ?_) rfl (by kernel_rfl) (by kernel_rfl) (by kernel_rfl) (fun _ _ _ h => h) (Or.inl ⟨by rfl, ?_⟩) (by assumption) ?_; rotate_left; (intro w hSw; (try dsimp only at hSw); go_simp; try with_reducible rfl); try simp only [Act.put, List.setIfInBounds_toArray, List.set_cons_zero, List.set_cons_succ])
          (refine wpAnyH_take (i := 16) (oi := { dst := some 34, op := Go.Op.pick (Go.Operand.tmp 21) (Go.Operand.tmp 33) (Go.Operand.const (Go.Value.bool false)), type := 4, pos := _, after := _, guard := none }) (v := ?_) rfl (by kernel_rfl) (by kernel_rfl) (by kernel_rfl) (fun _ _ _ h => h) (Or.inl ⟨by rfl, ?_⟩) (by assumption) ?_; rotate_left; (intro w hSw; (try dsimp only at hSw); go_simp; try with_reducible rfl); try simp only [Act.put, List.setIfInBounds_toArray, List.set_cons_zero, List.set_cons_succ])
          refine wpAnyH_done (by kernel_rfl) ?_ _

          have hb := And.left hHeld
          have k0 := And.left (And.right hHeld)
          have k1 := And.right (And.right hHeld)
          have lt0 := World.block_lt_of_cell? _ _ h0
          have z0 : w5.frozen? ⟨g, 0, none⟩ = false := (hb.frozen (p := ⟨g, 0, none⟩) lt0).trans F0.out
          have z1 : w5.frozen? ⟨g, 1, none⟩ = false := (hb.frozen (p := ⟨g, 1, none⟩) lt0).trans F1.out
          clear h0 h1
          go_wp2_with fail
          have HSW := Lib.hid (Swp.mk' hb k0 k1)
          go_region
          go_wp2_with fail
          exact ⟨Or.inr ⟨rfl, HSW.out.drew⟩, by simp [intOf]⟩
        · go_wp2_with fail
          refine wp_region_held_drew (S := (fun w' => Swp wo g a0 a1 c0 c1 w')) (by kernel_rfl) (hsw.drew) (fun hHeld => ?_)
          (refine wpAnyH_take (i := 0) (oi := { dst := some 18, op := Go.Op.move (Go.Operand.tmp 9), type := 3, pos := _, after := _, guard := none }) (v := ?_) rfl (by kernel_rfl) (by kernel_rfl) (by kernel_rfl) (fun _ _ _ h => h) (Or.inl ⟨by rfl, ?_⟩) (by assumption) ?_; rotate_left; (intro w hSw; (try dsimp only at hSw); go_simp; try with_reducible rfl); try simp only [Act.put, List.setIfInBounds_toArray, List.set_cons_zero, List.set_cons_succ])
          (refine wpAnyH_take (i := 1) (oi := { dst := some 19, op := Go.Op.move (Go.Operand.tmp 1), type := 3, pos := _, after := _, guard := none }) (v := ?_) rfl (by kernel_rfl) (by kernel_rfl) (by kernel_rfl) (fun _ _ _ h => h) (Or.inl ⟨by rfl, ?_⟩) (by assumption) ?_; rotate_left; (intro w hSw; (try dsimp only at hSw); go_simp; try with_reducible rfl); try simp only [Act.put, List.setIfInBounds_toArray, List.set_cons_zero, List.set_cons_succ])
          (refine wpAnyH_take (i := 2) (oi := { dst := some 20, op := Go.Op.binOp Go.BinOp.gtr 3 (Go.Operand.tmp 18) (Go.Operand.tmp 19) 3, type := 4, pos := _, after := _, guard := none }) (v := ?_) rfl (by kernel_rfl) (by kernel_rfl) (by kernel_rfl) (fun _ _ _ h => h) (Or.inl ⟨by rfl, ?_⟩) (by assumption) ?_; rotate_left; (intro w hSw; (try dsimp only at hSw); go_simp; try with_reducible rfl); try simp only [Act.put, List.setIfInBounds_toArray, List.set_cons_zero, List.set_cons_succ])
          (refine wpAnyH_take (i := 3) (oi := { dst := some 21, op := Go.Op.move (Go.Operand.tmp 20), type := 4, pos := _, after := _, guard := none }) (v := ?_) rfl (by kernel_rfl) (by kernel_rfl) (by kernel_rfl) (fun _ _ _ h => h) (Or.inl ⟨by rfl, ?_⟩) (by assumption) ?_; rotate_left; (intro w hSw; (try dsimp only at hSw); go_simp; try with_reducible rfl); try simp only [Act.put, List.setIfInBounds_toArray, List.set_cons_zero, List.set_cons_succ])
          (refine wpAnyH_take (i := 4) (oi := { dst := some 22, op := Go.Op.move (Go.Operand.tmp 3), type := 142, pos := _, after := _, guard := some (3, true) }) (v := undef) rfl (by kernel_rfl) (by kernel_rfl) (by kernel_rfl) (fun _ _ _ h => h) (Or.inr ⟨by rfl, rfl⟩) (by assumption) ?_; try simp only [Act.put, List.setIfInBounds_toArray, List.set_cons_zero, List.set_cons_succ])
          (refine wpAnyH_take (i := 5) (oi := { dst := some 23, op := Go.Op.move (Go.Operand.tmp 0), type := 94, pos := _, after := _, guard := some (3, true) }) (v := undef) rfl (by kernel_rfl) (by kernel_rfl) (by kernel_rfl) (fun _ _ _ h => h) (Or.inr ⟨by rfl, rfl⟩) (by assumption) ?_; try simp only [Act.put, List.setIfInBounds_toArray, List.set_cons_zero, List.set_cons_succ])
          (refine wpAnyH_take (i := 6) (oi := { dst := some 24, op := Go.Op.move (Go.Operand.tmp 9), type := 3, pos := _, after := _, guard := some (3, true) }) (v := undef) rfl (by kernel_rfl) (by kernel_rfl) (by kernel_rfl) (fun _ _ _ h => h) (Or.inr ⟨by rfl, rfl⟩) (by assumption) ?_; try simp only [Act.put, List.setIfInBounds_toArray, List.set_cons_zero, List.set_cons_succ])
          (refine wpAnyH_take (i := 7) (oi := { dst := some 25, op := Go.Op.indexAddr 94 (Go.Operand.tmp 23) (Go.Operand.tmp 24), type := 0, pos := _, after := _, guard := some (3, true) }) (v := undef) rfl (by kernel_rfl) (by kernel_rfl) (by kernel_rfl) (fun _ _ _ h => h) (Or.inr ⟨by rfl, rfl⟩) (by assumption) ?_; try simp only [Act.put, List.setIfInBounds_toArray, List.set_cons_zero, List.set_cons_succ])
          (refine wpAnyH_take (i := 8) (oi := { dst := some 26, op := Go.Op.load 39 (Go.Operand.tmp 25), type := 39, pos := _, after := _, guard := some (3, true) }) (v := undef) rfl (by kernel_rfl) (by kernel_rfl) (by kernel_rfl) (fun _ _ _ h => h) (Or.inr ⟨by rfl, rfl⟩) (by assumption) ?_; try simp only [Act.put, List.setIfInBounds_toArray, List.set_cons_zero, List.set_cons_succ])
          (refine wpAnyH_take (i := 9) (oi := { dst := some 27, op := Go.Op.move (Go.Operand.tmp 0), type := 94, pos := _, after := _, guard := some (3, true) }) (v := undef) rfl (by kernel_rfl) (by kernel_rfl) (by kernel_rfl) (fun _ _ _ h => h) (Or.inr ⟨by rfl, rfl⟩) (by assumption) ?_; try simp only [Act.put, List.setIfInBounds_toArray, List.set_cons_zero, List.set_cons_succ])
          (refine wpAnyH_take (i := 10) (oi := { dst := some 28, op := Go.Op.move (Go.Operand.tmp 9), type := 3, pos := _, after := _, guard := some (3, true) }) (v := undef) rfl (by kernel_rfl) (by kernel_rfl) (by kernel_rfl) (fun _ _ _ h => h) (Or.inr ⟨by rfl, rfl⟩) (by assumption) ?_; try simp only [Act.put, List.setIfInBounds_toArray, List.set_cons_zero, List.set_cons_succ])
          (refine wpAnyH_take (i := 11) (oi := { dst := some 29, op := Go.Op.binOp Go.BinOp.sub 3 (Go.Operand.tmp 28) (Go.Operand.const (Go.Value.int Go.IntKind.i64 1)) 3, type := 3, pos := _, after := _, guard := some (3, true) }) (v := undef) rfl (by kernel_rfl) (by kernel_rfl) (by kernel_rfl) (fun _ _ _ h => h) (Or.inr ⟨by rfl, rfl⟩) (by assumption) ?_; try simp only [Act.put, List.setIfInBounds_toArray, List.set_cons_zero, List.set_cons_succ])
          (refine wpAnyH_take (i := 12) (oi := { dst := some 30, op := Go.Op.indexAddr 94 (Go.Operand.tmp 27) (Go.Operand.tmp 29), type := 0, pos := _, after := _, guard := some (3, true) }) (v := undef) rfl (by kernel_rfl) (by kernel_rfl) (by kernel_rfl) (fun _ _ _ h => h) (Or.inr ⟨by rfl, rfl⟩) (by assumption) ?_; try simp only [Act.put, List.setIfInBounds_toArray, List.set_cons_zero, List.set_cons_succ])
          (refine wpAnyH_take (i := 13) (oi := { dst := some 31, op := Go.Op.load 39 (Go.Operand.tmp 30), type := 39, pos := _, after := _, guard := some (3, true) }) (v := undef) rfl (by kernel_rfl) (by kernel_rfl) (by kernel_rfl) (fun _ _ _ h => h) (Or.inr ⟨by rfl, rfl⟩) (by assumption) ?_; try simp only [Act.put, List.setIfInBounds_toArray, List.set_cons_zero, List.set_cons_succ])
          (refine wpAnyH_take (i := 14) (oi := { dst := some 32, op := Go.Op.call { callee := Go.Callee.value (Go.Operand.tmp 22), args := #[Go.Operand.tmp 26, Go.Operand.tmp 31], argTypes := #[39, 39] }, type := 3, pos := _, after := _, guard := some (3, true) }) (v := undef) rfl (by kernel_rfl) (by kernel_rfl) (by kernel_rfl) (fun _ _ _ h => h) (Or.inr ⟨by rfl, rfl⟩) (by assumption) ?_; try simp only [Act.put, List.setIfInBounds_toArray, List.set_cons_zero, List.set_cons_succ])
          (refine wpAnyH_take (i := 15) (oi := { dst := some 33, op := Go.Op.binOp Go.BinOp.lss 3 (Go.Operand.tmp 32) (Go.Operand.const (Go.Value.int Go.IntKind.i64 0)) 3, type := 4, pos := _, after := _, guard := some (3, true) }) (v := undef) rfl (by kernel_rfl) (by kernel_rfl) (by kernel_rfl) (fun _ _ _ h => h) (Or.inr ⟨by rfl, rfl⟩) (by assumption) ?_; try simp only [Act.put, List.setIfInBounds_toArray, List.set_cons_zero, List.set_cons_succ])
          (refine wpAnyH_take (i := 16) (oi := { dst := some 34, op := Go.Op.pick (Go.Operand.tmp 21) (Go.Operand.tmp 33) (Go.Operand.const (Go.Value.bool false)), type := 4, pos := _, after := _, guard := none }) (v := ?_) rfl (by kernel_rfl) (by kernel_rfl) (by kernel_rfl) (fun _ _ _ h => h) (Or.inl ⟨by rfl, ?_⟩) (by assumption) ?_; rotate_left; (intro w hSw; (try dsimp only at hSw); go_simp; try with_reducible rfl); try simp only [Act.put, List.setIfInBounds_toArray, List.set_cons_zero, List.set_cons_succ])
          refine wpAnyH_done (by kernel_rfl) ?_ _

          go_wp2_with fail
          exact ⟨Or.inr ⟨rfl, hHeld⟩, by simp [intOf]⟩
    · go_wp2_with fail
      go_end0
      exact ⟨rfl, hsw⟩

set_option maxRecDepth 100000 in
theorem stable2 (g : Nat) (c : Nat) (a0 a1 : Addr) (c0 c1 : Nat) (x0 x1 : Val) (z : Int) (hz : cmpV x1 x0 = z) (hne : z < 0) (w : World) (h0 : w.cell? ⟨g, 0, none⟩ = some (.slice (some a0) 1 c0)) (h1 : w.cell? ⟨g, 1, none⟩ = some (.slice (some a1) 1 c1)) (f0 : w.frozen? ⟨g, 0, none⟩ = false) (f1 : w.frozen? ⟨g, 1, none⟩ = false) (r0 : RdV w (some a0) [x0]) (r1 : RdV w (some a1) [x1]) :
    Calls Try.prog 142 #[.slice (some ⟨g, 0, none⟩) 2 c, .int .i64 2, .func (.func 130) #[] #[]] w fun e w' => e = .returned (.tuple #[]) ∧ Swp w g a0 a1 c0 c1 w' := by
  have HI := Lib.hid (ins2 g c a0 a1 c0 c1 x0 x1 z hz hne w h0 h1 f0 f1 r0 r1)
  clear hz hne h0 h1 f0 f1 r0 r1
  go_enter Try.func142, Try.ntmps142
  go_wp2_with fail
  refine wp_loop_rounds 1 ?_
  rw [rounds_succ]
  go_wp2_with fail
  refine HI.out.mono ?_
  rintro e w1 ⟨rfl, hsw⟩
  go_wp2_with fail
  refine wp_loop_rounds 1 ?_
  rw [rounds_succ]
  go_wp2_with fail
  go_end0
  exact ⟨rfl, hsw⟩
set_option maxRecDepth 100000 in
theorem sort2 (g : Nat) (c : Nat) (a0 a1 : Addr) (c0 c1 : Nat) (x0 x1 : Val) (z : Int) (hz : cmpV x1 x0 = z) (hne : z < 0) (w : World) (h0 : w.cell? ⟨g, 0, none⟩ = some (.slice (some a0) 1 c0)) (h1 : w.cell? ⟨g, 1, none⟩ = some (.slice (some a1) 1 c1)) (f0 : w.frozen? ⟨g, 0, none⟩ = false) (f1 : w.frozen? ⟨g, 1, none⟩ = false) (r0 : RdV w (some a0) [x0]) (r1 : RdV w (some a1) [x1]) :
    Calls Try.prog 129 #[.slice (some ⟨g, 0, none⟩) 2 c, .func (.func 130) #[] #[]] w fun e w' => e = .returned (.tuple #[]) ∧ Swp w g a0 a1 c0 c1 w' := by
  have HI := Lib.hid (stable2 g c a0 a1 c0 c1 x0 x1 z hz hne w h0 h1 f0 f1 r0 r1)
  clear hz hne h0 h1 f0 f1 r0 r1
  go_enter Try.func129, Try.ntmps129
  go_wp2_with fail
  refine HI.out.mono ?_
  rintro e w1 ⟨rfl, hsw⟩
  go_wp2_with fail
  go_end0
  exact ⟨rfl, hsw⟩
theorem fresh_one {w : World} {B : Nat} {A : Option Addr} {c : Nat} {x : Val} (h : Fresh w B 24 4 (.slice A 1 c) 1 ([x].flatMap Val.cells)) : ∃ k, A = some ⟨k, 0, none⟩ ∧ w.ownsRow B 24 4 (.slice (some ⟨k, 0, none⟩) 1 c) 1 ([x].flatMap Val.cells) := by
  rcases h with h | ⟨h, _⟩
  · rcases h.2 with ⟨_, h0⟩ | ⟨k, cap, cur, hv, _⟩
    · omega
    · injection hv with a b c
      subst a
      exact ⟨k, rfl, h⟩
  · omega
/-- Two rows of one value each, the second ahead: what the sort needs of them. -/
theorem own_two {w : World} {B : Nat} {v : Value} {x0 x1 : Val} (h : OwnRows w B v [[x0], [x1]]) : ∃ (g c k0 k1 c0 c1 : Nat), v = .slice (some ⟨g, 0, none⟩) 2 c ∧ B ≤ g ∧ g < w.heap.size ∧
    w.cell? ⟨g, 0, none⟩ = some (.slice (some ⟨k0, 0, none⟩) 1 c0) ∧ w.cell? ⟨g, 1, none⟩ = some (.slice (some ⟨k1, 0, none⟩) 1 c1) ∧ w.frozen? ⟨g, 0, none⟩ = false ∧ w.frozen? ⟨g, 1, none⟩ = false ∧
    RdV w (some ⟨k0, 0, none⟩) [x0] ∧ RdV w (some ⟨k1, 0, none⟩) [x1] ∧ k0 ≠ g ∧ k1 ≠ g ∧ k0 < w.heap.size ∧ k1 < w.heap.size := by
  obtain ⟨ps, e, ho, hp⟩ := h
  have hps : ps.length = 2 := by
    have := congrArg List.length e
    simpa using this.symm
  obtain ⟨p0, p1, rfl⟩ : ∃ p0 p1, ps = [p0, p1] := by
    match ps, hps with
    | [a, b], _ => exact ⟨a, b, rfl⟩
  · skip
    simp only [List.map_cons, List.map_nil, List.cons.injEq, and_true] at e
    obtain ⟨e0, e1⟩ := e
    obtain ⟨⟨A0, c0⟩, l0⟩ := p0
    obtain ⟨⟨A1, c1⟩, l1⟩ := p1
    simp only at e0 e1
    subst e0
    subst e1
    obtain ⟨k0, h0, o0⟩ := fresh_one (hp (⟨A0, c0⟩, [x0]) (by simp))
    obtain ⟨k1, h1, o1⟩ := fresh_one (hp (⟨A1, c1⟩, [x1]) (by simp))
    subst h0
    subst h1
    rcases ho.2 with ⟨hv, hn⟩ | ⟨g, cap, cur, hv, hb, hc, _⟩
    · simp at hn
    · subst hv
      have hfr := fun j => ho.frozenAt j
      refine ⟨g, cap, k0, k1, c0, c1, rfl, hb, (Array.getElem?_eq_some_iff.1 hc).1, ho.cells rfl 0 _ rfl, ho.cells rfl 1 _ rfl, ?_, ?_, RdL.of_own (l := [x0]) Val.cells_len (by decide) o0, RdL.of_own (l := [x1]) Val.cells_len (by decide) o1, ?_, ?_, (o0.lt k0 rfl).2, (o1.lt k1 rfl).2⟩
      · exact hfr 0
      · exact hfr 1
      · exact fun e => own_type_ne (by decide) o0 ho k0 rfl (by rw [e]; rfl)
      · exact fun e => own_type_ne (by decide) o1 ho k1 rfl (by rw [e]; rfl)
theorem rd_swp {w w' : World} {k : Nat} {x : Val} (h : RdV w (some ⟨k, 0, none⟩) [x]) {g : Nat} (hk : k ≠ g) (ho : ∀ a : Addr, a.block ≠ g → a.block < w.heap.size → w'.cell? a = w.cell? a) : RdV w' (some ⟨k, 0, none⟩) [x] := fun i hi => by
  obtain ⟨ad, e, hc⟩ := h i hi
  cases e
  refine ⟨_, rfl, fun j hj => ?_⟩
  have hcj := hc j hj
  have hlt := World.block_lt_of_cell? _ _ hcj
  exact (ho _ (by rw [add_block]; exact hk) hlt).trans hcj
set_option maxRecDepth 100000 in
set_option maxHeartbeats 1000000 in
theorem rows2 (P : Option Addr) (cp : Nat) (x0 x1 : Val) (z : Int) (hz : cmpV x1 x0 = z) (hne : z < 0) (w : World) (h : RdRows w P [[x0], [x1]]) :
    Calls Try.prog 88 #[.slice P 2 cp] w fun e w' => ∃ A c, e = .returned (.slice A 2 c) ∧ RdRows w' A [[x1], [x0]] ∧ Below w.heap.size w w' := by
  obtain ⟨ls, hls⟩ : ∃ ls : List (List Val), ls = [[x0], [x1]] := ⟨_, rfl⟩
  rw [← hls] at h
  have hlen : ls.length = 2 := by rw [hls]; rfl
  have hl1 : ∀ i (hi : i < ls.length), ls[i].length = 1 := by
    subst hls
    intro i hi
    rcases (by simp at hi; omega : i = 0 ∨ i = 1) with rfl | rfl <;> rfl
  have H := Lib.hid h
  have HS := Lib.hid (fun g c a0 a1 c0 c1 w => sort2 g c a0 a1 c0 c1 x0 x1 z hz hne w)
  have Hls := Lib.hid hls
  have Hlen := Lib.hid hlen
  have Hl1 := Lib.hid hl1
  clear h hz hne hls hlen hl1
  go_enter Try.func88, Try.ntmps88
  go_wp2_with fail
  go_loopw [3, 8] (fun v i wr => ∃ k : Nat, k ≤ 2 ∧ i = .int .i64 k ∧ OwnRows wr w.heap.size v (ls.take k) ∧ Below w.heap.size w wr) (fun _ i _ => 2 - (intOf i).toNat)
  case atStart => exact ⟨0, by omega, rfl, by rw [List.take_zero]; exact OwnRows.nil _ _, Below.refl _ _⟩
  case round =>
    obtain ⟨k, hk, rfl, hO, hb⟩ := hrel
    by_cases hlt : k < 2
    · have hkl : k < ls.length := by have := Hlen.out; omega
      obtain ⟨ad, s, rfl, hc, hr, hn⟩ := (H.out.keep (hb.mono (Nat.le_refl _))) k hkl
      have hstep := List.take_succ_eq_append_getElem hkl
      have hlk := Hl1.out k hkl
      have htl : (ls.take k).length = k := by rw [List.length_take]; omega
      have Htl := Lib.hid htl
      obtain ⟨A0, c0, rfl, hn0⟩ := hO.slice' k htl
      have HO := Lib.hid hO
      have hcl := clone_row s.A s.c ls[k] wr hr hn (by omega)
      generalize ls[k] = l at *
      have HC := Lib.hid hcl
      have Hs := Lib.hid hstep
      have Hlk := Lib.hid hlk
      clear hr hn hcl hstep hlk hO hn0 htl
      go_wp2_with fail
      refine HC.out.mono ?_
      rintro e w1 ⟨A', c', rfl, hF, hn', b1⟩
      have hb1 := hb.trans (b1.mono hb.size)
      have HO1 := Lib.hid (HO.out.keep b1)
      have HF := Lib.hid ((hF.imp (fun h => own_mono h hb.size) id : Fresh w1 w.heap.size 24 4 (.slice A' l.length c') l.length (l.flatMap Val.cells)))
      clear hF hn'
      go_wp2_with (at_builtin; go_loud (refine wl_own_row rfl _ _ rfl w.heap.size _ _ rfl (HO1.out.alloc _) (by have := hb1.size; simp; omega) _ c' A' l _ rfl (by rw [World.cell?_alloc_new]; rfl) (Fresh.alloc HF.out _) (by rw [Htl.out]; omega) ?_; intro v' w3' hO3 hg3 b3; have HO3 := Lib.hid (show OwnRows w3' w.heap.size v' (ls.take (k + 1)) by rw [Hs.out]; exact hO3)))
      have hb3 : Below w.heap.size w w3' := (hb1.alloc hb1.size _).trans b3
      go_wp2_with fail
      exact ⟨⟨k + 1, by omega, by go_num, HO3.out, hb3⟩, by simp [intOf]; omega⟩
    · obtain rfl : k = 2 := by omega
      have htk : ls.take 2 = [[x0], [x1]] := by rw [Hls.out]; rfl
      rw [htk] at hO
      obtain ⟨g, cg, k0, k1, c0, c1, rfl, hBg, hgs, q0, q1, f0, f1, r0, r1, hn0, hn1, hs0, hs1⟩ := own_two hO
      have HC := Lib.hid (HS.out g cg ⟨k0, 0, none⟩ ⟨k1, 0, none⟩ c0 c1 wr q0 q1 f0 f1 r0 r1)
      have R0 := Lib.hid r0
      have R1 := Lib.hid r1
      clear hO q0 q1 f0 f1 r0 r1 htk
      go_wp2_with fail
      refine HC.out.mono ?_
      rintro e w1 ⟨rfl, s0, s1, so, sb⟩
      have hb1 := hb.trans (sb w.heap.size hBg hb.size)
      have hR : RdRows w1 (some ⟨g, 0, none⟩) [[x1], [x0]] := fun i hi => by
        rcases (by simp at hi; omega : i = 0 ∨ i = 1) with rfl | rfl
        · exact ⟨_, ⟨some ⟨k1, 0, none⟩, c1⟩, rfl, by rw [add_zero']; exact s0, rd_swp R1.out hn1 so, fun h => by cases h⟩
        · exact ⟨_, ⟨some ⟨k0, 0, none⟩, c0⟩, rfl, by rw [add_pos _ _ (by decide)]; exact s1, rd_swp R0.out hn0 so, fun h => by cases h⟩
      have HR := Lib.hid hR
      clear hR s0 s1 so sb
      go_wp2_with fail
      go_ret
      exact ⟨some ⟨g, 0, none⟩, cg, rfl, HR.out, hb1⟩
end Go.Proofs.Ytmgpecomgffelaa
