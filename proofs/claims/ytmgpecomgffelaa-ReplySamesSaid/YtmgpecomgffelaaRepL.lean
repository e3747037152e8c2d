/- The law ReplySames: two replies are the same just if code, number and all rows are, in their order. No condition. -/
import Derived.Test.YtmgpecomgffelaaRepI
namespace Go.Proofs.Ytmgpecomgffelaa
open Go.RowKit Go.ChangeShapes Go.WideShapes Go.ChangeAt
set_option linter.unusedVariables false
set_option maxRecDepth 100000 in
theorem sames_large1 (c n : Int) (A : Option Addr) (q : Nat) (x : List (List Val)) (c' n' : Int) (B : Option Addr) (p : Nat) (y : List (List Val)) (w : World) (ha : RdRows w A x) (hb : RdRows w B y) (h : largeRR x = true) : Tells Try.prog 21 #[rv c n A x.length q, rv c' n' B y.length p] w := by
  unfold Tells
  have k0 : Below w.heap.size w ((w.alloc (.cells (a3 c n A x.length q) 96)).alloc (.cells (a3 c' n' B y.length p) 96)) := ((Below.refl w.heap.size w).alloc (Nat.le_refl _) _).alloc (by simp) _
  have HA0 := Lib.hid (ha.keep k0)
  have HB0 := Lib.hid (hb.keep k0)
  have HX0 := Lib.hid (B3.alloc (B3.new w c n A x.length q 96) (.cells (a3 c' n' B y.length p) 96))
  have HY0 : Hid (B3 ((w.alloc (.cells (a3 c n A x.length q) 96)).alloc (.cells (a3 c' n' B y.length p) 96)) (w.heap.size + 1) c' n' B y.length p) := Lib.hid (by
    have := B3.new (w.alloc (.cells (a3 c n A x.length q) 96)) c' n' B y.length p 96
    have e : (w.alloc (.cells (a3 c n A x.length q) 96)).heap.size = w.heap.size + 1 := by simp
    rw [e] at this
    exact this)
  have HL := Lib.hid (large_rows A q x _ HA0.out)
  rw [h] at HL
  clear ha hb h HX0 HY0
  go_enter Try.func21, Try.ntmps21
  go_wp2_with fail
  refine HL.out.mono ?_
  rintro e w1 ⟨rfl, b1⟩
  have k1 := k0.trans (b1.mono k0.size)
  go_wp2_with fail
  refine (rep_wakes _).mono ?_
  rintro e w2 ⟨rfl, b2⟩
  go_wp2_with fail
  go_ret
  exact ⟨rfl, k1.trans (b2.mono k1.size)⟩
set_option maxRecDepth 100000 in
theorem sames_large2 (c n : Int) (A : Option Addr) (q : Nat) (x : List (List Val)) (c' n' : Int) (B : Option Addr) (p : Nat) (y : List (List Val)) (w : World) (ha : RdRows w A x) (hb : RdRows w B y) (h : largeRR x = false) (h2 : largeRR y = true) : Tells Try.prog 21 #[rv c n A x.length q, rv c' n' B y.length p] w := by
  unfold Tells
  have k0 : Below w.heap.size w ((w.alloc (.cells (a3 c n A x.length q) 96)).alloc (.cells (a3 c' n' B y.length p) 96)) := ((Below.refl w.heap.size w).alloc (Nat.le_refl _) _).alloc (by simp) _
  have HA0 := Lib.hid (ha.keep k0)
  have HB0 := Lib.hid (hb.keep k0)
  have HX0 := Lib.hid (B3.alloc (B3.new w c n A x.length q 96) (.cells (a3 c' n' B y.length p) 96))
  have HY0 : Hid (B3 ((w.alloc (.cells (a3 c n A x.length q) 96)).alloc (.cells (a3 c' n' B y.length p) 96)) (w.heap.size + 1) c' n' B y.length p) := Lib.hid (by
    have := B3.new (w.alloc (.cells (a3 c n A x.length q) 96)) c' n' B y.length p 96
    have e : (w.alloc (.cells (a3 c n A x.length q) 96)).heap.size = w.heap.size + 1 := by simp
    rw [e] at this
    exact this)
  have HL := Lib.hid (large_rows A q x _ HA0.out)
  rw [h] at HL
  have HM := Lib.hid (fun w' hw => large_rows B p y w' hw)
  rw [h2] at HM
  clear ha hb h h2 HX0
  go_enter Try.func21, Try.ntmps21
  go_wp2_with fail
  refine HL.out.mono ?_
  rintro e w1 ⟨rfl, b1⟩
  have k1 := k0.trans (b1.mono k0.size)
  obtain ⟨⟨f0, _⟩, ⟨f1, _⟩, ⟨f2, _⟩⟩ := (HY0.out.keep b1).cells
  have HB1 := Lib.hid (HB0.out.keep b1)
  clear b1
  go_wp2_with fail
  refine (HM.out _ HB1.out).mono ?_
  rintro e w2 ⟨rfl, b2⟩
  have k2 := k1.trans (b2.mono k1.size)
  clear f0 f1 f2 b2
  go_wp2_with fail
  refine (rep_wakes _).mono ?_
  rintro e w3 ⟨rfl, b3⟩
  go_wp2_with fail
  go_ret
  exact ⟨rfl, k2.trans (b3.mono k2.size)⟩
set_option maxRecDepth 100000 in
set_option maxHeartbeats 2000000 in
theorem sames_main (c n : Int) (A : Option Addr) (q : Nat) (x : List (List Val)) (c' n' : Int) (B : Option Addr) (p : Nat) (y : List (List Val)) (w : World) (ha : RdRows w A x) (hb : RdRows w B y) (h : largeRR x = false) (h2 : largeRR y = false) : Tells Try.prog 21 #[rv c n A x.length q, rv c' n' B y.length p] w := by
  unfold Tells
  have k0 : Below w.heap.size w ((w.alloc (.cells (a3 c n A x.length q) 96)).alloc (.cells (a3 c' n' B y.length p) 96)) := ((Below.refl w.heap.size w).alloc (Nat.le_refl _) _).alloc (by simp) _
  have HA0 := Lib.hid (ha.keep k0)
  have HB0 := Lib.hid (hb.keep k0)
  have HX0 := Lib.hid (B3.alloc (B3.new w c n A x.length q 96) (.cells (a3 c' n' B y.length p) 96))
  have HY0 : Hid (B3 ((w.alloc (.cells (a3 c n A x.length q) 96)).alloc (.cells (a3 c' n' B y.length p) 96)) (w.heap.size + 1) c' n' B y.length p) := Lib.hid (by
    have := B3.new (w.alloc (.cells (a3 c n A x.length q) 96)) c' n' B y.length p 96
    have e : (w.alloc (.cells (a3 c n A x.length q) 96)).heap.size = w.heap.size + 1 := by simp
    rw [e] at this
    exact this)
  have HL := Lib.hid (large_rows A q x _ HA0.out)
  rw [h] at HL
  have HM := Lib.hid (fun w' hw => large_rows B p y w' hw)
  rw [h2] at HM
  have hx := largeRR_no h
  have hy := largeRR_no h2
  have lx : ∀ l ∈ x, l.length ≤ 1000 := fun l hl => by have := hx.2 l hl; omega
  have ly : ∀ l ∈ y, l.length ≤ 1000 := fun l hl => by have := hy.2 l hl; omega
  have HS := Lib.hid (fun w' (h1 : RdRows w' A x) (h3 : RdRows w' B y) => samer_any ⟨c, n, x⟩ ⟨c', n', y⟩ A B q p w' h1 h3 (by show x.length ≤ _; omega) (by show y.length ≤ _; omega) lx ly)
  have HT := Lib.hid (fun w' (h1 : RdRows w' A x) (h3 : RdRows w' B y) => rsamer_any ⟨c, n, x⟩ ⟨c', n', y⟩ A B q p w' h1 h3 (by show x.length ≤ _; omega) lx ly)
  have HU := Lib.hid (fun A' q' w' (h1 : RdRows w' A x) (h3 : RdRows w' A' x) => samer_any ⟨c, n, x⟩ ⟨c, n, x⟩ A A' q q' w' h1 h3 (by show x.length ≤ _; omega) (by show x.length ≤ _; omega) lx lx)
  rw [sameR_self] at HU
  have HC := Lib.hid (fun w' (h1 : RdRows w' A x) => copied_any c n A q x w' h1 (by omega) lx)
  simp only at HS HT HU
  generalize sameR ⟨c, n, x⟩ ⟨c', n', y⟩ = g at *
  have e1 : (g == g) = true := beq_self_eq_true g
  clear ha hb h h2 hx hy lx ly
  go_enter Try.func21, Try.ntmps21
  go_wp2_with fail
  refine HL.out.mono ?_
  rintro e w1 ⟨rfl, b1⟩
  have k1 := k0.trans (b1.mono k0.size)
  obtain ⟨⟨f0, _⟩, ⟨f1, _⟩, ⟨f2, _⟩⟩ := (HY0.out.keep b1).cells
  have HA1 := Lib.hid (HA0.out.keep b1)
  have HB1 := Lib.hid (HB0.out.keep b1)
  have HX1 := Lib.hid (HX0.out.keep b1)
  have HY1 := Lib.hid (HY0.out.keep b1)
  clear b1 HA0 HB0 HX0 HY0 k0
  go_wp2_with fail
  refine (HM.out _ HB1.out).mono ?_
  rintro e w2 ⟨rfl, b2⟩
  have k2 := k1.trans (b2.mono k1.size)
  have HA2 := Lib.hid (HA1.out.keep b2)
  have HB2 := Lib.hid (HB1.out.keep b2)
  clear f0 f1 f2
  obtain ⟨⟨c0, _⟩, ⟨c1, _⟩, ⟨c2, _⟩⟩ := (HX1.out.keep b2).cells
  obtain ⟨⟨f0, _⟩, ⟨f1, _⟩, ⟨f2, _⟩⟩ := (HY1.out.keep b2).cells
  clear b2 HA1 HB1 HX1 HY1 k1
  go_wp2_with fail
  refine wp_region_held_drew (S := (fun w' => Below w2.heap.size w2 w' ∧ w'.cell? ⟨w.heap.size, 0, none⟩ = some (.int .i64 c) ∧ w'.cell? ⟨w.heap.size, 1, none⟩ = some (.int .i64 n) ∧ w'.cell? ⟨w.heap.size, 2, none⟩ = some (.slice A x.length q) ∧ w'.cell? ⟨w.heap.size + 1, 0, none⟩ = some (.int .i64 c') ∧ w'.cell? ⟨w.heap.size + 1, 1, none⟩ = some (.int .i64 n') ∧ w'.cell? ⟨w.heap.size + 1, 2, none⟩ = some (.slice B y.length p))) (by kernel_rfl) (⟨(Below.refl _ _).drew, c0, c1, c2, f0, f1, f2⟩) (fun hHeld => ?_)
  (refine wpAnyH_take (i := 0) (oi := { dst := some 14, op := Go.Op.load 96 (Go.Operand.tmp 2), type := 96, pos := _, after := _, guard := none }) (v := ?_) rfl (by kernel_rfl) (by kernel_rfl) (by kernel_rfl) (fun _ _ _ h => h) (Or.inl ⟨by rfl, ?_⟩) (by assumption) ?_; rotate_left; (intro w hSw; (try dsimp only at hSw); go_simp; try with_reducible rfl); try simp only [Act.put, List.setIfInBounds_toArray, List.set_cons_zero, List.set_cons_succ])
  (refine wpAnyH_take (i := 1) (oi := { dst := some 15, op := Go.Op.load 96 (Go.Operand.tmp 3), type := 96, pos := _, after := _, guard := none }) (v := ?_) rfl (by kernel_rfl) (by kernel_rfl) (by kernel_rfl) (fun _ _ _ h => h) (Or.inl ⟨by rfl, ?_⟩) (by assumption) ?_; rotate_left; (intro w hSw; (try dsimp only at hSw); go_simp; try with_reducible rfl); try simp only [Act.put, List.setIfInBounds_toArray, List.set_cons_zero, List.set_cons_succ])
  (refine wpAnyH_take (i := 3) (oi := { dst := some 17, op := Go.Op.load 96 (Go.Operand.tmp 2), type := 96, pos := _, after := _, guard := none }) (v := ?_) rfl (by kernel_rfl) (by kernel_rfl) (by kernel_rfl) (fun _ _ _ h => h) (Or.inl ⟨by rfl, ?_⟩) (by assumption) ?_; rotate_left; (intro w hSw; (try dsimp only at hSw); go_simp; try with_reducible rfl); try simp only [Act.put, List.setIfInBounds_toArray, List.set_cons_zero, List.set_cons_succ])
  (refine wpAnyH_take (i := 4) (oi := { dst := some 18, op := Go.Op.load 96 (Go.Operand.tmp 3), type := 96, pos := _, after := _, guard := none }) (v := ?_) rfl (by kernel_rfl) (by kernel_rfl) (by kernel_rfl) (fun _ _ _ h => h) (Or.inl ⟨by rfl, ?_⟩) (by assumption) ?_; rotate_left; (intro w hSw; (try dsimp only at hSw); go_simp; try with_reducible rfl); try simp only [Act.put, List.setIfInBounds_toArray, List.set_cons_zero, List.set_cons_succ])
  refine wpAnyH_ready (rs := [2]) (by kernel_rfl) (by simp) ?_
  refine AllReadyH.cons (o := { dst := some 16, op := Go.Op.call { callee := Go.Callee.value (Go.Operand.func 82), args := #[Go.Operand.tmp 14, Go.Operand.tmp 15], argTypes := #[96, 96] }, type := 4, pos := _, after := _, guard := none }) rfl (fun K hK => ?_) AllReadyH.nil
  go_simp
  refine (HS.out _ (HA2.out.keep (And.left hHeld)) (HB2.out.keep (And.left hHeld))).mono ?_
  rintro e w5 ⟨rfl, b5⟩
  go_wp2_with fail
  refine hK.out _ _ ?_ (fun hHeld2 => ?_)
  · (go_split_ands; exact ⟨Below.trans (by assumption) (b5.mono (Below.size (by assumption))), kc b5 (by assumption), kc b5 (by assumption), kc b5 (by assumption), kc b5 (by assumption), kc b5 (by assumption), kc b5 (by assumption)⟩)
  clear hK K hHeld
  have hHeld := hHeld2
  clear hHeld2
  try simp only [Act.put, List.setIfInBounds_toArray, List.set_cons_zero, List.set_cons_succ]
  refine wpAnyH_ready (rs := [5]) (by kernel_rfl) (by simp) ?_
  refine AllReadyH.cons (o := { dst := some 19, op := Go.Op.call { callee := Go.Callee.value (Go.Operand.func 87), args := #[Go.Operand.tmp 17, Go.Operand.tmp 18], argTypes := #[96, 96] }, type := 4, pos := _, after := _, guard := none }) rfl (fun K hK => ?_) AllReadyH.nil
  go_simp
  refine (HT.out _ (HA2.out.keep (And.left hHeld)) (HB2.out.keep (And.left hHeld))).mono ?_
  rintro e w5 ⟨rfl, b5⟩
  go_wp2_with fail
  refine hK.out _ _ ?_ (fun hHeld2 => ?_)
  · (go_split_ands; exact ⟨Below.trans (by assumption) (b5.mono (Below.size (by assumption))), kc b5 (by assumption), kc b5 (by assumption), kc b5 (by assumption), kc b5 (by assumption), kc b5 (by assumption), kc b5 (by assumption)⟩)
  clear hK K hHeld
  have hHeld := hHeld2
  clear hHeld2
  try simp only [Act.put, List.setIfInBounds_toArray, List.set_cons_zero, List.set_cons_succ]
  (refine wpAnyH_take (i := 6) (oi := { dst := some 20, op := Go.Op.binOp Go.BinOp.eql 4 (Go.Operand.tmp 16) (Go.Operand.tmp 19) 4, type := 4, pos := _, after := _, guard := none }) (v := ?_) rfl (by kernel_rfl) (by kernel_rfl) (by kernel_rfl) (fun _ _ _ h => h) (Or.inl ⟨by rfl, ?_⟩) (by assumption) ?_; rotate_left; (intro w hSw; (try dsimp only at hSw); go_simp; try with_reducible rfl); try simp only [Act.put, List.setIfInBounds_toArray, List.set_cons_zero, List.set_cons_succ])
  (refine wpAnyH_take (i := 7) (oi := { dst := some 21, op := Go.Op.move (Go.Operand.tmp 20), type := 4, pos := _, after := _, guard := none }) (v := ?_) rfl (by kernel_rfl) (by kernel_rfl) (by kernel_rfl) (fun _ _ _ h => h) (Or.inl ⟨by rfl, ?_⟩) (by assumption) ?_; rotate_left; (intro w hSw; (try dsimp only at hSw); go_simp; try with_reducible rfl); try simp only [Act.put, List.setIfInBounds_toArray, List.set_cons_zero, List.set_cons_succ])
  (refine wpAnyH_take (i := 8) (oi := { dst := some 22, op := Go.Op.load 96 (Go.Operand.tmp 2), type := 96, pos := _, after := _, guard := some (7, true) }) (v := ?_) rfl (by kernel_rfl) (by kernel_rfl) (by kernel_rfl) (fun _ _ _ h => h) (Or.inl ⟨by rfl, ?_⟩) (by assumption) ?_; rotate_left; (intro w hSw; (try dsimp only at hSw); go_simp; try with_reducible rfl); try simp only [Act.put, List.setIfInBounds_toArray, List.set_cons_zero, List.set_cons_succ])
  (refine wpAnyH_take (i := 9) (oi := { dst := some 23, op := Go.Op.load 96 (Go.Operand.tmp 2), type := 96, pos := _, after := _, guard := some (7, true) }) (v := ?_) rfl (by kernel_rfl) (by kernel_rfl) (by kernel_rfl) (fun _ _ _ h => h) (Or.inl ⟨by rfl, ?_⟩) (by assumption) ?_; rotate_left; (intro w hSw; (try dsimp only at hSw); go_simp; try with_reducible rfl); try simp only [Act.put, List.setIfInBounds_toArray, List.set_cons_zero, List.set_cons_succ])
  refine wpAnyH_ready (rs := [10]) (by kernel_rfl) (by simp) ?_
  refine AllReadyH.cons (o := { dst := some 24, op := Go.Op.call { callee := Go.Callee.value (Go.Operand.func 79), args := #[Go.Operand.tmp 23], argTypes := #[96] }, type := 96, pos := _, after := _, guard := some (7, true) }) rfl (fun K hK => ?_) AllReadyH.nil
  go_simp
  refine (HC.out _ (HA2.out.keep (And.left hHeld))).mono ?_
  rintro e w5 ⟨A5, q5, rfl, hR5, hn5, b5⟩
  go_wp2_with fail
  refine hK.out _ _ ?_ (fun hHeld2 => ?_)
  · (go_split_ands; exact ⟨Below.trans (by assumption) (b5.mono (Below.size (by assumption))), kc b5 (by assumption), kc b5 (by assumption), kc b5 (by assumption), kc b5 (by assumption), kc b5 (by assumption), kc b5 (by assumption)⟩)
  clear hK K hHeld
  have hHeld := hHeld2
  clear hHeld2
  try simp only [Act.put, List.setIfInBounds_toArray, List.set_cons_zero, List.set_cons_succ]
  refine wpAnyH_ready (rs := [11]) (by kernel_rfl) (by simp) ?_
  refine AllReadyH.cons (o := { dst := some 25, op := Go.Op.call { callee := Go.Callee.value (Go.Operand.func 82), args := #[Go.Operand.tmp 22, Go.Operand.tmp 24], argTypes := #[96, 96] }, type := 4, pos := _, after := _, guard := some (7, true) }) rfl (fun K hK => ?_) AllReadyH.nil
  go_simp
  refine (HU.out _ _ _ (HA2.out.keep (And.left hHeld)) hR5).mono ?_
  rintro e w5 ⟨rfl, b5⟩
  go_wp2_with fail
  refine hK.out _ _ ?_ (fun hHeld2 => ?_)
  · (go_split_ands; exact ⟨Below.trans (by assumption) (b5.mono (Below.size (by assumption))), kc b5 (by assumption), kc b5 (by assumption), kc b5 (by assumption), kc b5 (by assumption), kc b5 (by assumption), kc b5 (by assumption)⟩)
  clear hK K hHeld
  have hHeld := hHeld2
  clear hHeld2
  try simp only [Act.put, List.setIfInBounds_toArray, List.set_cons_zero, List.set_cons_succ]
  (refine wpAnyH_take (i := 12) (oi := { dst := some 26, op := Go.Op.pick (Go.Operand.tmp 21) (Go.Operand.tmp 25) (Go.Operand.const (Go.Value.bool false)), type := 4, pos := _, after := _, guard := none }) (v := ?_) rfl (by kernel_rfl) (by kernel_rfl) (by kernel_rfl) (fun _ _ _ h => h) (Or.inl ⟨by rfl, ?_⟩) (by assumption) ?_; rotate_left; (intro w hSw; (try dsimp only at hSw); go_simp; try with_reducible rfl); try simp only [Act.put, List.setIfInBounds_toArray, List.set_cons_zero, List.set_cons_succ])
  (refine wpAnyH_take (i := 13) (oi := { dst := some 27, op := Go.Op.move (Go.Operand.tmp 26), type := 4, pos := _, after := _, guard := none }) (v := ?_) rfl (by kernel_rfl) (by kernel_rfl) (by kernel_rfl) (fun _ _ _ h => h) (Or.inl ⟨by rfl, ?_⟩) (by assumption) ?_; rotate_left; (intro w hSw; (try dsimp only at hSw); go_simp; try with_reducible rfl); try simp only [Act.put, List.setIfInBounds_toArray, List.set_cons_zero, List.set_cons_succ])
  refine wpAnyH_ready (rs := [14]) (by kernel_rfl) (by simp) ?_
  refine AllReadyH.cons (o := { dst := some 28, op := Go.Op.call { callee := Go.Callee.value (Go.Operand.func 77), args := #[], argTypes := #[] }, type := 4, pos := _, after := _, guard := some (13, true) }) rfl (fun K hK => ?_) AllReadyH.nil
  go_simp
  refine (rep_wakes _).mono ?_
  rintro e w5 ⟨rfl, b5⟩
  go_wp2_with fail
  refine hK.out _ _ ?_ (fun hHeld2 => ?_)
  · (go_split_ands; exact ⟨Below.trans (by assumption) (b5.mono (Below.size (by assumption))), kc b5 (by assumption), kc b5 (by assumption), kc b5 (by assumption), kc b5 (by assumption), kc b5 (by assumption), kc b5 (by assumption)⟩)
  clear hK K hHeld
  have hHeld := hHeld2
  clear hHeld2
  try simp only [Act.put, List.setIfInBounds_toArray, List.set_cons_zero, List.set_cons_succ]
  (refine wpAnyH_take (i := 15) (oi := { dst := some 29, op := Go.Op.pick (Go.Operand.tmp 27) (Go.Operand.tmp 28) (Go.Operand.const (Go.Value.bool false)), type := 4, pos := _, after := _, guard := none }) (v := ?_) rfl (by kernel_rfl) (by kernel_rfl) (by kernel_rfl) (fun _ _ _ h => h) (Or.inl ⟨by rfl, ?_⟩) (by assumption) ?_; rotate_left; (intro w hSw; (try dsimp only at hSw); go_simp; try with_reducible rfl); try simp only [Act.put, List.setIfInBounds_toArray, List.set_cons_zero, List.set_cons_succ])
  (refine wpAnyH_take (i := 16) (oi := { dst := some 4, op := Go.Op.assign (Go.Operand.tmp 29), type := 4, pos := _, after := _, guard := none }) (v := ?_) rfl (by kernel_rfl) (by kernel_rfl) (by kernel_rfl) (fun _ _ _ h => h) (Or.inl ⟨by rfl, ?_⟩) (by assumption) ?_; rotate_left; (intro w hSw; (try dsimp only at hSw); go_simp; try with_reducible rfl); try simp only [Act.put, List.setIfInBounds_toArray, List.set_cons_zero, List.set_cons_succ])
  refine wpAnyH_done (by kernel_rfl) ?_ _
  have hbf := k2.trans ((And.left hHeld).mono k2.size)
  go_wp2_with fail
  go_ret
  exact ⟨rfl, hbf⟩

set_option maxRecDepth 100000 in
theorem replySames_lifted (os : Os) (started : os.Started) (H : Type) (enc : TypeId × Value → H) :
    ReturnsInHanded {} Try.checked os 21 .any (Rows.replySamesSpec.pre6 enc Try.prog Try.f21 [] false) (Rows.replySamesSpec.post enc Try.prog Try.f21 false true false false) := by
  refine law_lifted (C := Try.checked) own started (by kernel_rfl) Try.func21
    (ChangeSpec.witness6 (enc := enc) (C := Try.checked) false ⟨#[], #[.agg #[.int .i64 0, .int .i64 0, .slice none 0 0], .agg #[.int .i64 0, .int .i64 0, .slice none 0 0]], []⟩ 8 (by kernel_rfl) (by kernel_rfl) (by kernel_rfl) (by kernel_rfl))
    rfl (fun ds h => by match ds, h with | [_, _], _ => rfl) laid (by kernel_rfl) (tb := 4) rfl Try.underlying4 ?_
  intro W base args ds ps hval hA hsz
  rw [Try.params21] at hA hval hsz
  obtain ⟨v0, v1, d0, d1, q0, q1, rfl, rfl, rfl, h0, h1⟩ := trodAll_two hA
  obtain ⟨c, n, A, q, x, rfl, ha, hwa, _⟩ := open_rep (hval 0 96 v0 rfl rfl) h0
  obtain ⟨c', n', B, p, y, rfl, hb, hwb, _⟩ := open_rep (hval 1 96 v1 rfl rfl) h1
  cases h : largeRR x with
  | true => exact sames_large1 c n A q x c' n' B p y W ha hb h
  | false =>
  cases h2 : largeRR y with
  | true => exact sames_large2 c n A q x c' n' B p y W ha hb h h2
  | false =>
  exact sames_main c n A q x c' n' B p y W ha hb h h2

theorem replySames_holds : Rows.ReplySamesSaid :=
  OpenClaim.holds_of_wide 21 Try.f21 rfl rfl rfl rfl rfl rfl rfl ⟨rfl, rfl, rfl, rfl, rfl⟩ rfl rfl rfl rfl rfl (by kernel_rfl) Try.func21 (by kernel_rfl)
    (of_decide_eq_true (by kernel_rfl)) (by unfold Func.isWrapper; first | (rw [if_pos (by decide +kernel)]; kernel_rfl) | (rw [if_neg (by decide +kernel)]; exact ⟨rfl, rfl⟩))
    (fun os started H enc _ => replySames_lifted os started H enc)
#print axioms replySames_holds
end Go.Proofs.Ytmgpecomgffelaa
