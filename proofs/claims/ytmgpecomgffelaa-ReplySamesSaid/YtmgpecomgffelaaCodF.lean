/- Contract: the value whose bytes stand at a place (of the reference). -/
import Derived.Test.YtmgpecomgffelaaCodE
namespace Go.Proofs.Ytmgpecomgffelaa
open Go.RowKit
set_option linter.unusedVariables false
theorem rnum_at (s : ByteArray) (a m : Nat) (hm : m ≤ 8) (h : a + m ≤ s.size) (w : World) : Calls Try.prog 94 #[.string (s.extract a (a + m))] w fun e w' => e = .returned (.int .u64 (numB s a m : Nat)) ∧ w = w' := by
  have hz : (s.extract a (a + m)).size = m := by rw [size_extract _ _ _ h]; omega
  have := rnumber_any (s.extract a (a + m)) (by omega) w
  rw [hz, numB_extract s a (a + m) 0 m h (by omega)] at this
  exact this
theorem rnum_at9 (s : ByteArray) (a : Nat) (h : a + 9 ≤ s.size) (w : World) : Calls Try.prog 94 #[.string (s.extract (a + 1) (a + 9))] w fun e w' => e = .returned (.int .u64 (numB s (a + 1) 8 : Nat)) ∧ w = w' := rnum_at s (a + 1) 8 (by decide) (by omega) w
theorem rnum_at3 (s : ByteArray) (a : Nat) (h : a + 3 ≤ s.size) (w : World) : Calls Try.prog 94 #[.string (s.extract (a + 1) (a + 3))] w fun e w' => e = .returned (.int .u64 (numB s (a + 1) 2 : Nat)) ∧ w = w' := rnum_at s (a + 1) 2 (by decide) (by omega) w
abbrev r5 (k n : Int) (f : Nat) (s : ByteArray) (m : Int) : Value := .agg #[.int .i64 k, .int .i64 n, .float .f64 f, .string s, .int .i64 m]
abbrev a5 (k n : Int) (f : Nat) (s : ByteArray) (m : Int) : Array Value := #[.int .i64 k, .int .i64 n, .float .f64 f, .string s, .int .i64 m]
abbrev Z5 : Value := r5 0 0 0 ⟨#[]⟩ 0
theorem RdB.set2 {w : World} {b : Nat} {k n : Int} {f : Nat} {s : ByteArray} (h : RdB w b ⟨k, n, f, s⟩) (f' : Nat) : RdB (w.setCell ⟨b, 2, none⟩ (.float .f64 f')) b ⟨k, n, f', s⟩ :=
  BoxT.set h 2 (by simp) (.float .f64 f')
theorem BoxT.other {w : World} {b : Nat} {cs : Array Value} (h : BoxT w b cs) (a : Addr) (ha : a.block ≠ b) (v : Value) : BoxT (w.setCell a v) b cs := fun j u hj => by
  obtain ⟨x, y⟩ := h j u hj
  refine ⟨(World.cell?_setCell_other _ _ _ _ (fun e => by subst e; exact ha rfl)).trans x, ?_⟩
  rw [World.frozen?_setCell]
  exact y
theorem BoxT.alloc {w : World} {b : Nat} {cs : Array Value} (h : BoxT w b cs) (o : Obj) : BoxT (w.alloc o) b cs := h.keep ((Below.refl _ _).alloc (Nat.le_refl _) _)
def B5 (w : World) (b : Nat) : Prop := BoxT w b (a5 0 0 0 ⟨#[]⟩ 0)
theorem B5.cells {w : World} {b : Nat} (h : B5 w b) : (w.cell? ⟨b, 0, none⟩ = some (.int .i64 0) ∧ w.frozen? ⟨b, 0, none⟩ = false) ∧ (w.cell? ⟨b, 1, none⟩ = some (.int .i64 0) ∧ w.frozen? ⟨b, 1, none⟩ = false) ∧ (w.cell? ⟨b, 2, none⟩ = some (.float .f64 0) ∧ w.frozen? ⟨b, 2, none⟩ = false) ∧ (w.cell? ⟨b, 3, none⟩ = some (.string ⟨#[]⟩) ∧ w.frozen? ⟨b, 3, none⟩ = false) ∧ (w.cell? ⟨b, 4, none⟩ = some (.int .i64 0) ∧ w.frozen? ⟨b, 4, none⟩ = false) :=
  ⟨h 0 _ rfl, h 1 _ rfl, h 2 _ rfl, h 3 _ rfl, h 4 _ rfl⟩
theorem RdB.cells {w : World} {b : Nat} {k n : Int} {f : Nat} {s : ByteArray} (h : RdB w b ⟨k, n, f, s⟩) : (w.cell? ⟨b, 0, none⟩ = some (.int .i64 k) ∧ w.frozen? ⟨b, 0, none⟩ = false) ∧ (w.cell? ⟨b, 1, none⟩ = some (.int .i64 n) ∧ w.frozen? ⟨b, 1, none⟩ = false) ∧ (w.cell? ⟨b, 2, none⟩ = some (.float .f64 f) ∧ w.frozen? ⟨b, 2, none⟩ = false) ∧ (w.cell? ⟨b, 3, none⟩ = some (.string s) ∧ w.frozen? ⟨b, 3, none⟩ = false) :=
  ⟨h 0 _ rfl, h 1 _ rfl, h 2 _ rfl, h 3 _ rfl⟩

set_option maxRecDepth 100000 in
theorem rdec_low (s : ByteArray) (p : Int) (hp : p < 0) (w : World) : Calls Try.prog 28 #[.string s, .int .i64 p] w fun e w' => e = .returned Z5 ∧ Below w.heap.size w w' := by
  have hst := run_sf
  have t1 : decide (p < 0) = true := decide_eq_true hp
  go_enter Try.func28, Try.ntmps28
  go_wp2_with fail
  exact bodyPost_ret (v := Z5) (by simp [results, Try.results28, go_sem] <;> omega) rfl ⟨rfl, by first | exact (Below.refl _ _).alloc (Nat.le_refl _) _ | exact ((Below.refl _ _).alloc (Nat.le_refl _) _).setCell (Nat.le_refl _) _⟩
set_option maxRecDepth 100000 in
theorem rdec_high (s : ByteArray) (p : Int) (hp : (s.size : Int) ≤ p) (w : World) : Calls Try.prog 28 #[.string s, .int .i64 p] w fun e w' => e = .returned Z5 ∧ Below w.heap.size w w' := by
  have hst := run_sf
  have t1 : decide (p < 0) = false := by rw [decide_eq_false]; omega
  have t2 : decide ((s.size : Int) ≤ p) = true := decide_eq_true hp
  go_enter Try.func28, Try.ntmps28
  go_wp2_with fail
  exact bodyPost_ret (v := Z5) (by simp [results, Try.results28, go_sem] <;> omega) rfl ⟨rfl, by first | exact (Below.refl _ _).alloc (Nat.le_refl _) _ | exact ((Below.refl _ _).alloc (Nat.le_refl _) _).setCell (Nat.le_refl _) _⟩

set_option maxRecDepth 100000 in
set_option maxHeartbeats 1000000 in
theorem rdec_0t (s : ByteArray) (a : Nat) (ha : a < s.size) (hsz : s.size ≤ 1000000) (hk : sAt s a = 0)  (hg : goodV 0 0 0 ⟨#[]⟩ = true) (w : World) : Calls Try.prog 28 #[.string s, .int .i64 a] w fun e w' => e = .returned (r5 0 0 0 ⟨#[]⟩ 1) ∧ Below w.heap.size w w' := by
  have hst := run_sf
  have t1 : decide ((a : Int) < 0) = false := by rw [decide_eq_false]; omega
  have t2 : decide ((s.size : Int) ≤ (a : Int)) = false := by rw [decide_eq_false]; omega
  have t3 : decide (s.size ≤ a) = false := by rw [decide_eq_false]; omega
  have hk2 := (sAt_eq s a ha).trans hk
  have HG := Lib.hid (rgood_any 0 0 0 ⟨#[]⟩)
  rw [hg] at HG
  clear hg
  clear hk
  go_enter Try.func28, Try.ntmps28
  go_wp2_with fail
  refine (HG.out _).mono ?_
  rintro e w6 ⟨rfl, b6⟩
  have hV := (RdB.new (w.alloc (.cells (a5 0 0 0 ⟨#[]⟩ 0) 35)) ⟨0, 0, 0, ⟨#[]⟩⟩ 24).keep b6
  have hR := BoxT.keep (BoxT.alloc (BoxT.new w (a5 0 0 0 ⟨#[]⟩ 0) 35) _) b6
  have hbf : Below w.heap.size w w6 := (((Below.refl w.heap.size w).alloc (Nat.le_refl _) _).alloc (by simp) _).trans (b6.mono (by simp; omega))
  have hs6 := hbf.size
  obtain ⟨⟨c0, y0⟩, ⟨c1, y1⟩, ⟨c2, y2⟩, ⟨c3, y3⟩⟩ := hV.cells
  have hsa : (w.alloc (.cells (a5 0 0 0 ⟨#[]⟩ 0) 35)).heap.size = w.heap.size + 1 := by simp
  rw [hsa] at c0 c1 c2 c3
  clear hsa
  obtain ⟨⟨d0, z0⟩, ⟨d1, z1⟩, ⟨d2, z2⟩, ⟨d3, z3⟩, ⟨d4, z4⟩⟩ := B5.cells hR
  clear b6 hV hR y0 y1 y2 y3 hs6
  go_wp2_with fail
  exact bodyPost_ret (v := (r5 0 0 0 ⟨#[]⟩ 1)) (by simp [results, Try.results28, go_sem, d0, d1, d2, d3, d4] <;> omega) rfl ⟨rfl, (((((hbf).setCell (p := ⟨w.heap.size, 0, none⟩) (Nat.le_refl _) _).setCell (p := ⟨w.heap.size, 1, none⟩) (Nat.le_refl _) _).setCell (p := ⟨w.heap.size, 2, none⟩) (Nat.le_refl _) _).setCell (p := ⟨w.heap.size, 3, none⟩) (Nat.le_refl _) _).setCell (p := ⟨w.heap.size, 4, none⟩) (Nat.le_refl _) _⟩

set_option maxRecDepth 100000 in
set_option maxHeartbeats 1000000 in
theorem rdec_1t (s : ByteArray) (a : Nat) (ha : a < s.size) (hsz : s.size ≤ 1000000) (hk : sAt s a = 1) (h : a + 2 ≤ s.size) (hg : goodV 1 (sAt s (a + 1) : Nat) 0 ⟨#[]⟩ = true) (w : World) : Calls Try.prog 28 #[.string s, .int .i64 a] w fun e w' => e = .returned (r5 1 (sAt s (a + 1) : Nat) 0 ⟨#[]⟩ 2) ∧ Below w.heap.size w w' := by
  have hst := run_sf
  have t1 : decide ((a : Int) < 0) = false := by rw [decide_eq_false]; omega
  have t2 : decide ((s.size : Int) ≤ (a : Int)) = false := by rw [decide_eq_false]; omega
  have t3 : decide (s.size ≤ a) = false := by rw [decide_eq_false]; omega
  have hk2 := (sAt_eq s a ha).trans hk
  have HG := Lib.hid (rgood_any 1 (sAt s (a + 1) : Nat) 0 ⟨#[]⟩)
  rw [hg] at HG
  clear hg
  have hb := sAt_eq s (a + 1) (by omega)
  have hlt : a + 1 < s.size := by omega
  have hltI : (a : Int) + 1 < (s.size : Int) := by omega
  have t5 : decide ((s.size : Int) - (a : Int) - 1 < 1) = false := by rw [decide_eq_false]; omega
  have hz : ((a : Int) + 1).toNat = a + 1 := by omega
  have hl := sAt_lt s (a + 1)
  generalize sAt s (a + 1) = c at *
  clear hk
  go_enter Try.func28, Try.ntmps28
  go_wp2_with fail
  refine (HG.out _).mono ?_
  rintro e w6 ⟨rfl, b6⟩
  have hV := (RdB.new (w.alloc (.cells (a5 0 0 0 ⟨#[]⟩ 0) 35)) ⟨1, c, 0, ⟨#[]⟩⟩ 24).keep b6
  have hR := BoxT.keep (BoxT.alloc (BoxT.new w (a5 0 0 0 ⟨#[]⟩ 0) 35) _) b6
  have hbf : Below w.heap.size w w6 := (((Below.refl w.heap.size w).alloc (Nat.le_refl _) _).alloc (by simp) _).trans (b6.mono (by simp; omega))
  have hs6 := hbf.size
  obtain ⟨⟨c0, y0⟩, ⟨c1, y1⟩, ⟨c2, y2⟩, ⟨c3, y3⟩⟩ := hV.cells
  have hsa : (w.alloc (.cells (a5 0 0 0 ⟨#[]⟩ 0) 35)).heap.size = w.heap.size + 1 := by simp
  rw [hsa] at c0 c1 c2 c3
  clear hsa
  obtain ⟨⟨d0, z0⟩, ⟨d1, z1⟩, ⟨d2, z2⟩, ⟨d3, z3⟩, ⟨d4, z4⟩⟩ := B5.cells hR
  clear b6 hV hR y0 y1 y2 y3 hs6
  go_wp2_with fail
  exact bodyPost_ret (v := (r5 1 c 0 ⟨#[]⟩ 2)) (by simp [results, Try.results28, go_sem, d0, d1, d2, d3, d4] <;> omega) rfl ⟨rfl, (((((hbf).setCell (p := ⟨w.heap.size, 0, none⟩) (Nat.le_refl _) _).setCell (p := ⟨w.heap.size, 1, none⟩) (Nat.le_refl _) _).setCell (p := ⟨w.heap.size, 2, none⟩) (Nat.le_refl _) _).setCell (p := ⟨w.heap.size, 3, none⟩) (Nat.le_refl _) _).setCell (p := ⟨w.heap.size, 4, none⟩) (Nat.le_refl _) _⟩

set_option maxRecDepth 100000 in
set_option maxHeartbeats 1000000 in
theorem rdec_2t (s : ByteArray) (a : Nat) (ha : a < s.size) (hsz : s.size ≤ 1000000) (hk : sAt s a = 2) (h : a + 9 ≤ s.size) (hg : goodV 2 (sg (numB s (a + 1) 8)) 0 ⟨#[]⟩ = true) (w : World) : Calls Try.prog 28 #[.string s, .int .i64 a] w fun e w' => e = .returned (r5 2 (sg (numB s (a + 1) 8)) 0 ⟨#[]⟩ 9) ∧ Below w.heap.size w w' := by
  have hst := run_sf
  have t1 : decide ((a : Int) < 0) = false := by rw [decide_eq_false]; omega
  have t2 : decide ((s.size : Int) ≤ (a : Int)) = false := by rw [decide_eq_false]; omega
  have t3 : decide (s.size ≤ a) = false := by rw [decide_eq_false]; omega
  have hk2 := (sAt_eq s a ha).trans hk
  have HG := Lib.hid (rgood_any 2 (sg (numB s (a + 1) 8)) 0 ⟨#[]⟩)
  rw [hg] at HG
  clear hg
  have t5 : decide ((s.size : Int) - (a : Int) - 1 < 8) = false := by rw [decide_eq_false]; omega
  have hz : ((a : Int) + 1).toNat = a + 1 := by omega
  have hz9 : ((a : Int) + 9).toNat = a + 9 := by omega
  have hi1 : (0 : Int) ≤ (a : Int) + 1 := by omega
  have hi2 : (a : Int) + 1 ≤ (a : Int) + 9 := by omega
  have hi3 : (a : Int) + 9 ≤ (s.size : Int) := by omega
  have HN := Lib.hid (rnum_at9 s a h)
  have hs : IntKind.i64.wrap ((numB s (a + 1) 8 : Nat) : Int) = sg (numB s (a + 1) 8) := rfl
  generalize sg (numB s (a + 1) 8) = z at *
  generalize numB s (a + 1) 8 = u at *
  clear hk
  go_enter Try.func28, Try.ntmps28
  go_wp2_with fail
  refine (HN.out _).mono ?_
  rintro e w1 ⟨rfl, rfl⟩
  go_wp2_with fail
  refine (HG.out _).mono ?_
  rintro e w6 ⟨rfl, b6⟩
  have hV := (RdB.new (w.alloc (.cells (a5 0 0 0 ⟨#[]⟩ 0) 35)) ⟨2, z, 0, ⟨#[]⟩⟩ 24).keep b6
  have hR := BoxT.keep (BoxT.alloc (BoxT.new w (a5 0 0 0 ⟨#[]⟩ 0) 35) _) b6
  have hbf : Below w.heap.size w w6 := (((Below.refl w.heap.size w).alloc (Nat.le_refl _) _).alloc (by simp) _).trans (b6.mono (by simp; omega))
  have hs6 := hbf.size
  obtain ⟨⟨c0, y0⟩, ⟨c1, y1⟩, ⟨c2, y2⟩, ⟨c3, y3⟩⟩ := hV.cells
  have hsa : (w.alloc (.cells (a5 0 0 0 ⟨#[]⟩ 0) 35)).heap.size = w.heap.size + 1 := by simp
  rw [hsa] at c0 c1 c2 c3
  clear hsa
  obtain ⟨⟨d0, z0⟩, ⟨d1, z1⟩, ⟨d2, z2⟩, ⟨d3, z3⟩, ⟨d4, z4⟩⟩ := B5.cells hR
  clear b6 hV hR y0 y1 y2 y3 hs6
  go_wp2_with fail
  exact bodyPost_ret (v := (r5 2 z 0 ⟨#[]⟩ 9)) (by simp [results, Try.results28, go_sem, d0, d1, d2, d3, d4] <;> omega) rfl ⟨rfl, (((((hbf).setCell (p := ⟨w.heap.size, 0, none⟩) (Nat.le_refl _) _).setCell (p := ⟨w.heap.size, 1, none⟩) (Nat.le_refl _) _).setCell (p := ⟨w.heap.size, 2, none⟩) (Nat.le_refl _) _).setCell (p := ⟨w.heap.size, 3, none⟩) (Nat.le_refl _) _).setCell (p := ⟨w.heap.size, 4, none⟩) (Nat.le_refl _) _⟩

set_option maxRecDepth 100000 in
set_option maxHeartbeats 1000000 in
theorem rdec_4t (s : ByteArray) (a : Nat) (ha : a < s.size) (hsz : s.size ≤ 1000000) (hk : sAt s a = 4) (h : a + 3 ≤ s.size) (h4 : a + 3 + numB s (a + 1) 2 ≤ s.size) (hg : goodV 4 0 0 (s.extract (a + 3) (a + 3 + numB s (a + 1) 2)) = true) (w : World) : Calls Try.prog 28 #[.string s, .int .i64 a] w fun e w' => e = .returned (r5 4 0 0 (s.extract (a + 3) (a + 3 + numB s (a + 1) 2)) (3 + numB s (a + 1) 2 : Nat)) ∧ Below w.heap.size w w' := by
  have hst := run_sf
  have t1 : decide ((a : Int) < 0) = false := by rw [decide_eq_false]; omega
  have t2 : decide ((s.size : Int) ≤ (a : Int)) = false := by rw [decide_eq_false]; omega
  have t3 : decide (s.size ≤ a) = false := by rw [decide_eq_false]; omega
  have hk2 := (sAt_eq s a ha).trans hk
  have HG := Lib.hid (rgood_any 4 0 0 (s.extract (a + 3) (a + 3 + numB s (a + 1) 2)))
  rw [hg] at HG
  clear hg
  have hu := numB_lt s (a + 1) 2
  have hw : IntKind.i64.wrap ((numB s (a + 1) 2 : Nat) : Int) = ((numB s (a + 1) 2 : Nat) : Int) := by rw [IntKind.wrap_i64]; omega
  have HN := Lib.hid (rnum_at3 s a h)
  generalize numB s (a + 1) 2 = u at *
  have t5 : decide ((s.size : Int) - (a : Int) - 1 < 2) = false := by rw [decide_eq_false]; omega
  have t6 : decide ((s.size : Int) - (a : Int) - 1 - 2 < (u : Int)) = false := by rw [decide_eq_false]; omega
  have hz : ((a : Int) + 1).toNat = a + 1 := by omega
  have hz3 : ((a : Int) + 3).toNat = a + 3 := by omega
  have hzu : ((a : Int) + 3 + (u : Int)).toNat = a + 3 + u := by omega
  have hi1 : (0 : Int) ≤ (a : Int) + 1 := by omega
  have hi2 : (a : Int) + 1 ≤ (a : Int) + 3 := by omega
  have hi3 : (a : Int) + 3 ≤ (s.size : Int) := by omega
  have hi4 : (a : Int) + 3 + (u : Int) ≤ (s.size : Int) := by omega
  have hi5 : (0 : Int) ≤ (a : Int) + 3 + (u : Int) := by omega
  have hi6 : (0 : Int) ≤ (a : Int) + 3 := by omega
  have hi7 : (a : Int) + 3 ≤ (a : Int) + 3 + (u : Int) := by omega
  clear hk
  go_enter Try.func28, Try.ntmps28
  go_wp2_with fail
  refine (HN.out _).mono ?_
  rintro e w1 ⟨rfl, rfl⟩
  go_wp2_with fail
  refine (HG.out _).mono ?_
  rintro e w6 ⟨rfl, b6⟩
  have hV := (RdB.new (w.alloc (.cells (a5 0 0 0 ⟨#[]⟩ 0) 35)) ⟨4, 0, 0, (s.extract (a + 3) (a + 3 + u))⟩ 24).keep b6
  have hR := BoxT.keep (BoxT.alloc (BoxT.new w (a5 0 0 0 ⟨#[]⟩ 0) 35) _) b6
  have hbf : Below w.heap.size w w6 := (((Below.refl w.heap.size w).alloc (Nat.le_refl _) _).alloc (by simp) _).trans (b6.mono (by simp; omega))
  have hs6 := hbf.size
  obtain ⟨⟨c0, y0⟩, ⟨c1, y1⟩, ⟨c2, y2⟩, ⟨c3, y3⟩⟩ := hV.cells
  have hsa : (w.alloc (.cells (a5 0 0 0 ⟨#[]⟩ 0) 35)).heap.size = w.heap.size + 1 := by simp
  rw [hsa] at c0 c1 c2 c3
  clear hsa
  obtain ⟨⟨d0, z0⟩, ⟨d1, z1⟩, ⟨d2, z2⟩, ⟨d3, z3⟩, ⟨d4, z4⟩⟩ := B5.cells hR
  clear b6 hV hR y0 y1 y2 y3 hs6
  go_wp2_with fail
  exact bodyPost_ret (v := (r5 4 0 0 (s.extract (a + 3) (a + 3 + u)) (3 + u : Nat))) (by simp [results, Try.results28, go_sem, d0, d1, d2, d3, d4] <;> omega) rfl ⟨rfl, (((((hbf).setCell (p := ⟨w.heap.size, 0, none⟩) (Nat.le_refl _) _).setCell (p := ⟨w.heap.size, 1, none⟩) (Nat.le_refl _) _).setCell (p := ⟨w.heap.size, 2, none⟩) (Nat.le_refl _) _).setCell (p := ⟨w.heap.size, 3, none⟩) (Nat.le_refl _) _).setCell (p := ⟨w.heap.size, 4, none⟩) (Nat.le_refl _) _⟩

set_option maxRecDepth 100000 in
set_option maxHeartbeats 1000000 in
theorem rdec_et (s : ByteArray) (a : Nat) (ha : a < s.size) (hsz : s.size ≤ 1000000) (k : Nat) (hk : sAt s a = k) (hk4 : 4 < k) (hg : goodV k 0 0 ⟨#[]⟩ = true) (w : World) : Calls Try.prog 28 #[.string s, .int .i64 a] w fun e w' => e = .returned (r5 k 0 0 ⟨#[]⟩ 1) ∧ Below w.heap.size w w' := by
  have hst := run_sf
  have t1 : decide ((a : Int) < 0) = false := by rw [decide_eq_false]; omega
  have t2 : decide ((s.size : Int) ≤ (a : Int)) = false := by rw [decide_eq_false]; omega
  have t3 : decide (s.size ≤ a) = false := by rw [decide_eq_false]; omega
  have hk2 := (sAt_eq s a ha).trans hk
  have HG := Lib.hid (rgood_any k 0 0 ⟨#[]⟩)
  rw [hg] at HG
  clear hg
  have hkl := sAt_lt s a
  have e0 : ((k : Int) == 0) = false := by rw [beq_eq_false_iff_ne]; omega
  have e1 : ((k : Int) == 1) = false := by rw [beq_eq_false_iff_ne]; omega
  have e2 : ((k : Int) == 2) = false := by rw [beq_eq_false_iff_ne]; omega
  have e3 : ((k : Int) == 3) = false := by rw [beq_eq_false_iff_ne]; omega
  have e4 : ((k : Int) == 4) = false := by rw [beq_eq_false_iff_ne]; omega
  have hkw : IntKind.i64.wrap (k : Int) = (k : Int) := by rw [IntKind.wrap_i64]; omega
  clear hk
  go_enter Try.func28, Try.ntmps28
  go_wp2_with fail
  refine (HG.out _).mono ?_
  rintro e w6 ⟨rfl, b6⟩
  have hV := (RdB.new (w.alloc (.cells (a5 0 0 0 ⟨#[]⟩ 0) 35)) ⟨k, 0, 0, ⟨#[]⟩⟩ 24).keep b6
  have hR := BoxT.keep (BoxT.alloc (BoxT.new w (a5 0 0 0 ⟨#[]⟩ 0) 35) _) b6
  have hbf : Below w.heap.size w w6 := (((Below.refl w.heap.size w).alloc (Nat.le_refl _) _).alloc (by simp) _).trans (b6.mono (by simp; omega))
  have hs6 := hbf.size
  obtain ⟨⟨c0, y0⟩, ⟨c1, y1⟩, ⟨c2, y2⟩, ⟨c3, y3⟩⟩ := hV.cells
  have hsa : (w.alloc (.cells (a5 0 0 0 ⟨#[]⟩ 0) 35)).heap.size = w.heap.size + 1 := by simp
  rw [hsa] at c0 c1 c2 c3
  clear hsa
  obtain ⟨⟨d0, z0⟩, ⟨d1, z1⟩, ⟨d2, z2⟩, ⟨d3, z3⟩, ⟨d4, z4⟩⟩ := B5.cells hR
  clear b6 hV hR y0 y1 y2 y3 hs6
  go_wp2_with fail
  exact bodyPost_ret (v := (r5 k 0 0 ⟨#[]⟩ 1)) (by simp [results, Try.results28, go_sem, d0, d1, d2, d3, d4] <;> omega) rfl ⟨rfl, (((((hbf).setCell (p := ⟨w.heap.size, 0, none⟩) (Nat.le_refl _) _).setCell (p := ⟨w.heap.size, 1, none⟩) (Nat.le_refl _) _).setCell (p := ⟨w.heap.size, 2, none⟩) (Nat.le_refl _) _).setCell (p := ⟨w.heap.size, 3, none⟩) (Nat.le_refl _) _).setCell (p := ⟨w.heap.size, 4, none⟩) (Nat.le_refl _) _⟩

set_option maxRecDepth 100000 in
set_option maxHeartbeats 1000000 in
theorem rdec_0f (s : ByteArray) (a : Nat) (ha : a < s.size) (hsz : s.size ≤ 1000000) (hk : sAt s a = 0)  (hg : goodV 0 0 0 ⟨#[]⟩ = false) (w : World) : Calls Try.prog 28 #[.string s, .int .i64 a] w fun e w' => e = .returned Z5 ∧ Below w.heap.size w w' := by
  have hst := run_sf
  have t1 : decide ((a : Int) < 0) = false := by rw [decide_eq_false]; omega
  have t2 : decide ((s.size : Int) ≤ (a : Int)) = false := by rw [decide_eq_false]; omega
  have t3 : decide (s.size ≤ a) = false := by rw [decide_eq_false]; omega
  have hk2 := (sAt_eq s a ha).trans hk
  have HG := Lib.hid (rgood_any 0 0 0 ⟨#[]⟩)
  rw [hg] at HG
  clear hg
  clear hk
  go_enter Try.func28, Try.ntmps28
  go_wp2_with fail
  refine (HG.out _).mono ?_
  rintro e w6 ⟨rfl, b6⟩
  have hV := (RdB.new (w.alloc (.cells (a5 0 0 0 ⟨#[]⟩ 0) 35)) ⟨0, 0, 0, ⟨#[]⟩⟩ 24).keep b6
  have hR := BoxT.keep (BoxT.alloc (BoxT.new w (a5 0 0 0 ⟨#[]⟩ 0) 35) _) b6
  have hbf : Below w.heap.size w w6 := (((Below.refl w.heap.size w).alloc (Nat.le_refl _) _).alloc (by simp) _).trans (b6.mono (by simp; omega))
  have hs6 := hbf.size
  obtain ⟨⟨c0, y0⟩, ⟨c1, y1⟩, ⟨c2, y2⟩, ⟨c3, y3⟩⟩ := hV.cells
  have hsa : (w.alloc (.cells (a5 0 0 0 ⟨#[]⟩ 0) 35)).heap.size = w.heap.size + 1 := by simp
  rw [hsa] at c0 c1 c2 c3
  clear hsa
  obtain ⟨⟨d0, z0⟩, ⟨d1, z1⟩, ⟨d2, z2⟩, ⟨d3, z3⟩, ⟨d4, z4⟩⟩ := B5.cells hR
  clear b6 hV hR y0 y1 y2 y3 hs6
  go_wp2_with fail
  exact bodyPost_ret (v := Z5) (by simp [results, Try.results28, go_sem, d0, d1, d2, d3, d4] <;> omega) rfl ⟨rfl, (((((hbf).setCell (p := ⟨w.heap.size, 0, none⟩) (Nat.le_refl _) _).setCell (p := ⟨w.heap.size, 1, none⟩) (Nat.le_refl _) _).setCell (p := ⟨w.heap.size, 2, none⟩) (Nat.le_refl _) _).setCell (p := ⟨w.heap.size, 3, none⟩) (Nat.le_refl _) _).setCell (p := ⟨w.heap.size, 4, none⟩) (Nat.le_refl _) _⟩

set_option maxRecDepth 100000 in
set_option maxHeartbeats 1000000 in
theorem rdec_1f (s : ByteArray) (a : Nat) (ha : a < s.size) (hsz : s.size ≤ 1000000) (hk : sAt s a = 1) (h : a + 2 ≤ s.size) (hg : goodV 1 (sAt s (a + 1) : Nat) 0 ⟨#[]⟩ = false) (w : World) : Calls Try.prog 28 #[.string s, .int .i64 a] w fun e w' => e = .returned Z5 ∧ Below w.heap.size w w' := by
  have hst := run_sf
  have t1 : decide ((a : Int) < 0) = false := by rw [decide_eq_false]; omega
  have t2 : decide ((s.size : Int) ≤ (a : Int)) = false := by rw [decide_eq_false]; omega
  have t3 : decide (s.size ≤ a) = false := by rw [decide_eq_false]; omega
  have hk2 := (sAt_eq s a ha).trans hk
  have HG := Lib.hid (rgood_any 1 (sAt s (a + 1) : Nat) 0 ⟨#[]⟩)
  rw [hg] at HG
  clear hg
  have hb := sAt_eq s (a + 1) (by omega)
  have hlt : a + 1 < s.size := by omega
  have hltI : (a : Int) + 1 < (s.size : Int) := by omega
  have t5 : decide ((s.size : Int) - (a : Int) - 1 < 1) = false := by rw [decide_eq_false]; omega
  have hz : ((a : Int) + 1).toNat = a + 1 := by omega
  have hl := sAt_lt s (a + 1)
  generalize sAt s (a + 1) = c at *
  clear hk
  go_enter Try.func28, Try.ntmps28
  go_wp2_with fail
  refine (HG.out _).mono ?_
  rintro e w6 ⟨rfl, b6⟩
  have hV := (RdB.new (w.alloc (.cells (a5 0 0 0 ⟨#[]⟩ 0) 35)) ⟨1, c, 0, ⟨#[]⟩⟩ 24).keep b6
  have hR := BoxT.keep (BoxT.alloc (BoxT.new w (a5 0 0 0 ⟨#[]⟩ 0) 35) _) b6
  have hbf : Below w.heap.size w w6 := (((Below.refl w.heap.size w).alloc (Nat.le_refl _) _).alloc (by simp) _).trans (b6.mono (by simp; omega))
  have hs6 := hbf.size
  obtain ⟨⟨c0, y0⟩, ⟨c1, y1⟩, ⟨c2, y2⟩, ⟨c3, y3⟩⟩ := hV.cells
  have hsa : (w.alloc (.cells (a5 0 0 0 ⟨#[]⟩ 0) 35)).heap.size = w.heap.size + 1 := by simp
  rw [hsa] at c0 c1 c2 c3
  clear hsa
  obtain ⟨⟨d0, z0⟩, ⟨d1, z1⟩, ⟨d2, z2⟩, ⟨d3, z3⟩, ⟨d4, z4⟩⟩ := B5.cells hR
  clear b6 hV hR y0 y1 y2 y3 hs6
  go_wp2_with fail
  exact bodyPost_ret (v := Z5) (by simp [results, Try.results28, go_sem, d0, d1, d2, d3, d4] <;> omega) rfl ⟨rfl, (((((hbf).setCell (p := ⟨w.heap.size, 0, none⟩) (Nat.le_refl _) _).setCell (p := ⟨w.heap.size, 1, none⟩) (Nat.le_refl _) _).setCell (p := ⟨w.heap.size, 2, none⟩) (Nat.le_refl _) _).setCell (p := ⟨w.heap.size, 3, none⟩) (Nat.le_refl _) _).setCell (p := ⟨w.heap.size, 4, none⟩) (Nat.le_refl _) _⟩

set_option maxRecDepth 100000 in
set_option maxHeartbeats 1000000 in
theorem rdec_2f (s : ByteArray) (a : Nat) (ha : a < s.size) (hsz : s.size ≤ 1000000) (hk : sAt s a = 2) (h : a + 9 ≤ s.size) (hg : goodV 2 (sg (numB s (a + 1) 8)) 0 ⟨#[]⟩ = false) (w : World) : Calls Try.prog 28 #[.string s, .int .i64 a] w fun e w' => e = .returned Z5 ∧ Below w.heap.size w w' := by
  have hst := run_sf
  have t1 : decide ((a : Int) < 0) = false := by rw [decide_eq_false]; omega
  have t2 : decide ((s.size : Int) ≤ (a : Int)) = false := by rw [decide_eq_false]; omega
  have t3 : decide (s.size ≤ a) = false := by rw [decide_eq_false]; omega
  have hk2 := (sAt_eq s a ha).trans hk
  have HG := Lib.hid (rgood_any 2 (sg (numB s (a + 1) 8)) 0 ⟨#[]⟩)
  rw [hg] at HG
  clear hg
  have t5 : decide ((s.size : Int) - (a : Int) - 1 < 8) = false := by rw [decide_eq_false]; omega
  have hz : ((a : Int) + 1).toNat = a + 1 := by omega
  have hz9 : ((a : Int) + 9).toNat = a + 9 := by omega
  have hi1 : (0 : Int) ≤ (a : Int) + 1 := by omega
  have hi2 : (a : Int) + 1 ≤ (a : Int) + 9 := by omega
  have hi3 : (a : Int) + 9 ≤ (s.size : Int) := by omega
  have HN := Lib.hid (rnum_at9 s a h)
  have hs : IntKind.i64.wrap ((numB s (a + 1) 8 : Nat) : Int) = sg (numB s (a + 1) 8) := rfl
  generalize sg (numB s (a + 1) 8) = z at *
  generalize numB s (a + 1) 8 = u at *
  clear hk
  go_enter Try.func28, Try.ntmps28
  go_wp2_with fail
  refine (HN.out _).mono ?_
  rintro e w1 ⟨rfl, rfl⟩
  go_wp2_with fail
  refine (HG.out _).mono ?_
  rintro e w6 ⟨rfl, b6⟩
  have hV := (RdB.new (w.alloc (.cells (a5 0 0 0 ⟨#[]⟩ 0) 35)) ⟨2, z, 0, ⟨#[]⟩⟩ 24).keep b6
  have hR := BoxT.keep (BoxT.alloc (BoxT.new w (a5 0 0 0 ⟨#[]⟩ 0) 35) _) b6
  have hbf : Below w.heap.size w w6 := (((Below.refl w.heap.size w).alloc (Nat.le_refl _) _).alloc (by simp) _).trans (b6.mono (by simp; omega))
  have hs6 := hbf.size
  obtain ⟨⟨c0, y0⟩, ⟨c1, y1⟩, ⟨c2, y2⟩, ⟨c3, y3⟩⟩ := hV.cells
  have hsa : (w.alloc (.cells (a5 0 0 0 ⟨#[]⟩ 0) 35)).heap.size = w.heap.size + 1 := by simp
  rw [hsa] at c0 c1 c2 c3
  clear hsa
  obtain ⟨⟨d0, z0⟩, ⟨d1, z1⟩, ⟨d2, z2⟩, ⟨d3, z3⟩, ⟨d4, z4⟩⟩ := B5.cells hR
  clear b6 hV hR y0 y1 y2 y3 hs6
  go_wp2_with fail
  exact bodyPost_ret (v := Z5) (by simp [results, Try.results28, go_sem, d0, d1, d2, d3, d4] <;> omega) rfl ⟨rfl, (((((hbf).setCell (p := ⟨w.heap.size, 0, none⟩) (Nat.le_refl _) _).setCell (p := ⟨w.heap.size, 1, none⟩) (Nat.le_refl _) _).setCell (p := ⟨w.heap.size, 2, none⟩) (Nat.le_refl _) _).setCell (p := ⟨w.heap.size, 3, none⟩) (Nat.le_refl _) _).setCell (p := ⟨w.heap.size, 4, none⟩) (Nat.le_refl _) _⟩

set_option maxRecDepth 100000 in
set_option maxHeartbeats 1000000 in
theorem rdec_4f (s : ByteArray) (a : Nat) (ha : a < s.size) (hsz : s.size ≤ 1000000) (hk : sAt s a = 4) (h : a + 3 ≤ s.size) (h4 : a + 3 + numB s (a + 1) 2 ≤ s.size) (hg : goodV 4 0 0 (s.extract (a + 3) (a + 3 + numB s (a + 1) 2)) = false) (w : World) : Calls Try.prog 28 #[.string s, .int .i64 a] w fun e w' => e = .returned Z5 ∧ Below w.heap.size w w' := by
  have hst := run_sf
  have t1 : decide ((a : Int) < 0) = false := by rw [decide_eq_false]; omega
  have t2 : decide ((s.size : Int) ≤ (a : Int)) = false := by rw [decide_eq_false]; omega
  have t3 : decide (s.size ≤ a) = false := by rw [decide_eq_false]; omega
  have hk2 := (sAt_eq s a ha).trans hk
  have HG := Lib.hid (rgood_any 4 0 0 (s.extract (a + 3) (a + 3 + numB s (a + 1) 2)))
  rw [hg] at HG
  clear hg
  have hu := numB_lt s (a + 1) 2
  have hw : IntKind.i64.wrap ((numB s (a + 1) 2 : Nat) : Int) = ((numB s (a + 1) 2 : Nat) : Int) := by rw [IntKind.wrap_i64]; omega
  have HN := Lib.hid (rnum_at3 s a h)
  generalize numB s (a + 1) 2 = u at *
  have t5 : decide ((s.size : Int) - (a : Int) - 1 < 2) = false := by rw [decide_eq_false]; omega
  have t6 : decide ((s.size : Int) - (a : Int) - 1 - 2 < (u : Int)) = false := by rw [decide_eq_false]; omega
  have hz : ((a : Int) + 1).toNat = a + 1 := by omega
  have hz3 : ((a : Int) + 3).toNat = a + 3 := by omega
  have hzu : ((a : Int) + 3 + (u : Int)).toNat = a + 3 + u := by omega
  have hi1 : (0 : Int) ≤ (a : Int) + 1 := by omega
  have hi2 : (a : Int) + 1 ≤ (a : Int) + 3 := by omega
  have hi3 : (a : Int) + 3 ≤ (s.size : Int) := by omega
  have hi4 : (a : Int) + 3 + (u : Int) ≤ (s.size : Int) := by omega
  have hi5 : (0 : Int) ≤ (a : Int) + 3 + (u : Int) := by omega
  have hi6 : (0 : Int) ≤ (a : Int) + 3 := by omega
  have hi7 : (a : Int) + 3 ≤ (a : Int) + 3 + (u : Int) := by omega
  clear hk
  go_enter Try.func28, Try.ntmps28
  go_wp2_with fail
  refine (HN.out _).mono ?_
  rintro e w1 ⟨rfl, rfl⟩
  go_wp2_with fail
  refine (HG.out _).mono ?_
  rintro e w6 ⟨rfl, b6⟩
  have hV := (RdB.new (w.alloc (.cells (a5 0 0 0 ⟨#[]⟩ 0) 35)) ⟨4, 0, 0, (s.extract (a + 3) (a + 3 + u))⟩ 24).keep b6
  have hR := BoxT.keep (BoxT.alloc (BoxT.new w (a5 0 0 0 ⟨#[]⟩ 0) 35) _) b6
  have hbf : Below w.heap.size w w6 := (((Below.refl w.heap.size w).alloc (Nat.le_refl _) _).alloc (by simp) _).trans (b6.mono (by simp; omega))
  have hs6 := hbf.size
  obtain ⟨⟨c0, y0⟩, ⟨c1, y1⟩, ⟨c2, y2⟩, ⟨c3, y3⟩⟩ := hV.cells
  have hsa : (w.alloc (.cells (a5 0 0 0 ⟨#[]⟩ 0) 35)).heap.size = w.heap.size + 1 := by simp
  rw [hsa] at c0 c1 c2 c3
  clear hsa
  obtain ⟨⟨d0, z0⟩, ⟨d1, z1⟩, ⟨d2, z2⟩, ⟨d3, z3⟩, ⟨d4, z4⟩⟩ := B5.cells hR
  clear b6 hV hR y0 y1 y2 y3 hs6
  go_wp2_with fail
  exact bodyPost_ret (v := Z5) (by simp [results, Try.results28, go_sem, d0, d1, d2, d3, d4] <;> omega) rfl ⟨rfl, (((((hbf).setCell (p := ⟨w.heap.size, 0, none⟩) (Nat.le_refl _) _).setCell (p := ⟨w.heap.size, 1, none⟩) (Nat.le_refl _) _).setCell (p := ⟨w.heap.size, 2, none⟩) (Nat.le_refl _) _).setCell (p := ⟨w.heap.size, 3, none⟩) (Nat.le_refl _) _).setCell (p := ⟨w.heap.size, 4, none⟩) (Nat.le_refl _) _⟩

set_option maxRecDepth 100000 in
set_option maxHeartbeats 1000000 in
theorem rdec_ef (s : ByteArray) (a : Nat) (ha : a < s.size) (hsz : s.size ≤ 1000000) (k : Nat) (hk : sAt s a = k) (hk4 : 4 < k) (hg : goodV k 0 0 ⟨#[]⟩ = false) (w : World) : Calls Try.prog 28 #[.string s, .int .i64 a] w fun e w' => e = .returned Z5 ∧ Below w.heap.size w w' := by
  have hst := run_sf
  have t1 : decide ((a : Int) < 0) = false := by rw [decide_eq_false]; omega
  have t2 : decide ((s.size : Int) ≤ (a : Int)) = false := by rw [decide_eq_false]; omega
  have t3 : decide (s.size ≤ a) = false := by rw [decide_eq_false]; omega
  have hk2 := (sAt_eq s a ha).trans hk
  have HG := Lib.hid (rgood_any k 0 0 ⟨#[]⟩)
  rw [hg] at HG
  clear hg
  have hkl := sAt_lt s a
  have e0 : ((k : Int) == 0) = false := by rw [beq_eq_false_iff_ne]; omega
  have e1 : ((k : Int) == 1) = false := by rw [beq_eq_false_iff_ne]; omega
  have e2 : ((k : Int) == 2) = false := by rw [beq_eq_false_iff_ne]; omega
  have e3 : ((k : Int) == 3) = false := by rw [beq_eq_false_iff_ne]; omega
  have e4 : ((k : Int) == 4) = false := by rw [beq_eq_false_iff_ne]; omega
  have hkw : IntKind.i64.wrap (k : Int) = (k : Int) := by rw [IntKind.wrap_i64]; omega
  clear hk
  go_enter Try.func28, Try.ntmps28
  go_wp2_with fail
  refine (HG.out _).mono ?_
  rintro e w6 ⟨rfl, b6⟩
  have hV := (RdB.new (w.alloc (.cells (a5 0 0 0 ⟨#[]⟩ 0) 35)) ⟨k, 0, 0, ⟨#[]⟩⟩ 24).keep b6
  have hR := BoxT.keep (BoxT.alloc (BoxT.new w (a5 0 0 0 ⟨#[]⟩ 0) 35) _) b6
  have hbf : Below w.heap.size w w6 := (((Below.refl w.heap.size w).alloc (Nat.le_refl _) _).alloc (by simp) _).trans (b6.mono (by simp; omega))
  have hs6 := hbf.size
  obtain ⟨⟨c0, y0⟩, ⟨c1, y1⟩, ⟨c2, y2⟩, ⟨c3, y3⟩⟩ := hV.cells
  have hsa : (w.alloc (.cells (a5 0 0 0 ⟨#[]⟩ 0) 35)).heap.size = w.heap.size + 1 := by simp
  rw [hsa] at c0 c1 c2 c3
  clear hsa
  obtain ⟨⟨d0, z0⟩, ⟨d1, z1⟩, ⟨d2, z2⟩, ⟨d3, z3⟩, ⟨d4, z4⟩⟩ := B5.cells hR
  clear b6 hV hR y0 y1 y2 y3 hs6
  go_wp2_with fail
  exact bodyPost_ret (v := Z5) (by simp [results, Try.results28, go_sem, d0, d1, d2, d3, d4] <;> omega) rfl ⟨rfl, (((((hbf).setCell (p := ⟨w.heap.size, 0, none⟩) (Nat.le_refl _) _).setCell (p := ⟨w.heap.size, 1, none⟩) (Nat.le_refl _) _).setCell (p := ⟨w.heap.size, 2, none⟩) (Nat.le_refl _) _).setCell (p := ⟨w.heap.size, 3, none⟩) (Nat.le_refl _) _).setCell (p := ⟨w.heap.size, 4, none⟩) (Nat.le_refl _) _⟩

set_option maxRecDepth 100000 in
set_option maxHeartbeats 1000000 in
theorem rdec_3t (s : ByteArray) (a : Nat) (ha : a < s.size) (hsz : s.size ≤ 1000000) (hk : sAt s a = 3) (h : a + 9 ≤ s.size) (ho : fromOK (numB s (a + 1) 8) = true) (hg : goodV 3 0 (fromF (numB s (a + 1) 8)) ⟨#[]⟩ = true) (w : World) : Calls Try.prog 28 #[.string s, .int .i64 a] w fun e w' => e = .returned (r5 3 0 (fromF (numB s (a + 1) 8)) ⟨#[]⟩ 9) ∧ Below w.heap.size w w' := by
  have hst := run_sf
  have t1 : decide ((a : Int) < 0) = false := by rw [decide_eq_false]; omega
  have t2 : decide ((s.size : Int) ≤ (a : Int)) = false := by rw [decide_eq_false]; omega
  have t3 : decide (s.size ≤ a) = false := by rw [decide_eq_false]; omega
  have hk2 := (sAt_eq s a ha).trans hk
  have HG := Lib.hid (rgood_any 3 0 (fromF (numB s (a + 1) 8)) ⟨#[]⟩)
  rw [hg] at HG
  clear hg
  have t5 : decide ((s.size : Int) - (a : Int) - 1 < 8) = false := by rw [decide_eq_false]; omega
  have hz : ((a : Int) + 1).toNat = a + 1 := by omega
  have hz9 : ((a : Int) + 9).toNat = a + 9 := by omega
  have hi1 : (0 : Int) ≤ (a : Int) + 1 := by omega
  have hi2 : (a : Int) + 1 ≤ (a : Int) + 9 := by omega
  have hi3 : (a : Int) + 9 ≤ (s.size : Int) := by omega
  have HN := Lib.hid (rnum_at9 s a h)
  have HF := Lib.hid (rfrom_any (numB s (a + 1) 8) (numB_lt s (a + 1) 8))
  rw [ho] at HF
  clear ho
  generalize fromF (numB s (a + 1) 8) = z at *
  generalize numB s (a + 1) 8 = u at *
  clear hk
  go_enter Try.func28, Try.ntmps28
  go_wp2_with fail
  refine (HN.out _).mono ?_
  rintro e w1 ⟨rfl, rfl⟩
  go_wp2_with fail
  refine (HF.out _).mono ?_
  rintro e w4 ⟨rfl, b4⟩
  have hV4 := (RdB.new (w.alloc (.cells (a5 0 0 0 ⟨#[]⟩ 0) 35)) ⟨3, 0, 0, ⟨#[]⟩⟩ 24).keep b4
  have hsa : (w.alloc (.cells (a5 0 0 0 ⟨#[]⟩ 0) 35)).heap.size = w.heap.size + 1 := by simp
  rw [hsa] at hV4
  clear hsa
  have hR4 := BoxT.keep (BoxT.alloc (BoxT.new w (a5 0 0 0 ⟨#[]⟩ 0) 35) (.cells (va 3 0 0 ⟨#[]⟩) 24)) b4
  have hb4 : Below w.heap.size w w4 := (((Below.refl w.heap.size w).alloc (Nat.le_refl _) _).alloc (by simp) _).trans (b4.mono (by simp; omega))
  have hs4 : w.heap.size + 1 < w4.heap.size := by have := b4.size; simp at this; omega
  have hn1 : w4.heap.size ≠ w.heap.size + 1 := by omega
  have hn2 : w4.heap.size ≠ w.heap.size := by omega
  have hn3 : w.heap.size + 1 ≠ w4.heap.size := by omega
  have hn4 : w.heap.size ≠ w4.heap.size := by omega
  have hV5 := BoxT.alloc hV4 (.cells #[.float .f64 z, .bool true] 62)
  have hR5 := BoxT.alloc hR4 (.cells #[.float .f64 z, .bool true] 62)
  obtain ⟨⟨c0, y0⟩, ⟨c1, y1⟩, ⟨c2, y2⟩, ⟨c3, y3⟩⟩ := RdB.cells hV5
  obtain ⟨⟨d0, z0⟩, ⟨d1, z1⟩, ⟨d2, z2⟩, ⟨d3, z3⟩, ⟨d4, z4⟩⟩ := B5.cells hR5
  have HV4 := Lib.hid hV4
  have HR4 := Lib.hid hR4
  clear b4 hV4 hR4 hs4 hV5 hR5
  go_wp2_with fail
  have hV4 := HV4.out
  have hR4 := HR4.out
  clear c0 y0 c1 y1 c2 y2 c3 y3 d0 z0 d1 z1 d2 z2 d3 z3 d4 z4
  refine (HG.out _).mono ?_
  rintro e w6 ⟨rfl, b6⟩
  have hV := (RdB.set2 (BoxT.alloc hV4 _) z).keep b6
  have hR := BoxT.keep (BoxT.other (BoxT.alloc hR4 _) ⟨w.heap.size + 1, 2, none⟩ (by simp) _) b6
  have hbf : Below w.heap.size w w6 := ((hb4.alloc hb4.size _).setCell (p := ⟨w.heap.size + 1, 2, none⟩) (by simp) _).trans (b6.mono (by have := hb4.size; simp [World.setCell]; omega))
  have hs6 := hbf.size
  obtain ⟨⟨c0, y0⟩, ⟨c1, y1⟩, ⟨c2, y2⟩, ⟨c3, y3⟩⟩ := hV.cells
  obtain ⟨⟨d0, z0⟩, ⟨d1, z1⟩, ⟨d2, z2⟩, ⟨d3, z3⟩, ⟨d4, z4⟩⟩ := B5.cells hR
  clear b6 hV hR y0 y1 y2 y3 hs6
  go_wp2_with fail
  exact bodyPost_ret (v := (r5 3 0 z ⟨#[]⟩ 9)) (by simp [results, Try.results28, go_sem, d0, d1, d2, d3, d4] <;> omega) rfl ⟨rfl, (((((hbf).setCell (p := ⟨w.heap.size, 0, none⟩) (Nat.le_refl _) _).setCell (p := ⟨w.heap.size, 1, none⟩) (Nat.le_refl _) _).setCell (p := ⟨w.heap.size, 2, none⟩) (Nat.le_refl _) _).setCell (p := ⟨w.heap.size, 3, none⟩) (Nat.le_refl _) _).setCell (p := ⟨w.heap.size, 4, none⟩) (Nat.le_refl _) _⟩

set_option maxRecDepth 100000 in
set_option maxHeartbeats 1000000 in
theorem rdec_3f (s : ByteArray) (a : Nat) (ha : a < s.size) (hsz : s.size ≤ 1000000) (hk : sAt s a = 3) (h : a + 9 ≤ s.size) (ho : fromOK (numB s (a + 1) 8) = true) (hg : goodV 3 0 (fromF (numB s (a + 1) 8)) ⟨#[]⟩ = false) (w : World) : Calls Try.prog 28 #[.string s, .int .i64 a] w fun e w' => e = .returned Z5 ∧ Below w.heap.size w w' := by
  have hst := run_sf
  have t1 : decide ((a : Int) < 0) = false := by rw [decide_eq_false]; omega
  have t2 : decide ((s.size : Int) ≤ (a : Int)) = false := by rw [decide_eq_false]; omega
  have t3 : decide (s.size ≤ a) = false := by rw [decide_eq_false]; omega
  have hk2 := (sAt_eq s a ha).trans hk
  have HG := Lib.hid (rgood_any 3 0 (fromF (numB s (a + 1) 8)) ⟨#[]⟩)
  rw [hg] at HG
  clear hg
  have t5 : decide ((s.size : Int) - (a : Int) - 1 < 8) = false := by rw [decide_eq_false]; omega
  have hz : ((a : Int) + 1).toNat = a + 1 := by omega
  have hz9 : ((a : Int) + 9).toNat = a + 9 := by omega
  have hi1 : (0 : Int) ≤ (a : Int) + 1 := by omega
  have hi2 : (a : Int) + 1 ≤ (a : Int) + 9 := by omega
  have hi3 : (a : Int) + 9 ≤ (s.size : Int) := by omega
  have HN := Lib.hid (rnum_at9 s a h)
  have HF := Lib.hid (rfrom_any (numB s (a + 1) 8) (numB_lt s (a + 1) 8))
  rw [ho] at HF
  clear ho
  generalize fromF (numB s (a + 1) 8) = z at *
  generalize numB s (a + 1) 8 = u at *
  clear hk
  go_enter Try.func28, Try.ntmps28
  go_wp2_with fail
  refine (HN.out _).mono ?_
  rintro e w1 ⟨rfl, rfl⟩
  go_wp2_with fail
  refine (HF.out _).mono ?_
  rintro e w4 ⟨rfl, b4⟩
  have hV4 := (RdB.new (w.alloc (.cells (a5 0 0 0 ⟨#[]⟩ 0) 35)) ⟨3, 0, 0, ⟨#[]⟩⟩ 24).keep b4
  have hsa : (w.alloc (.cells (a5 0 0 0 ⟨#[]⟩ 0) 35)).heap.size = w.heap.size + 1 := by simp
  rw [hsa] at hV4
  clear hsa
  have hR4 := BoxT.keep (BoxT.alloc (BoxT.new w (a5 0 0 0 ⟨#[]⟩ 0) 35) (.cells (va 3 0 0 ⟨#[]⟩) 24)) b4
  have hb4 : Below w.heap.size w w4 := (((Below.refl w.heap.size w).alloc (Nat.le_refl _) _).alloc (by simp) _).trans (b4.mono (by simp; omega))
  have hs4 : w.heap.size + 1 < w4.heap.size := by have := b4.size; simp at this; omega
  have hn1 : w4.heap.size ≠ w.heap.size + 1 := by omega
  have hn2 : w4.heap.size ≠ w.heap.size := by omega
  have hn3 : w.heap.size + 1 ≠ w4.heap.size := by omega
  have hn4 : w.heap.size ≠ w4.heap.size := by omega
  have hV5 := BoxT.alloc hV4 (.cells #[.float .f64 z, .bool true] 62)
  have hR5 := BoxT.alloc hR4 (.cells #[.float .f64 z, .bool true] 62)
  obtain ⟨⟨c0, y0⟩, ⟨c1, y1⟩, ⟨c2, y2⟩, ⟨c3, y3⟩⟩ := RdB.cells hV5
  obtain ⟨⟨d0, z0⟩, ⟨d1, z1⟩, ⟨d2, z2⟩, ⟨d3, z3⟩, ⟨d4, z4⟩⟩ := B5.cells hR5
  have HV4 := Lib.hid hV4
  have HR4 := Lib.hid hR4
  clear b4 hV4 hR4 hs4 hV5 hR5
  go_wp2_with fail
  have hV4 := HV4.out
  have hR4 := HR4.out
  clear c0 y0 c1 y1 c2 y2 c3 y3 d0 z0 d1 z1 d2 z2 d3 z3 d4 z4
  refine (HG.out _).mono ?_
  rintro e w6 ⟨rfl, b6⟩
  have hV := (RdB.set2 (BoxT.alloc hV4 _) z).keep b6
  have hR := BoxT.keep (BoxT.other (BoxT.alloc hR4 _) ⟨w.heap.size + 1, 2, none⟩ (by simp) _) b6
  have hbf : Below w.heap.size w w6 := ((hb4.alloc hb4.size _).setCell (p := ⟨w.heap.size + 1, 2, none⟩) (by simp) _).trans (b6.mono (by have := hb4.size; simp [World.setCell]; omega))
  have hs6 := hbf.size
  obtain ⟨⟨c0, y0⟩, ⟨c1, y1⟩, ⟨c2, y2⟩, ⟨c3, y3⟩⟩ := hV.cells
  obtain ⟨⟨d0, z0⟩, ⟨d1, z1⟩, ⟨d2, z2⟩, ⟨d3, z3⟩, ⟨d4, z4⟩⟩ := B5.cells hR
  clear b6 hV hR y0 y1 y2 y3 hs6
  go_wp2_with fail
  exact bodyPost_ret (v := Z5) (by simp [results, Try.results28, go_sem, d0, d1, d2, d3, d4] <;> omega) rfl ⟨rfl, (((((hbf).setCell (p := ⟨w.heap.size, 0, none⟩) (Nat.le_refl _) _).setCell (p := ⟨w.heap.size, 1, none⟩) (Nat.le_refl _) _).setCell (p := ⟨w.heap.size, 2, none⟩) (Nat.le_refl _) _).setCell (p := ⟨w.heap.size, 3, none⟩) (Nat.le_refl _) _).setCell (p := ⟨w.heap.size, 4, none⟩) (Nat.le_refl _) _⟩

set_option maxRecDepth 100000 in
set_option maxHeartbeats 1000000 in
theorem rdec_3n (s : ByteArray) (a : Nat) (ha : a < s.size) (hsz : s.size ≤ 1000000) (hk : sAt s a = 3) (h : a + 9 ≤ s.size) (ho : fromOK (numB s (a + 1) 8) = false) (w : World) : Calls Try.prog 28 #[.string s, .int .i64 a] w fun e w' => e = .returned Z5 ∧ Below w.heap.size w w' := by
  have hst := run_sf
  have t1 : decide ((a : Int) < 0) = false := by rw [decide_eq_false]; omega
  have t2 : decide ((s.size : Int) ≤ (a : Int)) = false := by rw [decide_eq_false]; omega
  have t3 : decide (s.size ≤ a) = false := by rw [decide_eq_false]; omega
  have hk2 := (sAt_eq s a ha).trans hk
  have t5 : decide ((s.size : Int) - (a : Int) - 1 < 8) = false := by rw [decide_eq_false]; omega
  have hz : ((a : Int) + 1).toNat = a + 1 := by omega
  have hz9 : ((a : Int) + 9).toNat = a + 9 := by omega
  have hi1 : (0 : Int) ≤ (a : Int) + 1 := by omega
  have hi2 : (a : Int) + 1 ≤ (a : Int) + 9 := by omega
  have hi3 : (a : Int) + 9 ≤ (s.size : Int) := by omega
  have HN := Lib.hid (rnum_at9 s a h)
  have HF := Lib.hid (rfrom_any (numB s (a + 1) 8) (numB_lt s (a + 1) 8))
  rw [ho] at HF
  clear ho
  generalize fromF (numB s (a + 1) 8) = z at *
  generalize numB s (a + 1) 8 = u at *
  clear hk
  go_enter Try.func28, Try.ntmps28
  go_wp2_with fail
  refine (HN.out _).mono ?_
  rintro e w1 ⟨rfl, rfl⟩
  go_wp2_with fail
  refine (HF.out _).mono ?_
  rintro e w4 ⟨rfl, b4⟩
  have hV4 := (RdB.new (w.alloc (.cells (a5 0 0 0 ⟨#[]⟩ 0) 35)) ⟨3, 0, 0, ⟨#[]⟩⟩ 24).keep b4
  have hsa : (w.alloc (.cells (a5 0 0 0 ⟨#[]⟩ 0) 35)).heap.size = w.heap.size + 1 := by simp
  rw [hsa] at hV4
  clear hsa
  have hR4 := BoxT.keep (BoxT.alloc (BoxT.new w (a5 0 0 0 ⟨#[]⟩ 0) 35) (.cells (va 3 0 0 ⟨#[]⟩) 24)) b4
  have hb4 : Below w.heap.size w w4 := (((Below.refl w.heap.size w).alloc (Nat.le_refl _) _).alloc (by simp) _).trans (b4.mono (by simp; omega))
  have hs4 : w.heap.size + 1 < w4.heap.size := by have := b4.size; simp at this; omega
  have hn1 : w4.heap.size ≠ w.heap.size + 1 := by omega
  have hn2 : w4.heap.size ≠ w.heap.size := by omega
  have hn3 : w.heap.size + 1 ≠ w4.heap.size := by omega
  have hn4 : w.heap.size ≠ w4.heap.size := by omega
  have hV5 := BoxT.alloc hV4 (.cells #[.float .f64 z, .bool false] 62)
  have hR5 := BoxT.alloc hR4 (.cells #[.float .f64 z, .bool false] 62)
  obtain ⟨⟨c0, y0⟩, ⟨c1, y1⟩, ⟨c2, y2⟩, ⟨c3, y3⟩⟩ := RdB.cells hV5
  obtain ⟨⟨d0, z0⟩, ⟨d1, z1⟩, ⟨d2, z2⟩, ⟨d3, z3⟩, ⟨d4, z4⟩⟩ := B5.cells hR5
  have HV4 := Lib.hid hV4
  have HR4 := Lib.hid hR4
  clear b4 hV4 hR4 hs4 hV5 hR5
  go_wp2_with fail
  have hV4 := HV4.out
  have hR4 := HR4.out
  exact bodyPost_ret (v := Z5) (by simp [results, Try.results28, go_sem, d0, d1, d2, d3, d4] <;> omega) rfl ⟨rfl, (((((hb4.alloc hb4.size _).setCell (p := ⟨w.heap.size, 0, none⟩) (Nat.le_refl _) _).setCell (p := ⟨w.heap.size, 1, none⟩) (Nat.le_refl _) _).setCell (p := ⟨w.heap.size, 2, none⟩) (Nat.le_refl _) _).setCell (p := ⟨w.heap.size, 3, none⟩) (Nat.le_refl _) _).setCell (p := ⟨w.heap.size, 4, none⟩) (Nat.le_refl _) _⟩

set_option maxRecDepth 100000 in
set_option maxHeartbeats 1000000 in
theorem rdec_1z (s : ByteArray) (a : Nat) (ha : a < s.size) (hsz : s.size ≤ 1000000) (hk : sAt s a = 1) (h : s.size < a + 2) (w : World) : Calls Try.prog 28 #[.string s, .int .i64 a] w fun e w' => e = .returned Z5 ∧ Below w.heap.size w w' := by
  have hst := run_sf
  have t1 : decide ((a : Int) < 0) = false := by rw [decide_eq_false]; omega
  have t2 : decide ((s.size : Int) ≤ (a : Int)) = false := by rw [decide_eq_false]; omega
  have t3 : decide (s.size ≤ a) = false := by rw [decide_eq_false]; omega
  have hk2 := (sAt_eq s a ha).trans hk
  have t5 : decide ((s.size : Int) - (a : Int) - 1 < 1) = true := by rw [decide_eq_true]; omega
  clear hk
  go_enter Try.func28, Try.ntmps28
  go_wp2_with fail
  all_goals first | (exfalso; omega) | exact bodyPost_ret (v := Z5) (by simp [results, Try.results28, go_sem] <;> omega) rfl ⟨rfl, ((Below.refl w.heap.size w).alloc (Nat.le_refl _) _).alloc (by simp) _⟩

set_option maxRecDepth 100000 in
set_option maxHeartbeats 1000000 in
theorem rdec_2z (s : ByteArray) (a : Nat) (ha : a < s.size) (hsz : s.size ≤ 1000000) (hk : sAt s a = 2) (h : s.size < a + 9) (w : World) : Calls Try.prog 28 #[.string s, .int .i64 a] w fun e w' => e = .returned Z5 ∧ Below w.heap.size w w' := by
  have hst := run_sf
  have t1 : decide ((a : Int) < 0) = false := by rw [decide_eq_false]; omega
  have t2 : decide ((s.size : Int) ≤ (a : Int)) = false := by rw [decide_eq_false]; omega
  have t3 : decide (s.size ≤ a) = false := by rw [decide_eq_false]; omega
  have hk2 := (sAt_eq s a ha).trans hk
  have t5 : decide ((s.size : Int) - (a : Int) - 1 < 8) = true := by rw [decide_eq_true]; omega
  clear hk
  go_enter Try.func28, Try.ntmps28
  go_wp2_with fail
  all_goals first | (exfalso; omega) | exact bodyPost_ret (v := Z5) (by simp [results, Try.results28, go_sem] <;> omega) rfl ⟨rfl, ((Below.refl w.heap.size w).alloc (Nat.le_refl _) _).alloc (by simp) _⟩

set_option maxRecDepth 100000 in
set_option maxHeartbeats 1000000 in
theorem rdec_3z (s : ByteArray) (a : Nat) (ha : a < s.size) (hsz : s.size ≤ 1000000) (hk : sAt s a = 3) (h : s.size < a + 9) (w : World) : Calls Try.prog 28 #[.string s, .int .i64 a] w fun e w' => e = .returned Z5 ∧ Below w.heap.size w w' := by
  have hst := run_sf
  have t1 : decide ((a : Int) < 0) = false := by rw [decide_eq_false]; omega
  have t2 : decide ((s.size : Int) ≤ (a : Int)) = false := by rw [decide_eq_false]; omega
  have t3 : decide (s.size ≤ a) = false := by rw [decide_eq_false]; omega
  have hk2 := (sAt_eq s a ha).trans hk
  have t5 : decide ((s.size : Int) - (a : Int) - 1 < 8) = true := by rw [decide_eq_true]; omega
  clear hk
  go_enter Try.func28, Try.ntmps28
  go_wp2_with fail
  all_goals first | (exfalso; omega) | exact bodyPost_ret (v := Z5) (by simp [results, Try.results28, go_sem] <;> omega) rfl ⟨rfl, ((Below.refl w.heap.size w).alloc (Nat.le_refl _) _).alloc (by simp) _⟩

set_option maxRecDepth 100000 in
set_option maxHeartbeats 1000000 in
theorem rdec_4z (s : ByteArray) (a : Nat) (ha : a < s.size) (hsz : s.size ≤ 1000000) (hk : sAt s a = 4) (h : s.size < a + 3) (w : World) : Calls Try.prog 28 #[.string s, .int .i64 a] w fun e w' => e = .returned Z5 ∧ Below w.heap.size w w' := by
  have hst := run_sf
  have t1 : decide ((a : Int) < 0) = false := by rw [decide_eq_false]; omega
  have t2 : decide ((s.size : Int) ≤ (a : Int)) = false := by rw [decide_eq_false]; omega
  have t3 : decide (s.size ≤ a) = false := by rw [decide_eq_false]; omega
  have hk2 := (sAt_eq s a ha).trans hk
  have t5 : decide ((s.size : Int) - (a : Int) - 1 < 2) = true := by rw [decide_eq_true]; omega
  clear hk
  go_enter Try.func28, Try.ntmps28
  go_wp2_with fail
  all_goals first | (exfalso; omega) | exact bodyPost_ret (v := Z5) (by simp [results, Try.results28, go_sem] <;> omega) rfl ⟨rfl, ((Below.refl w.heap.size w).alloc (Nat.le_refl _) _).alloc (by simp) _⟩

set_option maxRecDepth 100000 in
set_option maxHeartbeats 1000000 in
theorem rdec_4m (s : ByteArray) (a : Nat) (ha : a < s.size) (hsz : s.size ≤ 1000000) (hk : sAt s a = 4) (h : a + 3 ≤ s.size) (h4 : s.size < a + 3 + numB s (a + 1) 2) (w : World) : Calls Try.prog 28 #[.string s, .int .i64 a] w fun e w' => e = .returned Z5 ∧ Below w.heap.size w w' := by
  have hst := run_sf
  have t1 : decide ((a : Int) < 0) = false := by rw [decide_eq_false]; omega
  have t2 : decide ((s.size : Int) ≤ (a : Int)) = false := by rw [decide_eq_false]; omega
  have t3 : decide (s.size ≤ a) = false := by rw [decide_eq_false]; omega
  have hk2 := (sAt_eq s a ha).trans hk
  have hu := numB_lt s (a + 1) 2
  have hw : IntKind.i64.wrap ((numB s (a + 1) 2 : Nat) : Int) = ((numB s (a + 1) 2 : Nat) : Int) := by rw [IntKind.wrap_i64]; omega
  have HN := Lib.hid (rnum_at3 s a h)
  generalize numB s (a + 1) 2 = u at *
  have t5 : decide ((s.size : Int) - (a : Int) - 1 < 2) = false := by rw [decide_eq_false]; omega
  have t6 : decide ((s.size : Int) - (a : Int) - 1 - 2 < (u : Int)) = true := by rw [decide_eq_true]; omega
  have hz : ((a : Int) + 1).toNat = a + 1 := by omega
  have hz3 : ((a : Int) + 3).toNat = a + 3 := by omega
  have hi1 : (0 : Int) ≤ (a : Int) + 1 := by omega
  have hi2 : (a : Int) + 1 ≤ (a : Int) + 3 := by omega
  have hi3 : (a : Int) + 3 ≤ (s.size : Int) := by omega
  clear hk
  go_enter Try.func28, Try.ntmps28
  go_wp2_with fail
  refine (HN.out _).mono ?_
  rintro e w1 ⟨rfl, rfl⟩
  go_wp2_with fail
  all_goals first | (exfalso; omega) | exact bodyPost_ret (v := Z5) (by simp [results, Try.results28, go_sem] <;> omega) rfl ⟨rfl, ((Below.refl w.heap.size w).alloc (Nat.le_refl _) _).alloc (by simp) _⟩

theorem rdec_nat (s : ByteArray) (a : Nat) (hsz : s.size ≤ 1000000) (w : World) : Calls Try.prog 28 #[.string s, .int .i64 a] w fun e w' => e = .returned (r5 (gV (gotA s a)).kind (gV (gotA s a)).n (gV (gotA s a)).f (gV (gotA s a)).s (gN (gotA s a) : Nat)) ∧ Below w.heap.size w w' := by
  by_cases ha : a < s.size
  · unfold gotA rawV
    rw [if_pos ha]
    by_cases h0 : sAt s a = 0
    · rw [if_pos h0, Option.bind_some]
      cases hg : goodV 0 0 0 ⟨#[]⟩ with
      | true => exact rdec_0t s a ha hsz h0 hg w
      | false => exact rdec_0f s a ha hsz h0 hg w
    rw [if_neg h0]
    by_cases h1 : sAt s a = 1
    · rw [if_pos h1]
      by_cases hs : a + 2 ≤ s.size
      · rw [if_pos hs, Option.bind_some]
        cases hg : goodV 1 (sAt s (a + 1) : Nat) 0 ⟨#[]⟩ with
        | true => exact rdec_1t s a ha hsz h1 hs hg w
        | false => exact rdec_1f s a ha hsz h1 hs hg w
      · rw [if_neg hs]
        exact rdec_1z s a ha hsz h1 (by omega) w
    rw [if_neg h1]
    by_cases h2 : sAt s a = 2
    · rw [if_pos h2]
      by_cases hs : a + 9 ≤ s.size
      · rw [if_pos hs, Option.bind_some]
        cases hg : goodV 2 (sg (numB s (a + 1) 8)) 0 ⟨#[]⟩ with
        | true => exact rdec_2t s a ha hsz h2 hs hg w
        | false => exact rdec_2f s a ha hsz h2 hs hg w
      · rw [if_neg hs]
        exact rdec_2z s a ha hsz h2 (by omega) w
    rw [if_neg h2]
    by_cases h3 : sAt s a = 3
    · rw [if_pos h3]
      by_cases hs : a + 9 ≤ s.size
      · cases ho : fromOK (numB s (a + 1) 8) with
        | true =>
          rw [if_pos ⟨hs, rfl⟩, Option.bind_some]
          cases hg : goodV 3 0 (fromF (numB s (a + 1) 8)) ⟨#[]⟩ with
          | true => exact rdec_3t s a ha hsz h3 hs ho hg w
          | false => exact rdec_3f s a ha hsz h3 hs ho hg w
        | false =>
          rw [if_neg (fun h => absurd h.2 (by simp))]
          exact rdec_3n s a ha hsz h3 hs ho w
      · rw [if_neg (fun h => hs h.1)]
        exact rdec_3z s a ha hsz h3 (by omega) w
    rw [if_neg h3]
    by_cases h4 : sAt s a = 4
    · rw [if_pos h4]
      by_cases hs : a + 3 ≤ s.size
      · by_cases hu : a + 3 + numB s (a + 1) 2 ≤ s.size
        · rw [if_pos ⟨hs, hu⟩, Option.bind_some]
          cases hg : goodV 4 0 0 (s.extract (a + 3) (a + 3 + numB s (a + 1) 2)) with
          | true =>
            have e : 2 + numB s (a + 1) 2 + 1 = 3 + numB s (a + 1) 2 := by omega
            rw [if_pos rfl, e]
            exact rdec_4t s a ha hsz h4 hs hu hg w
          | false => exact rdec_4f s a ha hsz h4 hs hu hg w
        · rw [if_neg (fun h => hu h.2)]
          exact rdec_4m s a ha hsz h4 hs (by omega) w
      · rw [if_neg (fun h => hs h.1)]
        exact rdec_4z s a ha hsz h4 (by omega) w
    · rw [if_neg h4]
      cases hg : goodV (sAt s a : Nat) 0 0 ⟨#[]⟩ with
      | true =>
        have := goodV_kind hg
        omega
      | false => exact rdec_ef s a ha hsz (sAt s a) rfl (by omega) hg w
  · have e : gotA s a = none := by unfold gotA; rw [if_neg ha]
    rw [e]
    exact rdec_high s a (by omega) w
theorem rdec_any (s : ByteArray) (p : Int) (hsz : s.size ≤ 1000000) (w : World) : Calls Try.prog 28 #[.string s, .int .i64 p] w fun e w' => e = .returned (r5 (gV (gotV s p)).kind (gV (gotV s p)).n (gV (gotV s p)).f (gV (gotV s p)).s (gN (gotV s p) : Nat)) ∧ Below w.heap.size w w' := by
  unfold gotV
  by_cases hp : 0 ≤ p
  · rw [if_pos hp]
    obtain ⟨a, rfl⟩ : ∃ a : Nat, p = a := ⟨p.toNat, by omega⟩
    rw [Int.toNat_natCast]
    exact rdec_nat s a hsz w
  · rw [if_neg hp]
    exact rdec_low s p (by omega) w
end Go.Proofs.Ytmgpecomgffelaa
