/- Contract: the value whose bytes stand at a place (of the program). -/
import Derived.Test.YtmgpecomgffelaaCodD
import Derived.Test.YtmgpecomgffelaaCopy
import Derived.BigRegion
import Derived.Deep.RegionHeld3
namespace Go.Proofs.Ytmgpecomgffelaa
open Go.RowKit
set_option linter.unusedVariables false
/-- A box's cells, all of them, and that they may be written. -/
def BoxT (w : World) (b : Nat) (cs : Array Value) : Prop := ∀ j v, cs[j]? = some v → w.cell? ⟨b, j, none⟩ = some v ∧ w.frozen? ⟨b, j, none⟩ = false
theorem BoxT.new (w : World) (cs : Array Value) (t : TypeId) : BoxT (w.alloc (.cells cs t)) w.heap.size cs := fun j v h => ⟨by rw [World.cell?_alloc_new]; exact h, World.frozen?_alloc_new _ _ _ _⟩
theorem BoxT.keep {w w' : World} {b : Nat} {cs : Array Value} (h : BoxT w b cs) (hb : Below w.heap.size w w') : BoxT w' b cs := fun j v hj => by
  obtain ⟨a, c⟩ := h j v hj
  exact ⟨kc hb a, (hb.frozen (p := ⟨b, j, none⟩) (World.block_lt_of_cell? _ _ a)).trans c⟩
theorem BoxT.set {w : World} {b : Nat} {cs : Array Value} (h : BoxT w b cs) (i : Nat) (hi : i < cs.size) (v : Value) : BoxT (w.setCell ⟨b, i, none⟩ v) b (cs.set i v) := fun j u hj => by
  refine ⟨?_, ?_⟩
  · by_cases e : i = j
    · subst e
      rw [Array.getElem?_set_self] at hj
      cases hj
      exact World.cell?_setCell_same _ _ _ (h i _ (Array.getElem?_eq_getElem hi)).1
    · rw [Array.getElem?_set_ne _ e] at hj
      exact (World.cell?_setCell_other _ _ _ _ (fun h => by cases h; exact e rfl)).trans (h j u hj).1
  · rw [World.frozen?_setCell]
    have hj' : j < cs.size := by
      have := (Array.getElem?_eq_some_iff.1 hj).1
      simpa using this
    exact (h j _ (Array.getElem?_eq_getElem hj')).2
theorem BoxT.there {w : World} {b : Nat} {cs : Array Value} (h : BoxT w b cs) : w.there b 0 cs.size := fun j hj => by
  obtain ⟨x, y⟩ := h j _ (Array.getElem?_eq_getElem hj)
  rw [Nat.zero_add, x]
  exact ⟨rfl, y⟩
theorem res_cell {P : Program} {fn : Func} {t : Tmp} {ty : TypeId} (h : fn.results = #[.cell t ty]) (tmps : Array Value) (b : Nat) (ht : tmps.getD t undef = .pointer (some ⟨b, 0, none⟩)) (w : World) (v : Value) (hl : (loadVar ty ⟨b, 0, none⟩).run P w = .ok v w) : (results fn tmps).run P w = .ok v w := by
  have ha : asAddr (.pointer (some ⟨b, 0, none⟩)) = pure ⟨b, 0, none⟩ := rfl
  rw [Array.getD_eq_getD_getElem?] at ht
  simp [results, h, ht, ha, hl]
abbrev va (k n : Int) (f : Nat) (s : ByteArray) : Array Value := #[.int .i64 k, .int .i64 n, .float .f64 f, .string s]
/-- A variable that holds a value. -/
def RdB (w : World) (b : Nat) (v : Val) : Prop := BoxT w b (va v.kind v.n v.f v.s)
theorem RdB.new (w : World) (v : Val) (t : TypeId) : RdB (w.alloc (.cells (va v.kind v.n v.f v.s) t)) w.heap.size v := BoxT.new w _ t
theorem RdB.keep {w w' : World} {b : Nat} {v : Val} (h : RdB w b v) (hb : Below w.heap.size w w') : RdB w' b v := BoxT.keep h hb
theorem RdB.set {w : World} {b : Nat} {v : Val} (h : RdB w b v) (k n : Int) (f : Nat) (s : ByteArray) : RdB ((((w.setCell ⟨b, 0, none⟩ (.int .i64 k)).setCell ⟨b, 1, none⟩ (.int .i64 n)).setCell ⟨b, 2, none⟩ (.float .f64 f)).setCell ⟨b, 3, none⟩ (.string s)) b ⟨k, n, f, s⟩ :=
  (((BoxT.set h 0 (by simp) (.int .i64 k)).set 1 (by simp) (.int .i64 n)).set 2 (by simp) (.float .f64 f)).set 3 (by simp) (.string s)
theorem RdB.c0 {w : World} {b : Nat} {v : Val} (h : RdB w b v) : w.cell? ⟨b, 0, none⟩ = some (.int .i64 v.kind) ∧ w.frozen? ⟨b, 0, none⟩ = false := h 0 _ rfl
theorem RdB.c1 {w : World} {b : Nat} {v : Val} (h : RdB w b v) : w.cell? ⟨b, 1, none⟩ = some (.int .i64 v.n) ∧ w.frozen? ⟨b, 1, none⟩ = false := h 1 _ rfl
theorem RdB.c2 {w : World} {b : Nat} {v : Val} (h : RdB w b v) : w.cell? ⟨b, 2, none⟩ = some (.float .f64 v.f) ∧ w.frozen? ⟨b, 2, none⟩ = false := h 2 _ rfl
theorem RdB.c3 {w : World} {b : Nat} {v : Val} (h : RdB w b v) : w.cell? ⟨b, 3, none⟩ = some (.string v.s) ∧ w.frozen? ⟨b, 3, none⟩ = false := h 3 _ rfl
section
variable {w : World} {o : Oper} {a : Act} {K : Act → World → Prop} {Q : Exit → Act → World → Prop}
theorem wp_store24 (x y : Operand) (ho : o.op = .store 24 x y) (b : Nat) (v : Val) (k n : Int) (f : Nat) (s : ByteArray) (hx : a.eval x = .pointer (some ⟨b, 0, none⟩)) (hy : a.eval y = vv k n f s) (hP : RdB w b v)
    (h : ∀ w', RdB w' b ⟨k, n, f, s⟩ → (∀ B0, B0 ≤ b → Below B0 w w') → K (a.put o.dst undef) w') : o.wp Try.prog a w K Q := by
  refine wp_store_mid 24 x y ho b 0 #[.int .i64 k, .int .i64 n, .float .f64 f, .string s] hx hy (show w.there b 0 4 from BoxT.there hP) (by kernel_rfl) (by simp [Value.oneCell']) ?_
  refine h _ (hP.set k n f s) fun B0 hB => ?_
  exact ((((Below.refl _ _).setCell (p := ⟨b, 0, none⟩) hB _).setCell (p := ⟨b, 1, none⟩) hB _).setCell (p := ⟨b, 2, none⟩) hB _).setCell (p := ⟨b, 3, none⟩) hB _
end
def V0 : Val := ⟨0, 0, 0, ⟨#[]⟩⟩
def toO (x : Bod) : Option (Val × Nat) := if x.o then some (x.v, x.n) else none
theorem raw_bod (s : ByteArray) (a : Nat) (ha : a < s.size) : rawV s a = toO (bod (sAt s a) (s.extract (a + 1) s.size)) := by
  have hz : (s.extract (a + 1) s.size).size = s.size - (a + 1) := size_extract _ _ _ (Nat.le_refl _)
  unfold rawV bod
  rw [hz]
  by_cases h0 : sAt s a = 0
  · rw [if_pos h0, if_pos h0]; rfl
  rw [if_neg h0, if_neg h0]
  by_cases h1 : sAt s a = 1
  · rw [if_pos h1, if_pos h1]
    by_cases hs : a + 2 ≤ s.size
    · rw [if_pos hs, if_pos (by omega), sAt_extract _ _ _ _ (Nat.le_refl _) (by omega)]; rfl
    · rw [if_neg hs, if_neg (by omega)]; rfl
  rw [if_neg h1, if_neg h1]
  by_cases h2 : sAt s a = 2
  · rw [if_pos h2, if_pos h2]
    by_cases hs : a + 9 ≤ s.size
    · rw [if_pos hs, if_pos (by omega), numB_extract _ _ _ _ _ (Nat.le_refl _) (by omega)]; rfl
    · rw [if_neg hs, if_neg (by omega)]; rfl
  rw [if_neg h2, if_neg h2]
  by_cases h3 : sAt s a = 3
  · rw [if_pos h3, if_pos h3]
    by_cases hs : a + 9 ≤ s.size
    · rw [if_pos (by omega : 8 ≤ s.size - (a + 1)), numB_extract _ _ _ _ _ (Nat.le_refl _) (by omega), Nat.add_zero]
      cases ho : fromOK (numB s (a + 1) 8) with
      | true => rw [if_pos ⟨hs, rfl⟩]; rfl
      | false => rw [if_neg (fun h => absurd h.2 (by simp))]; rfl
    · rw [if_neg (fun h => hs h.1), if_neg (by omega)]; rfl
  rw [if_neg h3, if_neg h3]
  by_cases h4 : sAt s a = 4
  · rw [if_pos h4, if_pos h4]
    by_cases hs : a + 3 ≤ s.size
    · rw [numB_extract _ _ _ _ _ (Nat.le_refl _) (by omega), Nat.add_zero (a + 1)]
      by_cases hu : a + 3 + numB s (a + 1) 2 ≤ s.size
      · rw [if_pos ⟨hs, hu⟩, if_pos (by omega), extract_extract _ _ _ _ _ (Nat.le_refl _) (by omega) (by omega), Nat.add_assoc a 1 2, Nat.add_assoc a 1 (2 + _), ← Nat.add_assoc 1 2, ← Nat.add_assoc a (1 + 2)]
        rfl
      · rw [if_neg (fun h => hu h.2), if_neg (by omega)]; rfl
    · rw [if_neg (fun h => hs h.1), if_neg (by omega)]; rfl
  · rw [if_neg h4, if_neg h4]; rfl
/-- What Decode says: the value, its size, and whether there is one. -/
def gV (o : Option (Val × Nat)) : Val := (o.getD (V0, 0)).1
def gN (o : Option (Val × Nat)) : Nat := (o.getD (V0, 0)).2
theorem gotA_bod (s : ByteArray) (a : Nat) (ha : a < s.size) : gotA s a = if (bod (sAt s a) (s.extract (a + 1) s.size)).o && gd (bod (sAt s a) (s.extract (a + 1) s.size)).v then some ((bod (sAt s a) (s.extract (a + 1) s.size)).v, (bod (sAt s a) (s.extract (a + 1) s.size)).n + 1) else none := by
  unfold gotA
  rw [if_pos ha, raw_bod s a ha]
  generalize bod (sAt s a) (s.extract (a + 1) s.size) = x
  unfold toO
  cases x.o with
  | true =>
    rw [if_pos rfl, Option.bind_some, Bool.true_and]
  | false =>
    rw [if_neg (by simp), Bool.false_and]
    rfl
theorem bod_n (k : Nat) (t : ByteArray) : (bod k t).n ≤ 65537 := by
  have h := numB_lt t 0 2
  unfold bod
  repeat' split
  all_goals first | (simp; done) | (simp; omega)

set_option maxRecDepth 100000 in
theorem dec_low (s : ByteArray) (p : Int) (hp : p < 0) (w : World) : Calls Try.prog 27 #[.string s, .int .i64 p] w fun e w' => e = .returned (.tuple #[vv 0 0 0 ⟨#[]⟩, .int .i64 0, .bool false]) ∧ Below w.heap.size w w' := by
  have hst := run_sf
  have t1 : decide (p < 0) = true := decide_eq_true hp
  go_enter Try.func27, Try.ntmps27
  go_wp2_with fail
  exact bodyPost_ret (v := .tuple #[vv 0 0 0 ⟨#[]⟩, .int .i64 0, .bool false]) (by simp [results, Try.results27, go_sem]) rfl ⟨rfl, by first | exact (Below.refl _ _).alloc (Nat.le_refl _) _ | exact ((Below.refl _ _).alloc (Nat.le_refl _) _).setCell (Nat.le_refl _) _⟩
set_option maxRecDepth 100000 in
theorem dec_high (s : ByteArray) (p : Int) (hp : (s.size : Int) ≤ p) (w : World) : Calls Try.prog 27 #[.string s, .int .i64 p] w fun e w' => e = .returned (.tuple #[vv 0 0 0 ⟨#[]⟩, .int .i64 0, .bool false]) ∧ Below w.heap.size w w' := by
  have hst := run_sf
  have t1 : decide (p < 0) = false := by rw [decide_eq_false]; omega
  have t2 : decide ((s.size : Int) ≤ p) = true := decide_eq_true hp
  go_enter Try.func27, Try.ntmps27
  go_wp2_with fail
  exact bodyPost_ret (v := .tuple #[vv 0 0 0 ⟨#[]⟩, .int .i64 0, .bool false]) (by simp [results, Try.results27, go_sem]) rfl ⟨rfl, by first | exact (Below.refl _ _).alloc (Nat.le_refl _) _ | exact ((Below.refl _ _).alloc (Nat.le_refl _) _).setCell (Nat.le_refl _) _⟩

set_option maxRecDepth 100000 in
set_option maxHeartbeats 1000000 in
theorem dec_f (s : ByteArray) (a : Nat) (ha : a < s.size) (hsz : s.size ≤ 1000000) (ho : (bod (sAt s a) (s.extract (a + 1) s.size)).o = false) (w : World) : Calls Try.prog 27 #[.string s, .int .i64 a] w fun e w' => e = .returned (.tuple #[vv 0 0 0 ⟨#[]⟩, .int .i64 0, .bool false]) ∧ Below w.heap.size w w' := by
  have hst := run_sf
  have t1 : decide ((a : Int) < 0) = false := by rw [decide_eq_false]; omega
  have t2 : decide ((s.size : Int) ≤ (a : Int)) = false := by rw [decide_eq_false]; omega
  have t3 : decide (s.size ≤ a) = false := by rw [decide_eq_false]; omega
  have hz : (s.extract (a + 1) s.size).size = s.size - (a + 1) := size_extract _ _ _ (Nat.le_refl _)
  have HB := Lib.hid (body_any (sAt s a) (s.extract (a + 1) s.size) (by omega))
  have hm := bod_n (sAt s a) (s.extract (a + 1) s.size)
  have hz1 : (s.extract a s.size).size = s.size - a := size_extract _ _ _ (Nat.le_refl _)
  have hpos : 0 < (s.extract a s.size).size := by omega
  have hk : ((s.extract a s.size)[0]'hpos).toNat = sAt s a := (sAt_eq _ 0 (by omega)).trans (by rw [sAt_extract _ _ _ _ (Nat.le_refl _) (by omega), Nat.add_zero])
  have hkl := sAt_lt s a
  have he : (s.extract a s.size).extract 1 (s.extract a s.size).size = s.extract (a + 1) s.size := by
    rw [hz1, extract_extract _ _ _ _ _ (Nat.le_refl _) (Nat.le_refl _) (by omega)]
    congr 1
    omega
  generalize bod (sAt s a) (s.extract (a + 1) s.size) = X at *
  obtain ⟨⟨x, y, f, z⟩, m, ok⟩ := X
  simp only at ho hm HB
  subst ho
  rw [← he] at HB
  skip
  skip
  skip
  skip
  have Hr := Lib.hid hz1
  have hposI : (1 : Int) ≤ ((s.extract a s.size).size : Int) := by omega
  have hpos1 : 1 ≤ (s.extract a s.size).size := by omega
  clear hz hz1 he
  generalize sAt s a = k at *
  have hkw : IntKind.i64.wrap (k : Int) = (k : Int) := by rw [IntKind.wrap_i64]; omega
  have hle : a ≤ s.size := by omega
  go_enter Try.func27, Try.ntmps27
  go_wp2_with fail
  clear Hr
  generalize s.extract a s.size = s1 at *
  refine wp_region_held_drew (S := (fun w' => Below w.heap.size w w' ∧ ∃ v, RdB w' w.heap.size v)) (by kernel_rfl) (⟨((Below.refl _ _).alloc (Nat.le_refl _) _).drew, _, RdB.new w ⟨0, 0, 0, ⟨#[]⟩⟩ 24⟩) (fun hHeld => ?_)
  (refine wpAnyH_take (i := 0) (oi := { dst := some 20, op := Go.Op.move (Go.Operand.tmp 0), type := 9, pos := _, after := _, guard := none }) (v := ?_) rfl (by kernel_rfl) (by kernel_rfl) (by kernel_rfl) (fun _ _ _ h => h) (Or.inl ⟨by rfl, ?_⟩) (by assumption) ?_; rotate_left; (intro w hSw; (try dsimp only at hSw); go_simp; try with_reducible rfl); try simp only [Act.put, List.setIfInBounds_toArray, List.set_cons_zero, List.set_cons_succ])
  (refine wpAnyH_take (i := 1) (oi := { dst := some 21, op := Go.Op.index 9 (Go.Operand.tmp 20) (Go.Operand.const (Go.Value.int Go.IntKind.i64 0)), type := 5, pos := _, after := _, guard := none }) (v := ?_) rfl (by kernel_rfl) (by kernel_rfl) (by kernel_rfl) (fun _ _ _ h => h) (Or.inl ⟨by rfl, ?_⟩) (by assumption) ?_; rotate_left; (intro w hSw; (try dsimp only at hSw); go_simp; try with_reducible rfl); try simp only [Act.put, List.setIfInBounds_toArray, List.set_cons_zero, List.set_cons_succ])
  (refine wpAnyH_take (i := 2) (oi := { dst := some 22, op := Go.Op.convert 5 3 (Go.Operand.tmp 21), type := 3, pos := _, after := _, guard := none }) (v := ?_) rfl (by kernel_rfl) (by kernel_rfl) (by kernel_rfl) (fun _ _ _ h => h) (Or.inl ⟨by rfl, ?_⟩) (by assumption) ?_; rotate_left; (intro w hSw; (try dsimp only at hSw); go_simp; try with_reducible rfl); try simp only [Act.put, List.setIfInBounds_toArray, List.set_cons_zero, List.set_cons_succ])
  (refine wpAnyH_take (i := 3) (oi := { dst := some 23, op := Go.Op.move (Go.Operand.tmp 0), type := 9, pos := _, after := _, guard := none }) (v := ?_) rfl (by kernel_rfl) (by kernel_rfl) (by kernel_rfl) (fun _ _ _ h => h) (Or.inl ⟨by rfl, ?_⟩) (by assumption) ?_; rotate_left; (intro w hSw; (try dsimp only at hSw); go_simp; try with_reducible rfl); try simp only [Act.put, List.setIfInBounds_toArray, List.set_cons_zero, List.set_cons_succ])
  (refine wpAnyH_take (i := 4) (oi := { dst := some 24, op := Go.Op.slice 9 (Go.Operand.tmp 23) (some (Go.Operand.const (Go.Value.int Go.IntKind.i64 1))) none none, type := 9, pos := _, after := _, guard := none }) (v := ?_) rfl (by kernel_rfl) (by kernel_rfl) (by kernel_rfl) (fun _ _ _ h => h) (Or.inl ⟨by rfl, ?_⟩) (by assumption) ?_; rotate_left; (intro w hSw; (try dsimp only at hSw); go_simp; try with_reducible rfl); try simp only [Act.put, List.setIfInBounds_toArray, List.set_cons_zero, List.set_cons_succ])
  refine wpAnyH_ready (rs := [5]) (by kernel_rfl) (by simp) ?_
  refine AllReadyH.cons (o := { dst := some 25, op := Go.Op.call { callee := Go.Callee.value (Go.Operand.func 93), args := #[Go.Operand.tmp 22, Go.Operand.tmp 24], argTypes := #[3, 9] }, type := 32, pos := _, after := _, guard := none }) rfl (fun K hK => ?_) AllReadyH.nil
  go_simp
  refine (HB.out _).mono ?_
  rintro e w5 ⟨rfl, b5⟩
  go_wp2_with fail
  refine hK.out _ _ ?_ (fun hHeld2 => ?_)
  · (obtain ⟨vx, hvx⟩ := And.right hHeld; exact ⟨Below.trans (And.left hHeld) (b5.mono (Below.size (And.left hHeld))), vx, hvx.keep b5⟩)
  clear hK K hHeld
  have hHeld := hHeld2
  clear hHeld2
  try simp only [Act.put, List.setIfInBounds_toArray, List.set_cons_zero, List.set_cons_succ]
  (refine wpAnyH_take (i := 6) (oi := { dst := some 19, op := Go.Op.move (Go.Operand.tmp 25), type := 32, pos := _, after := _, guard := none }) (v := ?_) rfl (by kernel_rfl) (by kernel_rfl) (by kernel_rfl) (fun _ _ _ h => h) (Or.inl ⟨by rfl, ?_⟩) (by assumption) ?_; rotate_left; (intro w hSw; (try dsimp only at hSw); go_simp; try with_reducible rfl); try simp only [Act.put, List.setIfInBounds_toArray, List.set_cons_zero, List.set_cons_succ])
  (refine wpAnyH_take (i := 7) (oi := { dst := some 26, op := Go.Op.extract (Go.Operand.tmp 19) 0, type := 24, pos := _, after := _, guard := none }) (v := ?_) rfl (by kernel_rfl) (by kernel_rfl) (by kernel_rfl) (fun _ _ _ h => h) (Or.inl ⟨by rfl, ?_⟩) (by assumption) ?_; rotate_left; (intro w hSw; (try dsimp only at hSw); go_simp; try with_reducible rfl); try simp only [Act.put, List.setIfInBounds_toArray, List.set_cons_zero, List.set_cons_succ])
  (refine wpAnyH_take (i := 8) (oi := { dst := some 27, op := Go.Op.extract (Go.Operand.tmp 19) 1, type := 3, pos := _, after := _, guard := none }) (v := ?_) rfl (by kernel_rfl) (by kernel_rfl) (by kernel_rfl) (fun _ _ _ h => h) (Or.inl ⟨by rfl, ?_⟩) (by assumption) ?_; rotate_left; (intro w hSw; (try dsimp only at hSw); go_simp; try with_reducible rfl); try simp only [Act.put, List.setIfInBounds_toArray, List.set_cons_zero, List.set_cons_succ])
  (refine wpAnyH_take (i := 9) (oi := { dst := some 28, op := Go.Op.extract (Go.Operand.tmp 19) 2, type := 4, pos := _, after := _, guard := none }) (v := ?_) rfl (by kernel_rfl) (by kernel_rfl) (by kernel_rfl) (fun _ _ _ h => h) (Or.inl ⟨by rfl, ?_⟩) (by assumption) ?_; rotate_left; (intro w hSw; (try dsimp only at hSw); go_simp; try with_reducible rfl); try simp only [Act.put, List.setIfInBounds_toArray, List.set_cons_zero, List.set_cons_succ])
  refine wpAnyH_ready (rs := [10]) (by kernel_rfl) (by simp) ?_
  refine AllReadyH.cons (o := { dst := none, op := Go.Op.store 24 (Go.Operand.tmp 4) (Go.Operand.tmp 26), type := 0, pos := _, after := _, guard := none }) rfl (fun K hK => ?_) AllReadyH.nil
  obtain ⟨vx, hvx⟩ := And.right hHeld
  rw [if_pos (by rfl)]
  refine wp_store24 _ _ rfl w.heap.size vx x y f z rfl rfl hvx ?_
  intro w10 hB10 b10
  refine hK.out _ _ ?_ (fun hHeld2 => ?_)
  · (exact ⟨Below.trans (And.left hHeld) (b10 _ (Nat.le_refl _)), _, hB10⟩)
  clear hK K hHeld
  have hHeld := hHeld2
  clear hHeld2
  try simp only [Act.put]
  (refine wpAnyH_take (i := 11) (oi := { dst := some 5, op := Go.Op.assign (Go.Operand.tmp 27), type := 3, pos := _, after := _, guard := none }) (v := ?_) rfl (by kernel_rfl) (by kernel_rfl) (by kernel_rfl) (fun _ _ _ h => h) (Or.inl ⟨by rfl, ?_⟩) (by assumption) ?_; rotate_left; (intro w hSw; (try dsimp only at hSw); go_simp; try with_reducible rfl); try simp only [Act.put, List.setIfInBounds_toArray, List.set_cons_zero, List.set_cons_succ])
  (refine wpAnyH_take (i := 12) (oi := { dst := some 6, op := Go.Op.assign (Go.Operand.tmp 28), type := 4, pos := _, after := _, guard := none }) (v := ?_) rfl (by kernel_rfl) (by kernel_rfl) (by kernel_rfl) (fun _ _ _ h => h) (Or.inl ⟨by rfl, ?_⟩) (by assumption) ?_; rotate_left; (intro w hSw; (try dsimp only at hSw); go_simp; try with_reducible rfl); try simp only [Act.put, List.setIfInBounds_toArray, List.set_cons_zero, List.set_cons_succ])
  refine wpAnyH_done (by kernel_rfl) ?_ _
  have hbf := And.left hHeld
  have c0 := hB10.c0
  have c1 := hB10.c1
  have c2 := hB10.c2
  have c3 := hB10.c3
  simp only at c0 c1 c2 c3
  obtain ⟨p0, z0⟩ := c0
  obtain ⟨p1, z1⟩ := c1
  obtain ⟨p2, z2⟩ := c2
  obtain ⟨p3, z3⟩ := c3
  go_wp2_with fail
  exact bodyPost_ret (v := .tuple #[vv 0 0 0 ⟨#[]⟩, .int .i64 0, .bool false]) (by simp [results, Try.results27, go_sem, p0, p1, p2, p3]) rfl ⟨rfl, ((((hbf).setCell (p := ⟨w.heap.size, 0, none⟩) (Nat.le_refl _) _).setCell (p := ⟨w.heap.size, 1, none⟩) (Nat.le_refl _) _).setCell (p := ⟨w.heap.size, 2, none⟩) (Nat.le_refl _) _).setCell (p := ⟨w.heap.size, 3, none⟩) (Nat.le_refl _) _⟩

set_option maxRecDepth 100000 in
set_option maxHeartbeats 1000000 in
theorem dec_tf (s : ByteArray) (a : Nat) (ha : a < s.size) (hsz : s.size ≤ 1000000) (ho : (bod (sAt s a) (s.extract (a + 1) s.size)).o = true) (hg : gd (bod (sAt s a) (s.extract (a + 1) s.size)).v = false) (w : World) : Calls Try.prog 27 #[.string s, .int .i64 a] w fun e w' => e = .returned (.tuple #[vv 0 0 0 ⟨#[]⟩, .int .i64 0, .bool false]) ∧ Below w.heap.size w w' := by
  have hst := run_sf
  have t1 : decide ((a : Int) < 0) = false := by rw [decide_eq_false]; omega
  have t2 : decide ((s.size : Int) ≤ (a : Int)) = false := by rw [decide_eq_false]; omega
  have t3 : decide (s.size ≤ a) = false := by rw [decide_eq_false]; omega
  have hz : (s.extract (a + 1) s.size).size = s.size - (a + 1) := size_extract _ _ _ (Nat.le_refl _)
  have HB := Lib.hid (body_any (sAt s a) (s.extract (a + 1) s.size) (by omega))
  have hm := bod_n (sAt s a) (s.extract (a + 1) s.size)
  have hz1 : (s.extract a s.size).size = s.size - a := size_extract _ _ _ (Nat.le_refl _)
  have hpos : 0 < (s.extract a s.size).size := by omega
  have hk : ((s.extract a s.size)[0]'hpos).toNat = sAt s a := (sAt_eq _ 0 (by omega)).trans (by rw [sAt_extract _ _ _ _ (Nat.le_refl _) (by omega), Nat.add_zero])
  have hkl := sAt_lt s a
  have he : (s.extract a s.size).extract 1 (s.extract a s.size).size = s.extract (a + 1) s.size := by
    rw [hz1, extract_extract _ _ _ _ _ (Nat.le_refl _) (Nat.le_refl _) (by omega)]
    congr 1
    omega
  generalize bod (sAt s a) (s.extract (a + 1) s.size) = X at *
  obtain ⟨⟨x, y, f, z⟩, m, ok⟩ := X
  simp only at ho hm hg HB
  subst ho
  rw [← he] at HB
  have HG := Lib.hid (good_any x y f z)
  simp only [gd] at hg
  rw [hg] at HG
  clear hg
  have Hr := Lib.hid hz1
  have hposI : (1 : Int) ≤ ((s.extract a s.size).size : Int) := by omega
  have hpos1 : 1 ≤ (s.extract a s.size).size := by omega
  clear hz hz1 he
  generalize sAt s a = k at *
  have hkw : IntKind.i64.wrap (k : Int) = (k : Int) := by rw [IntKind.wrap_i64]; omega
  have hle : a ≤ s.size := by omega
  go_enter Try.func27, Try.ntmps27
  go_wp2_with fail
  clear Hr
  generalize s.extract a s.size = s1 at *
  refine wp_region_held_drew (S := (fun w' => Below w.heap.size w w' ∧ ∃ v, RdB w' w.heap.size v)) (by kernel_rfl) (⟨((Below.refl _ _).alloc (Nat.le_refl _) _).drew, _, RdB.new w ⟨0, 0, 0, ⟨#[]⟩⟩ 24⟩) (fun hHeld => ?_)
  (refine wpAnyH_take (i := 0) (oi := { dst := some 20, op := Go.Op.move (Go.Operand.tmp 0), type := 9, pos := _, after := _, guard := none }) (v := ?_) rfl (by kernel_rfl) (by kernel_rfl) (by kernel_rfl) (fun _ _ _ h => h) (Or.inl ⟨by rfl, ?_⟩) (by assumption) ?_; rotate_left; (intro w hSw; (try dsimp only at hSw); go_simp; try with_reducible rfl); try simp only [Act.put, List.setIfInBounds_toArray, List.set_cons_zero, List.set_cons_succ])
  (refine wpAnyH_take (i := 1) (oi := { dst := some 21, op := Go.Op.index 9 (Go.Operand.tmp 20) (Go.Operand.const (Go.Value.int Go.IntKind.i64 0)), type := 5, pos := _, after := _, guard := none }) (v := ?_) rfl (by kernel_rfl) (by kernel_rfl) (by kernel_rfl) (fun _ _ _ h => h) (Or.inl ⟨by rfl, ?_⟩) (by assumption) ?_; rotate_left; (intro w hSw; (try dsimp only at hSw); go_simp; try with_reducible rfl); try simp only [Act.put, List.setIfInBounds_toArray, List.set_cons_zero, List.set_cons_succ])
  (refine wpAnyH_take (i := 2) (oi := { dst := some 22, op := Go.Op.convert 5 3 (Go.Operand.tmp 21), type := 3, pos := _, after := _, guard := none }) (v := ?_) rfl (by kernel_rfl) (by kernel_rfl) (by kernel_rfl) (fun _ _ _ h => h) (Or.inl ⟨by rfl, ?_⟩) (by assumption) ?_; rotate_left; (intro w hSw; (try dsimp only at hSw); go_simp; try with_reducible rfl); try simp only [Act.put, List.setIfInBounds_toArray, List.set_cons_zero, List.set_cons_succ])
  (refine wpAnyH_take (i := 3) (oi := { dst := some 23, op := Go.Op.move (Go.Operand.tmp 0), type := 9, pos := _, after := _, guard := none }) (v := ?_) rfl (by kernel_rfl) (by kernel_rfl) (by kernel_rfl) (fun _ _ _ h => h) (Or.inl ⟨by rfl, ?_⟩) (by assumption) ?_; rotate_left; (intro w hSw; (try dsimp only at hSw); go_simp; try with_reducible rfl); try simp only [Act.put, List.setIfInBounds_toArray, List.set_cons_zero, List.set_cons_succ])
  (refine wpAnyH_take (i := 4) (oi := { dst := some 24, op := Go.Op.slice 9 (Go.Operand.tmp 23) (some (Go.Operand.const (Go.Value.int Go.IntKind.i64 1))) none none, type := 9, pos := _, after := _, guard := none }) (v := ?_) rfl (by kernel_rfl) (by kernel_rfl) (by kernel_rfl) (fun _ _ _ h => h) (Or.inl ⟨by rfl, ?_⟩) (by assumption) ?_; rotate_left; (intro w hSw; (try dsimp only at hSw); go_simp; try with_reducible rfl); try simp only [Act.put, List.setIfInBounds_toArray, List.set_cons_zero, List.set_cons_succ])
  refine wpAnyH_ready (rs := [5]) (by kernel_rfl) (by simp) ?_
  refine AllReadyH.cons (o := { dst := some 25, op := Go.Op.call { callee := Go.Callee.value (Go.Operand.func 93), args := #[Go.Operand.tmp 22, Go.Operand.tmp 24], argTypes := #[3, 9] }, type := 32, pos := _, after := _, guard := none }) rfl (fun K hK => ?_) AllReadyH.nil
  go_simp
  refine (HB.out _).mono ?_
  rintro e w5 ⟨rfl, b5⟩
  go_wp2_with fail
  refine hK.out _ _ ?_ (fun hHeld2 => ?_)
  · (obtain ⟨vx, hvx⟩ := And.right hHeld; exact ⟨Below.trans (And.left hHeld) (b5.mono (Below.size (And.left hHeld))), vx, hvx.keep b5⟩)
  clear hK K hHeld
  have hHeld := hHeld2
  clear hHeld2
  try simp only [Act.put, List.setIfInBounds_toArray, List.set_cons_zero, List.set_cons_succ]
  (refine wpAnyH_take (i := 6) (oi := { dst := some 19, op := Go.Op.move (Go.Operand.tmp 25), type := 32, pos := _, after := _, guard := none }) (v := ?_) rfl (by kernel_rfl) (by kernel_rfl) (by kernel_rfl) (fun _ _ _ h => h) (Or.inl ⟨by rfl, ?_⟩) (by assumption) ?_; rotate_left; (intro w hSw; (try dsimp only at hSw); go_simp; try with_reducible rfl); try simp only [Act.put, List.setIfInBounds_toArray, List.set_cons_zero, List.set_cons_succ])
  (refine wpAnyH_take (i := 7) (oi := { dst := some 26, op := Go.Op.extract (Go.Operand.tmp 19) 0, type := 24, pos := _, after := _, guard := none }) (v := ?_) rfl (by kernel_rfl) (by kernel_rfl) (by kernel_rfl) (fun _ _ _ h => h) (Or.inl ⟨by rfl, ?_⟩) (by assumption) ?_; rotate_left; (intro w hSw; (try dsimp only at hSw); go_simp; try with_reducible rfl); try simp only [Act.put, List.setIfInBounds_toArray, List.set_cons_zero, List.set_cons_succ])
  (refine wpAnyH_take (i := 8) (oi := { dst := some 27, op := Go.Op.extract (Go.Operand.tmp 19) 1, type := 3, pos := _, after := _, guard := none }) (v := ?_) rfl (by kernel_rfl) (by kernel_rfl) (by kernel_rfl) (fun _ _ _ h => h) (Or.inl ⟨by rfl, ?_⟩) (by assumption) ?_; rotate_left; (intro w hSw; (try dsimp only at hSw); go_simp; try with_reducible rfl); try simp only [Act.put, List.setIfInBounds_toArray, List.set_cons_zero, List.set_cons_succ])
  (refine wpAnyH_take (i := 9) (oi := { dst := some 28, op := Go.Op.extract (Go.Operand.tmp 19) 2, type := 4, pos := _, after := _, guard := none }) (v := ?_) rfl (by kernel_rfl) (by kernel_rfl) (by kernel_rfl) (fun _ _ _ h => h) (Or.inl ⟨by rfl, ?_⟩) (by assumption) ?_; rotate_left; (intro w hSw; (try dsimp only at hSw); go_simp; try with_reducible rfl); try simp only [Act.put, List.setIfInBounds_toArray, List.set_cons_zero, List.set_cons_succ])
  refine wpAnyH_ready (rs := [10]) (by kernel_rfl) (by simp) ?_
  refine AllReadyH.cons (o := { dst := none, op := Go.Op.store 24 (Go.Operand.tmp 4) (Go.Operand.tmp 26), type := 0, pos := _, after := _, guard := none }) rfl (fun K hK => ?_) AllReadyH.nil
  obtain ⟨vx, hvx⟩ := And.right hHeld
  rw [if_pos (by rfl)]
  refine wp_store24 _ _ rfl w.heap.size vx x y f z rfl rfl hvx ?_
  intro w10 hB10 b10
  refine hK.out _ _ ?_ (fun hHeld2 => ?_)
  · (exact ⟨Below.trans (And.left hHeld) (b10 _ (Nat.le_refl _)), _, hB10⟩)
  clear hK K hHeld
  have hHeld := hHeld2
  clear hHeld2
  try simp only [Act.put]
  (refine wpAnyH_take (i := 11) (oi := { dst := some 5, op := Go.Op.assign (Go.Operand.tmp 27), type := 3, pos := _, after := _, guard := none }) (v := ?_) rfl (by kernel_rfl) (by kernel_rfl) (by kernel_rfl) (fun _ _ _ h => h) (Or.inl ⟨by rfl, ?_⟩) (by assumption) ?_; rotate_left; (intro w hSw; (try dsimp only at hSw); go_simp; try with_reducible rfl); try simp only [Act.put, List.setIfInBounds_toArray, List.set_cons_zero, List.set_cons_succ])
  (refine wpAnyH_take (i := 12) (oi := { dst := some 6, op := Go.Op.assign (Go.Operand.tmp 28), type := 4, pos := _, after := _, guard := none }) (v := ?_) rfl (by kernel_rfl) (by kernel_rfl) (by kernel_rfl) (fun _ _ _ h => h) (Or.inl ⟨by rfl, ?_⟩) (by assumption) ?_; rotate_left; (intro w hSw; (try dsimp only at hSw); go_simp; try with_reducible rfl); try simp only [Act.put, List.setIfInBounds_toArray, List.set_cons_zero, List.set_cons_succ])
  refine wpAnyH_done (by kernel_rfl) ?_ _
  have hbf := And.left hHeld
  have HB10 := Lib.hid hB10
  have c0 := hB10.c0
  have c1 := hB10.c1
  have c2 := hB10.c2
  have c3 := hB10.c3
  simp only at c0 c1 c2 c3
  obtain ⟨p0, z0⟩ := c0
  obtain ⟨p1, z1⟩ := c1
  obtain ⟨p2, z2⟩ := c2
  obtain ⟨p3, z3⟩ := c3
  clear hB10
  go_wp2_with fail
  refine (HG.out _).mono ?_
  rintro e w6 ⟨rfl, b6⟩
  have hbg := hbf.trans (b6.mono hbf.size)
  have hB6 := HB10.out.keep b6
  clear p0 z0 p1 z1 p2 z2 p3 z3
  have c0 := hB6.c0
  have c1 := hB6.c1
  have c2 := hB6.c2
  have c3 := hB6.c3
  simp only at c0 c1 c2 c3
  obtain ⟨p0, z0⟩ := c0
  obtain ⟨p1, z1⟩ := c1
  obtain ⟨p2, z2⟩ := c2
  obtain ⟨p3, z3⟩ := c3
  clear hB6
  go_wp2_with fail
  exact bodyPost_ret (v := .tuple #[vv 0 0 0 ⟨#[]⟩, .int .i64 0, .bool false]) (by simp [results, Try.results27, go_sem, p0, p1, p2, p3]) rfl ⟨rfl, ((((hbg).setCell (p := ⟨w.heap.size, 0, none⟩) (Nat.le_refl _) _).setCell (p := ⟨w.heap.size, 1, none⟩) (Nat.le_refl _) _).setCell (p := ⟨w.heap.size, 2, none⟩) (Nat.le_refl _) _).setCell (p := ⟨w.heap.size, 3, none⟩) (Nat.le_refl _) _⟩

set_option maxRecDepth 100000 in
set_option maxHeartbeats 1000000 in
theorem dec_tt (s : ByteArray) (a : Nat) (ha : a < s.size) (hsz : s.size ≤ 1000000) (ho : (bod (sAt s a) (s.extract (a + 1) s.size)).o = true) (hg : gd (bod (sAt s a) (s.extract (a + 1) s.size)).v = true) (w : World) : Calls Try.prog 27 #[.string s, .int .i64 a] w fun e w' => e = .returned (.tuple #[(bod (sAt s a) (s.extract (a + 1) s.size)).v.v, .int .i64 ((bod (sAt s a) (s.extract (a + 1) s.size)).n + 1 : Nat), .bool true]) ∧ Below w.heap.size w w' := by
  have hst := run_sf
  have t1 : decide ((a : Int) < 0) = false := by rw [decide_eq_false]; omega
  have t2 : decide ((s.size : Int) ≤ (a : Int)) = false := by rw [decide_eq_false]; omega
  have t3 : decide (s.size ≤ a) = false := by rw [decide_eq_false]; omega
  have hz : (s.extract (a + 1) s.size).size = s.size - (a + 1) := size_extract _ _ _ (Nat.le_refl _)
  have HB := Lib.hid (body_any (sAt s a) (s.extract (a + 1) s.size) (by omega))
  have hm := bod_n (sAt s a) (s.extract (a + 1) s.size)
  have hz1 : (s.extract a s.size).size = s.size - a := size_extract _ _ _ (Nat.le_refl _)
  have hpos : 0 < (s.extract a s.size).size := by omega
  have hk : ((s.extract a s.size)[0]'hpos).toNat = sAt s a := (sAt_eq _ 0 (by omega)).trans (by rw [sAt_extract _ _ _ _ (Nat.le_refl _) (by omega), Nat.add_zero])
  have hkl := sAt_lt s a
  have he : (s.extract a s.size).extract 1 (s.extract a s.size).size = s.extract (a + 1) s.size := by
    rw [hz1, extract_extract _ _ _ _ _ (Nat.le_refl _) (Nat.le_refl _) (by omega)]
    congr 1
    omega
  generalize bod (sAt s a) (s.extract (a + 1) s.size) = X at *
  obtain ⟨⟨x, y, f, z⟩, m, ok⟩ := X
  simp only at ho hm hg HB
  subst ho
  rw [← he] at HB
  have HG := Lib.hid (good_any x y f z)
  simp only [gd] at hg
  rw [hg] at HG
  clear hg
  have Hr := Lib.hid hz1
  have hposI : (1 : Int) ≤ ((s.extract a s.size).size : Int) := by omega
  have hpos1 : 1 ≤ (s.extract a s.size).size := by omega
  clear hz hz1 he
  generalize sAt s a = k at *
  have hkw : IntKind.i64.wrap (k : Int) = (k : Int) := by rw [IntKind.wrap_i64]; omega
  have hle : a ≤ s.size := by omega
  go_enter Try.func27, Try.ntmps27
  go_wp2_with fail
  clear Hr
  generalize s.extract a s.size = s1 at *
  refine wp_region_held_drew (S := (fun w' => Below w.heap.size w w' ∧ ∃ v, RdB w' w.heap.size v)) (by kernel_rfl) (⟨((Below.refl _ _).alloc (Nat.le_refl _) _).drew, _, RdB.new w ⟨0, 0, 0, ⟨#[]⟩⟩ 24⟩) (fun hHeld => ?_)
  (refine wpAnyH_take (i := 0) (oi := { dst := some 20, op := Go.Op.move (Go.Operand.tmp 0), type := 9, pos := _, after := _, guard := none }) (v := ?_) rfl (by kernel_rfl) (by kernel_rfl) (by kernel_rfl) (fun _ _ _ h => h) (Or.inl ⟨by rfl, ?_⟩) (by assumption) ?_; rotate_left; (intro w hSw; (try dsimp only at hSw); go_simp; try with_reducible rfl); try simp only [Act.put, List.setIfInBounds_toArray, List.set_cons_zero, List.set_cons_succ])
  (refine wpAnyH_take (i := 1) (oi := { dst := some 21, op := Go.Op.index 9 (Go.Operand.tmp 20) (Go.Operand.const (Go.Value.int Go.IntKind.i64 0)), type := 5, pos := _, after := _, guard := none }) (v := ?_) rfl (by kernel_rfl) (by kernel_rfl) (by kernel_rfl) (fun _ _ _ h => h) (Or.inl ⟨by rfl, ?_⟩) (by assumption) ?_; rotate_left; (intro w hSw; (try dsimp only at hSw); go_simp; try with_reducible rfl); try simp only [Act.put, List.setIfInBounds_toArray, List.set_cons_zero, List.set_cons_succ])
  (refine wpAnyH_take (i := 2) (oi := { dst := some 22, op := Go.Op.convert 5 3 (Go.Operand.tmp 21), type := 3, pos := _, after := _, guard := none }) (v := ?_) rfl (by kernel_rfl) (by kernel_rfl) (by kernel_rfl) (fun _ _ _ h => h) (Or.inl ⟨by rfl, ?_⟩) (by assumption) ?_; rotate_left; (intro w hSw; (try dsimp only at hSw); go_simp; try with_reducible rfl); try simp only [Act.put, List.setIfInBounds_toArray, List.set_cons_zero, List.set_cons_succ])
  (refine wpAnyH_take (i := 3) (oi := { dst := some 23, op := Go.Op.move (Go.Operand.tmp 0), type := 9, pos := _, after := _, guard := none }) (v := ?_) rfl (by kernel_rfl) (by kernel_rfl) (by kernel_rfl) (fun _ _ _ h => h) (Or.inl ⟨by rfl, ?_⟩) (by assumption) ?_; rotate_left; (intro w hSw; (try dsimp only at hSw); go_simp; try with_reducible rfl); try simp only [Act.put, List.setIfInBounds_toArray, List.set_cons_zero, List.set_cons_succ])
  (refine wpAnyH_take (i := 4) (oi := { dst := some 24, op := Go.Op.slice 9 (Go.Operand.tmp 23) (some (Go.Operand.const (Go.Value.int Go.IntKind.i64 1))) none none, type := 9, pos := _, after := _, guard := none }) (v := ?_) rfl (by kernel_rfl) (by kernel_rfl) (by kernel_rfl) (fun _ _ _ h => h) (Or.inl ⟨by rfl, ?_⟩) (by assumption) ?_; rotate_left; (intro w hSw; (try dsimp only at hSw); go_simp; try with_reducible rfl); try simp only [Act.put, List.setIfInBounds_toArray, List.set_cons_zero, List.set_cons_succ])
  refine wpAnyH_ready (rs := [5]) (by kernel_rfl) (by simp) ?_
  refine AllReadyH.cons (o := { dst := some 25, op := Go.Op.call { callee := Go.Callee.value (Go.Operand.func 93), args := #[Go.Operand.tmp 22, Go.Operand.tmp 24], argTypes := #[3, 9] }, type := 32, pos := _, after := _, guard := none }) rfl (fun K hK => ?_) AllReadyH.nil
  go_simp
  refine (HB.out _).mono ?_
  rintro e w5 ⟨rfl, b5⟩
  go_wp2_with fail
  refine hK.out _ _ ?_ (fun hHeld2 => ?_)
  · (obtain ⟨vx, hvx⟩ := And.right hHeld; exact ⟨Below.trans (And.left hHeld) (b5.mono (Below.size (And.left hHeld))), vx, hvx.keep b5⟩)
  clear hK K hHeld
  have hHeld := hHeld2
  clear hHeld2
  try simp only [Act.put, List.setIfInBounds_toArray, List.set_cons_zero, List.set_cons_succ]
  (refine wpAnyH_take (i := 6) (oi := { dst := some 19, op := Go.Op.move (Go.Operand.tmp 25), type := 32, pos := _, after := _, guard := none }) (v := ?_) rfl (by kernel_rfl) (by kernel_rfl) (by kernel_rfl) (fun _ _ _ h => h) (Or.inl ⟨by rfl, ?_⟩) (by assumption) ?_; rotate_left; (intro w hSw; (try dsimp only at hSw); go_simp; try with_reducible rfl); try simp only [Act.put, List.setIfInBounds_toArray, List.set_cons_zero, List.set_cons_succ])
  (refine wpAnyH_take (i := 7) (oi := { dst := some 26, op := Go.Op.extract (Go.Operand.tmp 19) 0, type := 24, pos := _, after := _, guard := none }) (v := ?_) rfl (by kernel_rfl) (by kernel_rfl) (by kernel_rfl) (fun _ _ _ h => h) (Or.inl ⟨by rfl, ?_⟩) (by assumption) ?_; rotate_left; (intro w hSw; (try dsimp only at hSw); go_simp; try with_reducible rfl); try simp only [Act.put, List.setIfInBounds_toArray, List.set_cons_zero, List.set_cons_succ])
  (refine wpAnyH_take (i := 8) (oi := { dst := some 27, op := Go.Op.extract (Go.Operand.tmp 19) 1, type := 3, pos := _, after := _, guard := none }) (v := ?_) rfl (by kernel_rfl) (by kernel_rfl) (by kernel_rfl) (fun _ _ _ h => h) (Or.inl ⟨by rfl, ?_⟩) (by assumption) ?_; rotate_left; (intro w hSw; (try dsimp only at hSw); go_simp; try with_reducible rfl); try simp only [Act.put, List.setIfInBounds_toArray, List.set_cons_zero, List.set_cons_succ])
  (refine wpAnyH_take (i := 9) (oi := { dst := some 28, op := Go.Op.extract (Go.Operand.tmp 19) 2, type := 4, pos := _, after := _, guard := none }) (v := ?_) rfl (by kernel_rfl) (by kernel_rfl) (by kernel_rfl) (fun _ _ _ h => h) (Or.inl ⟨by rfl, ?_⟩) (by assumption) ?_; rotate_left; (intro w hSw; (try dsimp only at hSw); go_simp; try with_reducible rfl); try simp only [Act.put, List.setIfInBounds_toArray, List.set_cons_zero, List.set_cons_succ])
  refine wpAnyH_ready (rs := [10]) (by kernel_rfl) (by simp) ?_
  refine AllReadyH.cons (o := { dst := none, op := Go.Op.store 24 (Go.Operand.tmp 4) (Go.Operand.tmp 26), type := 0, pos := _, after := _, guard := none }) rfl (fun K hK => ?_) AllReadyH.nil
  obtain ⟨vx, hvx⟩ := And.right hHeld
  rw [if_pos (by rfl)]
  refine wp_store24 _ _ rfl w.heap.size vx x y f z rfl rfl hvx ?_
  intro w10 hB10 b10
  refine hK.out _ _ ?_ (fun hHeld2 => ?_)
  · (exact ⟨Below.trans (And.left hHeld) (b10 _ (Nat.le_refl _)), _, hB10⟩)
  clear hK K hHeld
  have hHeld := hHeld2
  clear hHeld2
  try simp only [Act.put]
  (refine wpAnyH_take (i := 11) (oi := { dst := some 5, op := Go.Op.assign (Go.Operand.tmp 27), type := 3, pos := _, after := _, guard := none }) (v := ?_) rfl (by kernel_rfl) (by kernel_rfl) (by kernel_rfl) (fun _ _ _ h => h) (Or.inl ⟨by rfl, ?_⟩) (by assumption) ?_; rotate_left; (intro w hSw; (try dsimp only at hSw); go_simp; try with_reducible rfl); try simp only [Act.put, List.setIfInBounds_toArray, List.set_cons_zero, List.set_cons_succ])
  (refine wpAnyH_take (i := 12) (oi := { dst := some 6, op := Go.Op.assign (Go.Operand.tmp 28), type := 4, pos := _, after := _, guard := none }) (v := ?_) rfl (by kernel_rfl) (by kernel_rfl) (by kernel_rfl) (fun _ _ _ h => h) (Or.inl ⟨by rfl, ?_⟩) (by assumption) ?_; rotate_left; (intro w hSw; (try dsimp only at hSw); go_simp; try with_reducible rfl); try simp only [Act.put, List.setIfInBounds_toArray, List.set_cons_zero, List.set_cons_succ])
  refine wpAnyH_done (by kernel_rfl) ?_ _
  have hbf := And.left hHeld
  have HB10 := Lib.hid hB10
  have c0 := hB10.c0
  have c1 := hB10.c1
  have c2 := hB10.c2
  have c3 := hB10.c3
  simp only at c0 c1 c2 c3
  obtain ⟨p0, z0⟩ := c0
  obtain ⟨p1, z1⟩ := c1
  obtain ⟨p2, z2⟩ := c2
  obtain ⟨p3, z3⟩ := c3
  clear hB10
  go_wp2_with fail
  refine (HG.out _).mono ?_
  rintro e w6 ⟨rfl, b6⟩
  have hbg := hbf.trans (b6.mono hbf.size)
  have hB6 := HB10.out.keep b6
  clear p0 z0 p1 z1 p2 z2 p3 z3
  have c0 := hB6.c0
  have c1 := hB6.c1
  have c2 := hB6.c2
  have c3 := hB6.c3
  simp only at c0 c1 c2 c3
  obtain ⟨p0, z0⟩ := c0
  obtain ⟨p1, z1⟩ := c1
  obtain ⟨p2, z2⟩ := c2
  obtain ⟨p3, z3⟩ := c3
  clear hB6
  go_wp2_with fail
  exact bodyPost_ret (v := .tuple #[vv x y f z, .int .i64 (m + 1 : Nat), .bool true]) (by simp [results, Try.results27, go_sem, p0, p1, p2, p3]) rfl ⟨rfl, ((((hbg).setCell (p := ⟨w.heap.size, 0, none⟩) (Nat.le_refl _) _).setCell (p := ⟨w.heap.size, 1, none⟩) (Nat.le_refl _) _).setCell (p := ⟨w.heap.size, 2, none⟩) (Nat.le_refl _) _).setCell (p := ⟨w.heap.size, 3, none⟩) (Nat.le_refl _) _⟩

theorem dec_nat (s : ByteArray) (a : Nat) (hsz : s.size ≤ 1000000) (w : World) : Calls Try.prog 27 #[.string s, .int .i64 a] w fun e w' => e = .returned (.tuple #[(gV (gotA s a)).v, .int .i64 (gN (gotA s a) : Nat), .bool (gotA s a).isSome]) ∧ Below w.heap.size w w' := by
  by_cases ha : a < s.size
  · rw [gotA_bod s a ha]
    cases ho : (bod (sAt s a) (s.extract (a + 1) s.size)).o with
    | false => rw [Bool.false_and]; exact dec_f s a ha hsz ho w
    | true =>
      rw [Bool.true_and]
      cases hg : gd (bod (sAt s a) (s.extract (a + 1) s.size)).v with
      | false => exact dec_tf s a ha hsz ho hg w
      | true => exact dec_tt s a ha hsz ho hg w
  · have e : gotA s a = none := by unfold gotA; rw [if_neg ha]
    rw [e]
    exact dec_high s a (by omega) w
theorem dec_any (s : ByteArray) (p : Int) (hsz : s.size ≤ 1000000) (w : World) : Calls Try.prog 27 #[.string s, .int .i64 p] w fun e w' => e = .returned (.tuple #[(gV (gotV s p)).v, .int .i64 (gN (gotV s p) : Nat), .bool (gotV s p).isSome]) ∧ Below w.heap.size w w' := by
  unfold gotV
  by_cases hp : 0 ≤ p
  · rw [if_pos hp]
    obtain ⟨a, rfl⟩ : ∃ a : Nat, p = a := ⟨p.toNat, by omega⟩
    rw [Int.toNat_natCast]
    exact dec_nat s a hsz w
  · rw [if_neg hp]
    exact dec_low s p (by omega) w
end Go.Proofs.Ytmgpecomgffelaa
