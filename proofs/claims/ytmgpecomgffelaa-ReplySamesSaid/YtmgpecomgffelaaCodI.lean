/- Contracts: the row that stands at a place, and the row of bytes (of the reference). -/
import Derived.Test.YtmgpecomgffelaaCodH
namespace Go.Proofs.Ytmgpecomgffelaa
open Go.RowKit
set_option linter.unusedVariables false
theorem BoxT.keepB {w w' : World} {b B : Nat} {cs : Array Value} (h : BoxT w b cs) (hb : Below B w w') (hlt : b < B) : BoxT w' b cs := fun j v hj => by
  obtain ⟨a, c⟩ := h j v hj
  exact ⟨(hb.cell (p := ⟨b, j, none⟩) hlt).trans a, (hb.frozen (p := ⟨b, j, none⟩) hlt).trans c⟩
abbrev a2 (A : Option Addr) (n c : Nat) (z : Int) : Array Value := #[.slice A n c, .int .i64 z]
abbrev r2 (A : Option Addr) (n c : Nat) (z : Int) : Value := .agg #[.slice A n c, .int .i64 z]
def B2 (w : World) (b : Nat) (A : Option Addr) (n c : Nat) (z : Int) : Prop := BoxT w b (a2 A n c z)
theorem B2.cells {w : World} {b : Nat} {A : Option Addr} {n c : Nat} {z : Int} (h : B2 w b A n c z) : (w.cell? ⟨b, 0, none⟩ = some (.slice A n c) ∧ w.frozen? ⟨b, 0, none⟩ = false) ∧ (w.cell? ⟨b, 1, none⟩ = some (.int .i64 z) ∧ w.frozen? ⟨b, 1, none⟩ = false) := ⟨h 0 _ rfl, h 1 _ rfl⟩
set_option maxRecDepth 100000 in
theorem wl_own_val {w : World} {ops : Array Oper} {rest : List Oper} {o : Oper} {a : Act} {Q : Exit → Act → World → Prop} (hgd : o.guard = none) (s x : Operand) (ho : o.op = .call { callee := .builtin .append, args := #[s, x], argTypes := #[39, 39] })
    (B : Nat) (v : Value) (n : Nat) (xs : List Value) (hs : a.eval s = v) (hown : w.ownsRow B 24 4 v n xs) (hB : B ≤ w.heap.size)
    (ad : Addr) (c : Nat) (y : Val) (hx : a.eval x = .slice (some ad) 1 c) (hr : RdV w (some ad) [y]) (hl : n + 1 ≤ 100000)
    (h : ∀ v' w', w'.ownsRow B 24 4 v' (n + 1) (xs ++ [y].flatMap Val.cells) → w.grownBy w' v.ownBlock → wpList Try.prog ops Q rest (a.put o.dst v') w') : wpList Try.prog ops Q (o :: rest) a w := by
  obtain ⟨i0, hi, hz0, hz1, hz2⟩ := info_parts info24
  refine wpList_append_own w hgd s x 39 ho B 24 i0 _ 4 40 Try.underlying39 hi hz0 hz1 hz2 rfl (by decide) v n xs hs hown ad 1 c ([y].flatMap Val.cells) hx rfl (rdl_flat Val.cells_len (by decide) hr) (flat_one' Val.one [y]) (by unfold maxLen; omega) (by omega) hB ?_
  intro v' w' h1 h2 _
  exact h v' w' h1 h2
theorem BoxT.grown {w w' : World} {b : Nat} {cs : Array Value} {row : Option Nat} (h : BoxT w b cs) (hg : w.grownBy w' row) (hne : some b ≠ row) : BoxT w' b cs := fun j v hj => by
  obtain ⟨x, y⟩ := h j v hj
  have hb := hg.block b (World.block_lt_of_cell? w ⟨b, j, none⟩ x) hne
  exact ⟨(World.cell?_of_block (a := ⟨b, j, none⟩) hb).trans x, (World.frozen?_of_block (a := ⟨b, j, none⟩) hb).trans y⟩
theorem own_ne {w : World} {B : Nat} {e : TypeId} {size : Nat} {v : Value} {n : Nat} {xs : List Value} (h : w.ownsRow B e size v n xs) (b : Nat) (hb : b < B ∨ w.heap.size ≤ b) : some b ≠ v.ownBlock := fun he => by
  obtain ⟨h1, h2⟩ := h.lt b he.symm
  omega
def tkL (s : ByteArray) (a : Nat) : List Val := ((takA s a).getD ([], a)).1
def tkN (s : ByteArray) (a : Nat) : Nat := ((takA s a).getD ([], a)).2 - a
def TakeP (s : ByteArray) (a : Nat) (w : World) (e : Ending) (w' : World) : Prop := ∃ A c, e = .returned (r2 A (tkL s a).length c (tkN s a : Nat)) ∧ Fresh w' w.heap.size 24 4 (.slice A (tkL s a).length c) (tkL s a).length ((tkL s a).flatMap Val.cells) ∧ (A = none → c = 0) ∧ Below w.heap.size w w'
theorem tak_of_none {s : ByteArray} {a : Nat} (h : takA s a = none) : tkL s a = [] ∧ tkN s a = 0 := by
  unfold tkL tkN
  rw [h]
  exact ⟨rfl, Nat.sub_self a⟩
theorem tak_of_some {s : ByteArray} {a : Nat} {l : List Val} {e : Nat} (h : takA s a = some (l, e)) : tkL s a = l ∧ tkN s a = e - a := by
  unfold tkL tkN
  rw [h]
  exact ⟨rfl, rfl⟩
theorem TakeP.no {s : ByteArray} {a : Nat} (h : takA s a = none) {w w' : World} (hb : Below w.heap.size w w') : TakeP s a w (.returned (r2 none 0 0 0)) w' := by
  obtain ⟨e1, e2⟩ := tak_of_none h
  refine ⟨none, 0, ?_, ?_, fun _ => rfl, hb⟩
  · rw [e1, e2]; rfl
  · rw [e1]; exact Or.inl (World.ownsRow_nil _ _ _ _)
theorem TakeP.yes {s : ByteArray} {a : Nat} {l : List Val} {e : Nat} (h : takA s a = some (l, e)) {w w' : World} {A : Option Addr} {c : Nat} {z : Int} (hz : z = ((e - a : Nat) : Int)) (hr : Fresh w' w.heap.size 24 4 (.slice A l.length c) l.length (l.flatMap Val.cells)) (hn : A = none → c = 0) (hb : Below w.heap.size w w') : TakeP s a w (.returned (r2 A l.length c z)) w' := by
  obtain ⟨e1, e2⟩ := tak_of_some h
  refine ⟨A, c, ?_, ?_, hn, hb⟩
  · rw [e1, e2, hz]
  · rw [e1]; exact hr
theorem takA_none0 (s : ByteArray) (a : Nat) (h : ¬ (a < s.size ∧ sAt s a ≤ 6)) : takA s a = none := by
  unfold takA
  rw [if_neg h]
theorem takA_seq (s : ByteArray) (a : Nat) (h : a < s.size ∧ sAt s a ≤ 6) : takA s a = seqA s (a + 1) (sAt s a) := by
  unfold takA
  rw [if_pos h]

set_option maxRecDepth 100000 in
theorem take_out (s : ByteArray) (a : Nat) (h : s.size ≤ a) (w : World) : Calls Try.prog 96 #[.string s, .int .i64 a] w (TakeP s a w) := by
  have hno := Lib.hid (takA_none0 s a (fun hh => by omega))
  have t0 : decide ((a : Int) < 0) = false := by rw [decide_eq_false]; omega
  have t1 : decide ((s.size : Int) ≤ (a : Int)) = true := by rw [decide_eq_true]; omega
  have t2 : decide (s.size ≤ a) = true := by rw [decide_eq_true]; omega
  clear h
  go_enter Try.func96, Try.ntmps96
  go_wp2_with fail
  exact bodyPost_ret (v := r2 none 0 0 0) (by simp [results, Try.results96, go_sem]) rfl (TakeP.no hno.out (by first | exact (Below.refl _ _).alloc (Nat.le_refl _) _ | exact ((Below.refl _ _).alloc (Nat.le_refl _) _).setCell (Nat.le_refl _) _))
set_option maxRecDepth 100000 in
theorem take_big (s : ByteArray) (a : Nat) (h : a < s.size) (hb : 6 < sAt s a) (w : World) : Calls Try.prog 96 #[.string s, .int .i64 a] w (TakeP s a w) := by
  have hno := Lib.hid (takA_none0 s a (fun hh => by omega))
  have t0 : decide ((a : Int) < 0) = false := by rw [decide_eq_false]; omega
  have t1 : decide ((s.size : Int) ≤ (a : Int)) = false := by rw [decide_eq_false]; omega
  have t2 : decide (s.size ≤ a) = false := by rw [decide_eq_false]; omega
  have hk := sAt_eq s a h
  have hl := sAt_lt s a
  generalize sAt s a = k at *
  have t3 : decide ((6 : Int) < (k : Int)) = true := by rw [decide_eq_true]; omega
  have t4 : decide (6 < k) = true := by rw [decide_eq_true]; omega
  go_enter Try.func96, Try.ntmps96
  go_wp2_with fail
  exact bodyPost_ret (v := r2 none 0 0 0) (by simp [results, Try.results96, go_sem]) rfl (TakeP.no hno.out (by first | exact (Below.refl _ _).alloc (Nat.le_refl _) _ | exact ((Below.refl _ _).alloc (Nat.le_refl _) _).setCell (Nat.le_refl _) _))
set_option maxRecDepth 100000 in
set_option maxHeartbeats 1000000 in
theorem take_main (s : ByteArray) (a : Nat) (hsz : s.size ≤ 1000000) (h : a < s.size) (hb : sAt s a ≤ 6) (w : World) : Calls Try.prog 96 #[.string s, .int .i64 a] w (TakeP s a w) := by
  have hst := run_sf
  have hO := Lib.hid (takA_seq s a ⟨h, hb⟩)
  have HD := Lib.hid (fun a => rdec_nat s a hsz)
  have t0 : decide ((a : Int) < 0) = false := by rw [decide_eq_false]; omega
  have t1 : decide ((s.size : Int) ≤ (a : Int)) = false := by rw [decide_eq_false]; omega
  have t2 : decide (s.size ≤ a) = false := by rw [decide_eq_false]; omega
  have hk := sAt_eq s a h
  generalize sAt s a = m at *
  have hkw : IntKind.i64.wrap (m : Int) = (m : Int) := by rw [IntKind.wrap_i64]; omega
  have t3 : decide ((6 : Int) < (m : Int)) = false := by rw [decide_eq_false]; omega
  have t4 : decide (6 < m) = false := by rw [decide_eq_false]; omega
  have hw0 : IntKind.i64.wrap ((a : Int) + 1) = (a : Int) + 1 := by rw [IntKind.wrap_i64]; omega
  go_enter Try.func96, Try.ntmps96
  go_wp2_with fail
  go_loopw [5, 6, 7] (fun v p i wr => ∃ (k q : Nat) (l : List Val), k ≤ m ∧ i = .int .i64 k ∧ p = .int .i64 q ∧ seqA s (a + 1) k = some (l, q) ∧ wr.ownsRow (w.heap.size + 1) 24 4 v k (l.flatMap Val.cells) ∧ B2 wr w.heap.size none 0 0 0 ∧ Below w.heap.size w wr) (fun _ _ i _ => m - (intOf i).toNat)
  case atStart => exact ⟨0, a + 1, [], by omega, rfl, by go_num, rfl, World.ownsRow_nil _ _ _ _, BoxT.new _ _ _, (Below.refl _ _).alloc (Nat.le_refl _) _⟩
  case round =>
    obtain ⟨k, q, l, hkm, rfl, rfl, hs, hF, hB, hbr⟩ := hrel
    obtain ⟨h1, h2, h3, h4, h5⟩ := seqA_ok s (a + 1) (by omega) k l q hs
    obtain ⟨A0, c0, rfl, hn0⟩ := slice_of_own' hF
    clear h4 h5
    have Hs := Lib.hid hs
    have H1 := Lib.hid h1
    clear hs h1
    have hlw : w.heap.size < wr.heap.size := by
      obtain ⟨⟨x, _⟩, _⟩ := hB.cells
      exact World.block_lt_of_cell? _ _ x
    have HB := Lib.hid hB
    clear hB
    by_cases hlt : k < m
    · have hcall := HD.out q
      have hw1 : IntKind.i64.wrap ((k : Int) + 1) = (k : Int) + 1 := by rw [IntKind.wrap_i64]; omega
      cases hg : gotA s q with
      | none =>
        rw [hg] at hcall
        have hno : takA s a = none := by rw [hO.out, seqA_end s (a + 1) k l q Hs.out hg m hlt]
        have Hno := Lib.hid hno
        have e1 : gV (none : Option (Val × Nat)) = ⟨0, 0, 0, ⟨#[]⟩⟩ := rfl
        have e2 : gN (none : Option (Val × Nat)) = 0 := rfl
        rw [e1, e2] at hcall
        simp only at hcall
        clear hno e1 e2 hg
        go_wp2_with fail
        refine (hcall _).mono ?_
        rintro e w1 ⟨rfl, b1⟩
        have hb1 := hbr.trans (b1.mono hbr.size)
        have hB1 := BoxT.alloc (HB.out.keep b1) (.cells (a5 0 0 0 ⟨#[]⟩ 0) 35)
        obtain ⟨⟨d0, z0⟩, ⟨d1, z1⟩⟩ := B2.cells hB1
        have hs1 := b1.size
        have hn1 : w1.heap.size ≠ w.heap.size := by omega
        have hn2 : w.heap.size ≠ w1.heap.size := by omega
        clear hB1 hs1
        go_wp2_with fail
        exact bodyPost_ret (v := r2 none 0 0 0) (by simp [results, Try.results96, go_sem, d0, d1]) rfl (TakeP.no Hno.out (((hb1.alloc hb1.size _).setCell (p := ⟨w.heap.size, 0, none⟩) (Nat.le_refl _) _).setCell (p := ⟨w.heap.size, 1, none⟩) (Nat.le_refl _) _))
      | some y =>
        obtain ⟨x, n⟩ := y
        obtain ⟨g1, g2, g3, g4⟩ := enc_got hg
        have hs2 : seqA s (a + 1) (k + 1) = some (l ++ [x], q + n) := by rw [seqA_succ _ _ _ _ _ Hs.out, hg]; rfl
        have Hs2 := Lib.hid hs2
        rw [hg] at hcall
        have e1 : gV (some (x, n)) = x := rfl
        have e2 : gN (some (x, n)) = n := rfl
        rw [e1, e2] at hcall
        clear hs2 e1 e2 hg g3 g4
        have hw2 : IntKind.i64.wrap ((q : Int) + (n : Int)) = (q : Int) + (n : Int) := by rw [IntKind.wrap_i64]; omega
        have tn : ((n : Int) == 0) = false := by rw [beq_eq_false_iff_ne]; omega
        have tn2 : (n == 0) = false := by rw [beq_eq_false_iff_ne]; omega
        have hne : n ≠ 0 := by omega
        go_wp2_with fail
        refine (hcall _).mono ?_
        rintro e w1 ⟨rfl, b1⟩
        have hb1 := hbr.trans (b1.mono hbr.size)
        have hF1 := own_keep hF b1
        have Hne := Lib.hid (own_ne hF w1.heap.size (Or.inr b1.size))
        have Hne0 := Lib.hid (own_ne hF w.heap.size (Or.inl (by omega)))
        have HB1 := Lib.hid (BoxT.alloc (BoxT.alloc (HB.out.keep b1) (.cells (a5 x.kind x.n x.f x.s n) 35)) (.cells (va x.kind x.n x.f x.s) 24))
        have HC1 := Lib.hid (BoxT.alloc (BoxT.new w1 (a5 x.kind x.n x.f x.s n) 35) (.cells (va x.kind x.n x.f x.s) 24))
        have hs1 := b1.size
        go_wp2_with (at_builtin; refine wl_own_val rfl _ _ rfl (w.heap.size + 1) _ k _ rfl ((hF1.alloc _).alloc _) (by simp; omega) _ 1 x rfl (RdV.oneAt _ _ _ (by simp)) (by omega) ?_; intro v' w3' hF3 hg3; have HB3 := Lib.hid (BoxT.grown HB1.out hg3 Hne0.out); have hc4 := (BoxT.grown HC1.out hg3 Hne.out 4 _ rfl).1; have hb3 := Lib.hid (((hb1.alloc hb1.size _).alloc (by have := hb1.size; simp; omega) _).grown hg3 (by have := hb1.size; simp; omega) (fun j hj => Nat.le_trans (Nat.le_succ _) (hF.lt j hj).1)))
        rw [← flat_snoc] at hF3
        go_wp2_with fail
        exact ⟨⟨k + 1, q + n, l ++ [x], by omega, by go_num, by go_num, Hs2.out, hF3, HB3.out, hb3.out⟩, by simp [intOf]; omega⟩
    · obtain rfl : k = m := by omega
      have hlen := H1.out
      subst hlen
      have Hy := Lib.hid (show takA s a = some (l, q) by rw [hO.out, Hs.out])
      have hR := (Or.inl (ownsRow_setCell_below (ownsRow_setCell_below hF (a := ⟨w.heap.size, 0, none⟩) (by simp) (.slice A0 l.length c0)) (a := ⟨w.heap.size, 1, none⟩) (by simp) (.int .i64 ((q : Int) - (a : Int)))) : Fresh ((wr.setCell ⟨w.heap.size, 0, none⟩ (.slice A0 l.length c0)).setCell ⟨w.heap.size, 1, none⟩ (.int .i64 ((q : Int) - (a : Int)))) (w.heap.size + 1) 24 4 (.slice A0 l.length c0) l.length (l.flatMap Val.cells))
      have HR := Lib.hid (hR.imp (fun h => own_mono h (Nat.le_succ _)) id)
      have HN := Lib.hid hn0
      obtain ⟨⟨d0, z0⟩, ⟨d1, z1⟩⟩ := B2.cells HB.out
      have hw3 : IntKind.i64.wrap ((q : Int) - (a : Int)) = (q : Int) - (a : Int) := by rw [IntKind.wrap_i64]; omega
      have hqa : ((q : Int) - (a : Int)) = ((q - a : Nat) : Int) := by omega
      have Hqa := Lib.hid hqa
      clear hR hn0 hF hqa
      go_wp2_with fail
      exact bodyPost_ret (v := r2 A0 l.length c0 ((q : Int) - (a : Int))) (by simp [results, Try.results96, go_sem, d0, d1]) rfl (TakeP.yes Hy.out Hqa.out HR.out HN.out ((hbr.setCell (p := ⟨w.heap.size, 0, none⟩) (Nat.le_refl _) _).setCell (p := ⟨w.heap.size, 1, none⟩) (Nat.le_refl _) _))
theorem take_any (s : ByteArray) (a : Nat) (hsz : s.size ≤ 1000000) (w : World) : Calls Try.prog 96 #[.string s, .int .i64 a] w (TakeP s a w) := by
  by_cases h : a < s.size
  · by_cases hb : sAt s a ≤ 6
    · exact take_main s a hsz h hb w
    · exact take_big s a h (by omega) w
  · exact take_out s a (by omega) w
theorem takA_bd {s : ByteArray} {a : Nat} {l : List Val} {e : Nat} (h : takA s a = some (l, e)) : a + 1 ≤ e ∧ e ≤ s.size ∧ l.length ≤ 6 ∧ l.all gd = true ∧ rowB l = s.extract a e := by
  unfold takA at h
  split at h
  · rename_i hc
    obtain ⟨h1, h2, h3, h4, h5⟩ := seqA_ok s (a + 1) (by omega) _ _ _ h
    refine ⟨h2, h3, by omega, h4, ?_⟩
    unfold rowB
    rw [h1, h5, bs_one s a hc.1]
    exact cat_extract _ _ _ _ (by omega) h2 h3
  · exact absurd h (by simp)

set_option maxRecDepth 100000 in
set_option maxHeartbeats 1000000 in
theorem rvals_any (s : ByteArray) (hsz : s.size ≤ 1000000) (w : World) : Calls Try.prog 34 #[.string s] w (ValsP s w) := by
  have hT := take_any s 0 hsz w
  cases ht : takA s 0 with
  | none =>
    have hno := Lib.hid (show valsO s = none by unfold valsO; rw [ht]; rfl)
    obtain ⟨e1, e2⟩ := tak_of_none ht
    unfold TakeP at hT
    rw [e1, e2] at hT
    clear e1 e2 ht
    go_enter Try.func34, Try.ntmps34
    go_wp2_with fail
    refine hT.mono ?_
    rintro e w1 ⟨A, c, rfl, hr, hn, hb⟩
    clear hr hn hT
    go_wp2_with fail
    go_ret2
    exact ValsP.no hno.out (hb.alloc hb.size _)
  | some y =>
    obtain ⟨l, q⟩ := y
    obtain ⟨h1, h2, h3, _⟩ := takA_bd ht
    obtain ⟨e1, e2⟩ := tak_of_some ht
    rw [Nat.sub_zero] at e2
    unfold TakeP at hT
    rw [e1, e2] at hT
    have tn : ((q : Int) == 0) = false := by rw [beq_eq_false_iff_ne]; omega
    have tn2 : (q == 0) = false := by rw [beq_eq_false_iff_ne]; omega
    have hne : q ≠ 0 := by omega
    by_cases hq : q = s.size
    · have hy := Lib.hid (show valsO s = some l by unfold valsO; rw [ht, Option.bind_some]; exact if_pos hq)
      have tq : ((q : Int) == (s.size : Int)) = true := by rw [beq_iff_eq]; omega
      have tq2 : (q == s.size) = true := by rw [beq_iff_eq]; omega
      have tq3 : ((q : Int) != (s.size : Int)) = false := by rw [bne, tq]; rfl
      clear e1 e2 ht hq
      go_enter Try.func34, Try.ntmps34
      go_wp2_with fail
      refine hT.mono ?_
      rintro e w1 ⟨A, c, rfl, hr, hn, hb⟩
      have HR := Lib.hid (hr.alloc (.cells (a2 A l.length c q) 117))
      have HN := Lib.hid hn
      clear hT hr hn
      go_wp2_with fail
      go_ret2
      exact ValsP.yes hy.out HR.out HN.out (hb.alloc hb.size _)
    · have hno := Lib.hid (show valsO s = none by unfold valsO; rw [ht, Option.bind_some]; exact if_neg hq)
      have tq : ((q : Int) == (s.size : Int)) = false := by rw [beq_eq_false_iff_ne]; omega
      have tq2 : (q == s.size) = false := by rw [beq_eq_false_iff_ne]; omega
      have tq3 : ((q : Int) != (s.size : Int)) = true := by rw [bne, tq]; rfl
      clear e1 e2 ht
      go_enter Try.func34, Try.ntmps34
      go_wp2_with fail
      refine hT.mono ?_
      rintro e w1 ⟨A, c, rfl, hr, hn, hb⟩
      clear hT hr hn
      go_wp2_with fail
      go_ret2
      exact ValsP.no hno.out (hb.alloc hb.size _)
end Go.Proofs.Ytmgpecomgffelaa
