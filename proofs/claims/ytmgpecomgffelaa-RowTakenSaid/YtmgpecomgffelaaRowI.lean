/- The law RowPads: a row that was padded has as many values as there are columns, its own ones first; padded again it is the same. No condition. -/
import Derived.Test.YtmgpecomgffelaaCopy
import Derived.Deep.RegionHeld3
namespace Go.Proofs.Ytmgpecomgffelaa
open Go.RowKit Go.ChangeShapes Go.WideShapes Go.ChangeAt
set_option linter.unusedVariables false
theorem padV_idem (l : List Col) (r : List Val) : padV l (padV l r) = padV l r := by
  apply List.ext_getElem
  · rw [padV_len, padV_len]
  · intro k h1 h2
    have hk : k < l.length := by rwa [padV_len] at h1
    rw [padV_at l _ k hk]
    simp [List.getD, List.getElem?_eq_getElem h2]
theorem largeC_len {l : List Col} (h : largeC l = false) : l.length ≤ 50 := by
  unfold largeC at h
  rw [Bool.or_eq_false_iff, decide_eq_false_iff_not] at h
  omega
theorem largeR_len {l : List Val} (h : largeR l = false) : l.length ≤ 50 := by
  unfold largeR at h
  rw [Bool.or_eq_false_iff, decide_eq_false_iff_not] at h
  omega
theorem pads_large1 (A B : Option Addr) (c d : Nat) (l : List Col) (r : List Val) (w : World) (ha : RdC w A l) (hb : RdV w B r) (h : largeC l = true) : Tells Try.prog 5 #[.slice A l.length c, .slice B r.length d] w := by
  unfold Tells
  have h1 := large_cols A c l w ha
  rw [h] at h1
  have H := Lib.hid h1
  clear ha hb h h1
  go_enter Try.func5, Try.ntmps5
  go_wp2_with fail
  refine H.out.mono ?_
  rintro e w1 ⟨rfl, b1⟩
  go_wp2_with fail
  refine (row_wakes _).mono ?_
  rintro e w2 ⟨rfl, b2⟩
  go_wp2_with fail
  go_ret
  exact ⟨rfl, below_trans b1 b2⟩
theorem pads_large2 (A B : Option Addr) (c d : Nat) (l : List Col) (r : List Val) (w : World) (ha : RdC w A l) (hb : RdV w B r) (h : largeC l = false) (h2 : largeR r = true) : Tells Try.prog 5 #[.slice A l.length c, .slice B r.length d] w := by
  unfold Tells
  have h1 := large_cols A c l w ha
  rw [h] at h1
  have H := Lib.hid h1
  have HB := Lib.hid hb
  have HR := Lib.hid h2
  clear ha hb h h1 h2
  go_enter Try.func5, Try.ntmps5
  go_wp2_with fail
  refine H.out.mono ?_
  rintro e w1 ⟨rfl, b1⟩
  have hr := large_row B d r w1 (HB.out.keep b1 (Nat.le_refl _))
  rw [HR.out] at hr
  go_wp2_with fail
  refine hr.mono ?_
  rintro e w2 ⟨rfl, b2⟩
  have b3 := below_trans b1 b2
  go_wp2_with fail
  refine (row_wakes _).mono ?_
  rintro e w4 ⟨rfl, b4⟩
  go_wp2_with fail
  go_ret
  exact ⟨rfl, below_trans b3 b4⟩


set_option maxRecDepth 100000 in
set_option maxHeartbeats 4000000 in
theorem pads_main (A B : Option Addr) (c d : Nat) (l : List Col) (r : List Val) (w : World) (ha : RdC w A l) (hb : RdV w B r) (hnB : B = none → d = 0) (h : largeC l = false) (h2 : largeR r = false) : Tells Try.prog 5 #[.slice A l.length c, .slice B r.length d] w := by
  unfold Tells
  have hl := largeC_len h
  have hrl := largeR_len h2
  have h1 := large_cols A c l w ha
  rw [h] at h1
  have H := Lib.hid h1
  have HA := Lib.hid ha
  have HB := Lib.hid hb
  have HR := Lib.hid h2
  have HNB := Lib.hid hnB
  clear ha hb h h1 h2 hnB
  go_enter Try.func5, Try.ntmps5
  go_wp2_with fail
  refine H.out.mono ?_
  rintro e w1 ⟨rfl, b1⟩
  have hr := large_row B d r w1 (HB.out.keep b1 (Nat.le_refl _))
  rw [HR.out] at hr
  go_wp2_with fail
  refine hr.mono ?_
  rintro e w2 ⟨rfl, b2⟩
  have b3 := below_trans b1 b2
  clear H HR b1 b2
  go_wp2_with (at_builtin; refine copy_vals rfl _ _ rfl _ _ _ rfl HNB.out (HB.out.keep b3 (Nat.le_refl _)) (by omega) rfl ?_; intro A1 c1 W1 hin hb1 hne)
  have b4 := b3.trans (hb1.mono b3.size)
  have hp := pad_any A A1 c c1 l r W1 (HA.out.keep b4 (Nat.le_refl _)) hin (by omega)
  clear hb1 b3 hin hne
  go_wp2_with fail
  refine hp.mono ?_
  rintro e w3 ⟨A2, c2, rfl, hp2, hpn, b5⟩
  have HP := Lib.hid hp2
  have HN := Lib.hid hpn
  have b6 := b4.trans (b5.mono b4.size)
  have HB3 := Lib.hid (HB.out.keep b6 (Nat.le_refl _))
  have HA3 := Lib.hid (HA.out.keep b6 (Nat.le_refl _))
  clear hp hp2 hpn b4 b5 HA HB
  have hpl := Lib.hid (padV_len l r)
  have hself : ((l.length : Int) == (l.length : Int)) = true := beq_self_eq_true _
  go_wp2_with (at_builtin; refine copy_vals (by simp [Region.wanted, yielded]) _ _ rfl A2 c2 (padV l r) (by rw [hpl.out]; rfl) HN.out HP.out (by rw [hpl.out]; omega) rfl ?_; intro A3 c3 W2 hin hb2 hne)
  have hp := pad_any A A3 c c3 l (padV l r) W2 (HA3.out.keep hb2 (Nat.le_refl _)) hin (by omega)
  rw [padV_idem] at hp
  have hb23 := hb2
  clear hin hne
  go_wp2_with fail
  refine hp.mono ?_
  rintro e w4 ⟨A4, c4, rfl, hp4, hpn4, b7⟩
  have b8 := hb23.trans (b7.mono hb23.size)
  have hvs := values_same A4 A2 c4 c2 (padV l r) w4 hp4 (HP.out.keep b8 (Nat.le_refl _)) (by have := hpl.out; omega)
  rw [hpl.out] at hvs
  have b9 := b6.trans (b8.mono b6.size)
  clear hp hp4 hpn4 b7
  go_wp2_with fail
  refine hvs.mono ?_
  rintro e w5 ⟨rfl, b10⟩
  have b11 := b9.trans (b10.mono b9.size)
  have HP5 := Lib.hid ((HP.out.keep b8 (Nat.le_refl _)).keep b10 (Nat.le_refl _))
  have HA5 := Lib.hid ((HA3.out.keep b8 (Nat.le_refl _)).keep b10 (Nat.le_refl _))
  have HB5 := Lib.hid ((HB3.out.keep b8 (Nat.le_refl _)).keep b10 (Nat.le_refl _))
  have HS := Lib.hid value_same
  clear hvs b8 b9 b10 b6 hb2 hb23
  go_wp2_with fail
  go_loopw [6] (fun i wr => ∃ k : Nat, k ≤ l.length ∧ i = .int .i64 k ∧ Below w5.heap.size w5 wr) (fun i _ => l.length - (intOf i).toNat)
  case atStart => exact ⟨0, by omega, rfl, Below.refl _ _⟩
  case round =>
    obtain ⟨k, hk, rfl, hbr⟩ := hrel
    by_cases hkl : k < l.length
    · have hpl2 := hpl.out
      obtain ⟨ad, rfl, q0, q1, q2, q3, q4, q5, q6⟩ := RdC.at (HA5.out.keep hbr (Nat.le_refl _)) k hkl
      obtain ⟨pd, rfl, p0, p1, p2, p3⟩ := RdV.at (HP5.out.keep hbr (Nat.le_refl _)) k (by omega)
      have hw1 : IntKind.i64.wrap ((k : Int) + 1) = (k : Int) + 1 := by rw [IntKind.wrap_i64]; omega
      have hpa := padV_at l r k hkl
      rw [hpa] at p0 p1 p2 p3
      by_cases hkr : k < r.length
      · obtain ⟨bd, rfl, r0, r1, r2, r3⟩ := RdV.at (HB5.out.keep hbr (Nat.le_refl _)) k hkr
        have hg : r.getD k l[k].d = r[k] := by simp [List.getD, hkr]
        rw [hg] at p0 p1 p2 p3
        have t1 : decide ((k : Int) < (r.length : Int)) = true := by rw [decide_eq_true]; omega
        have t2 : decide ((r.length : Int) ≤ (k : Int)) = false := by rw [decide_eq_false]; omega
        have t3 : decide (r.length ≤ k) = false := by rw [decide_eq_false]; omega
        have t4 : decide (k < r.length) = true := by rw [decide_eq_true]; omega
        have hcall := HS.out r[k].kind r[k].n r[k].f r[k].s
        clear hpa hg hpl2
        generalize r[k] = y at *
        go_wp2_with fail
        refine wp_region_held_drew (S := (fun w' => Below wr.heap.size wr w' ∧ w'.cell? (pd.add (k * 4)) = some (.int .i64 y.kind) ∧ w'.cell? ⟨(pd.add (k * 4)).block, (pd.add (k * 4)).off + 1, none⟩ = some (.int .i64 y.n) ∧ w'.cell? ⟨(pd.add (k * 4)).block, (pd.add (k * 4)).off + 2, none⟩ = some (.float .f64 y.f) ∧ w'.cell? ⟨(pd.add (k * 4)).block, (pd.add (k * 4)).off + 3, none⟩ = some (.string y.s) ∧ w'.cell? (bd.add (k * 4)) = some (.int .i64 y.kind) ∧ w'.cell? ⟨(bd.add (k * 4)).block, (bd.add (k * 4)).off + 1, none⟩ = some (.int .i64 y.n) ∧ w'.cell? ⟨(bd.add (k * 4)).block, (bd.add (k * 4)).off + 2, none⟩ = some (.float .f64 y.f) ∧ w'.cell? ⟨(bd.add (k * 4)).block, (bd.add (k * 4)).off + 3, none⟩ = some (.string y.s))) (by kernel_rfl) (⟨(Below.refl _ _).drew, p0, p1, p2, p3, r0, r1, r2, r3⟩) (fun hHeld => ?_)
        (refine wpAnyH_take (i := 0) (oi := { dst := some 40, op := Go.Op.move (Go.Operand.tmp 6), type := 3, pos := _, after := _, guard := none }) (v := ?_) rfl (by kernel_rfl) (by kernel_rfl) (by kernel_rfl) (fun _ _ _ h => h) (Or.inl ⟨by rfl, ?_⟩) (by assumption) ?_; rotate_left; (intro w hSw; (try dsimp only at hSw); go_simp; try with_reducible rfl); try simp only [Act.put, List.setIfInBounds_toArray, List.set_cons_zero, List.set_cons_succ])
        (refine wpAnyH_take (i := 1) (oi := { dst := some 41, op := Go.Op.move (Go.Operand.tmp 1), type := 39, pos := _, after := _, guard := none }) (v := ?_) rfl (by kernel_rfl) (by kernel_rfl) (by kernel_rfl) (fun _ _ _ h => h) (Or.inl ⟨by rfl, ?_⟩) (by assumption) ?_; rotate_left; (intro w hSw; (try dsimp only at hSw); go_simp; try with_reducible rfl); try simp only [Act.put, List.setIfInBounds_toArray, List.set_cons_zero, List.set_cons_succ])
        (refine wpAnyH_take (i := 2) (oi := { dst := some 42, op := Go.Op.call { callee := Go.Callee.builtin Go.Builtin.len, args := #[Go.Operand.tmp 41], argTypes := #[39] }, type := 3, pos := _, after := _, guard := none }) (v := ?_) rfl (by kernel_rfl) (by kernel_rfl) (by kernel_rfl) (fun _ _ _ h => h) (Or.inl ⟨by rfl, ?_⟩) (by assumption) ?_; rotate_left; (intro w hSw; (try dsimp only at hSw); go_simp; try with_reducible rfl); try simp only [Act.put, List.setIfInBounds_toArray, List.set_cons_zero, List.set_cons_succ])
        (refine wpAnyH_take (i := 3) (oi := { dst := some 43, op := Go.Op.binOp Go.BinOp.lss 3 (Go.Operand.tmp 40) (Go.Operand.tmp 42) 3, type := 4, pos := _, after := _, guard := none }) (v := ?_) rfl (by kernel_rfl) (by kernel_rfl) (by kernel_rfl) (fun _ _ _ h => h) (Or.inl ⟨by rfl, ?_⟩) (by assumption) ?_; rotate_left; (intro w hSw; (try dsimp only at hSw); go_simp; try with_reducible rfl); try simp only [Act.put, List.setIfInBounds_toArray, List.set_cons_zero, List.set_cons_succ])
        (refine wpAnyH_take (i := 4) (oi := { dst := some 44, op := Go.Op.move (Go.Operand.tmp 43), type := 4, pos := _, after := _, guard := none }) (v := ?_) rfl (by kernel_rfl) (by kernel_rfl) (by kernel_rfl) (fun _ _ _ h => h) (Or.inl ⟨by rfl, ?_⟩) (by assumption) ?_; rotate_left; (intro w hSw; (try dsimp only at hSw); go_simp; try with_reducible rfl); try simp only [Act.put, List.setIfInBounds_toArray, List.set_cons_zero, List.set_cons_succ])
        (refine wpAnyH_take (i := 5) (oi := { dst := some 45, op := Go.Op.move (Go.Operand.tmp 5), type := 39, pos := _, after := _, guard := some (4, true) }) (v := ?_) rfl (by kernel_rfl) (by kernel_rfl) (by kernel_rfl) (fun _ _ _ h => h) (Or.inl ⟨by rfl, ?_⟩) (by assumption) ?_; rotate_left; (intro w hSw; (try dsimp only at hSw); go_simp; try with_reducible rfl); try simp only [Act.put, List.setIfInBounds_toArray, List.set_cons_zero, List.set_cons_succ])
        (refine wpAnyH_take (i := 6) (oi := { dst := some 46, op := Go.Op.move (Go.Operand.tmp 6), type := 3, pos := _, after := _, guard := some (4, true) }) (v := ?_) rfl (by kernel_rfl) (by kernel_rfl) (by kernel_rfl) (fun _ _ _ h => h) (Or.inl ⟨by rfl, ?_⟩) (by assumption) ?_; rotate_left; (intro w hSw; (try dsimp only at hSw); go_simp; try with_reducible rfl); try simp only [Act.put, List.setIfInBounds_toArray, List.set_cons_zero, List.set_cons_succ])
        (refine wpAnyH_take (i := 7) (oi := { dst := some 47, op := Go.Op.indexAddr 39 (Go.Operand.tmp 45) (Go.Operand.tmp 46), type := 0, pos := _, after := _, guard := some (4, true) }) (v := ?_) rfl (by kernel_rfl) (by kernel_rfl) (by kernel_rfl) (fun _ _ _ h => h) (Or.inl ⟨by rfl, ?_⟩) (by assumption) ?_; rotate_left; (intro w hSw; (try dsimp only at hSw); go_simp; try with_reducible rfl); try simp only [Act.put, List.setIfInBounds_toArray, List.set_cons_zero, List.set_cons_succ])
        (refine wpAnyH_take (i := 8) (oi := { dst := some 48, op := Go.Op.load 24 (Go.Operand.tmp 47), type := 24, pos := _, after := _, guard := some (4, true) }) (v := ?_) rfl (by kernel_rfl) (by kernel_rfl) (by kernel_rfl) (fun _ _ _ h => h) (Or.inl ⟨by rfl, ?_⟩) (by assumption) ?_; rotate_left; (intro w hSw; (try dsimp only at hSw); go_simp; try with_reducible rfl); try simp only [Act.put, List.setIfInBounds_toArray, List.set_cons_zero, List.set_cons_succ])
        (refine wpAnyH_take (i := 9) (oi := { dst := some 49, op := Go.Op.move (Go.Operand.tmp 1), type := 39, pos := _, after := _, guard := some (4, true) }) (v := ?_) rfl (by kernel_rfl) (by kernel_rfl) (by kernel_rfl) (fun _ _ _ h => h) (Or.inl ⟨by rfl, ?_⟩) (by assumption) ?_; rotate_left; (intro w hSw; (try dsimp only at hSw); go_simp; try with_reducible rfl); try simp only [Act.put, List.setIfInBounds_toArray, List.set_cons_zero, List.set_cons_succ])
        (refine wpAnyH_take (i := 10) (oi := { dst := some 50, op := Go.Op.move (Go.Operand.tmp 6), type := 3, pos := _, after := _, guard := some (4, true) }) (v := ?_) rfl (by kernel_rfl) (by kernel_rfl) (by kernel_rfl) (fun _ _ _ h => h) (Or.inl ⟨by rfl, ?_⟩) (by assumption) ?_; rotate_left; (intro w hSw; (try dsimp only at hSw); go_simp; try with_reducible rfl); try simp only [Act.put, List.setIfInBounds_toArray, List.set_cons_zero, List.set_cons_succ])
        (refine wpAnyH_take (i := 11) (oi := { dst := some 51, op := Go.Op.indexAddr 39 (Go.Operand.tmp 49) (Go.Operand.tmp 50), type := 0, pos := _, after := _, guard := some (4, true) }) (v := ?_) rfl (by kernel_rfl) (by kernel_rfl) (by kernel_rfl) (fun _ _ _ h => h) (Or.inl ⟨by rfl, ?_⟩) (by assumption) ?_; rotate_left; (intro w hSw; (try dsimp only at hSw); go_simp; try with_reducible rfl); try simp only [Act.put, List.setIfInBounds_toArray, List.set_cons_zero, List.set_cons_succ])
        (refine wpAnyH_take (i := 12) (oi := { dst := some 52, op := Go.Op.load 24 (Go.Operand.tmp 51), type := 24, pos := _, after := _, guard := some (4, true) }) (v := ?_) rfl (by kernel_rfl) (by kernel_rfl) (by kernel_rfl) (fun _ _ _ h => h) (Or.inl ⟨by rfl, ?_⟩) (by assumption) ?_; rotate_left; (intro w hSw; (try dsimp only at hSw); go_simp; try with_reducible rfl); try simp only [Act.put, List.setIfInBounds_toArray, List.set_cons_zero, List.set_cons_succ])
        refine wpAnyH_ready (rs := [13]) (by kernel_rfl) (by simp) ?_
        refine AllReadyH.cons (o := { dst := some 53, op := Go.Op.call { callee := Go.Callee.value (Go.Operand.func 29), args := #[Go.Operand.tmp 48, Go.Operand.tmp 52], argTypes := #[24, 24] }, type := 4, pos := _, after := _, guard := some (4, true) }) rfl (fun K hK => ?_) AllReadyH.nil
        go_simp
        (refine (hcall _).mono ?_; rintro e w6 ⟨rfl, b13⟩)
        go_wp2_with fail
        refine hK.out _ _ ?_ (fun hHeld2 => ?_)
        · (go_split_ands; exact ⟨Below.trans (by assumption) (b13.mono (Below.size (by assumption))), kc b13 (by assumption), kc b13 (by assumption), kc b13 (by assumption), kc b13 (by assumption), kc b13 (by assumption), kc b13 (by assumption), kc b13 (by assumption), kc b13 (by assumption)⟩)
        clear hK K hHeld
        have hHeld := hHeld2
        clear hHeld2
        try simp only [Act.put, List.setIfInBounds_toArray, List.set_cons_zero, List.set_cons_succ]
        (refine wpAnyH_take (i := 14) (oi := { dst := some 54, op := Go.Op.unOp Go.UnOp.not 4 (Go.Operand.tmp 53), type := 4, pos := _, after := _, guard := some (4, true) }) (v := ?_) rfl (by kernel_rfl) (by kernel_rfl) (by kernel_rfl) (fun _ _ _ h => h) (Or.inl ⟨by rfl, ?_⟩) (by assumption) ?_; rotate_left; (intro w hSw; (try dsimp only at hSw); go_simp; try with_reducible rfl); try simp only [Act.put, List.setIfInBounds_toArray, List.set_cons_zero, List.set_cons_succ])
        (refine wpAnyH_take (i := 15) (oi := { dst := some 55, op := Go.Op.pick (Go.Operand.tmp 44) (Go.Operand.tmp 54) (Go.Operand.const (Go.Value.bool false)), type := 4, pos := _, after := _, guard := none }) (v := ?_) rfl (by kernel_rfl) (by kernel_rfl) (by kernel_rfl) (fun _ _ _ h => h) (Or.inl ⟨by rfl, ?_⟩) (by assumption) ?_; rotate_left; (intro w hSw; (try dsimp only at hSw); go_simp; try with_reducible rfl); try simp only [Act.put, List.setIfInBounds_toArray, List.set_cons_zero, List.set_cons_succ])
        (refine wpAnyH_take (i := 16) (oi := { dst := some 56, op := Go.Op.move (Go.Operand.tmp 55), type := 4, pos := _, after := _, guard := none }) (v := ?_) rfl (by kernel_rfl) (by kernel_rfl) (by kernel_rfl) (fun _ _ _ h => h) (Or.inl ⟨by rfl, ?_⟩) (by assumption) ?_; rotate_left; (intro w hSw; (try dsimp only at hSw); go_simp; try with_reducible rfl); try simp only [Act.put, List.setIfInBounds_toArray, List.set_cons_zero, List.set_cons_succ])
        (refine wpAnyH_take (i := 17) (oi := { dst := some 57, op := Go.Op.move (Go.Operand.tmp 6), type := 3, pos := _, after := _, guard := some (16, false) }) (v := ?_) rfl (by kernel_rfl) (by kernel_rfl) (by kernel_rfl) (fun _ _ _ h => h) (Or.inl ⟨by rfl, ?_⟩) (by assumption) ?_; rotate_left; (intro w hSw; (try dsimp only at hSw); go_simp; try with_reducible rfl); try simp only [Act.put, List.setIfInBounds_toArray, List.set_cons_zero, List.set_cons_succ])
        (refine wpAnyH_take (i := 18) (oi := { dst := some 58, op := Go.Op.move (Go.Operand.tmp 1), type := 39, pos := _, after := _, guard := some (16, false) }) (v := ?_) rfl (by kernel_rfl) (by kernel_rfl) (by kernel_rfl) (fun _ _ _ h => h) (Or.inl ⟨by rfl, ?_⟩) (by assumption) ?_; rotate_left; (intro w hSw; (try dsimp only at hSw); go_simp; try with_reducible rfl); try simp only [Act.put, List.setIfInBounds_toArray, List.set_cons_zero, List.set_cons_succ])
        (refine wpAnyH_take (i := 19) (oi := { dst := some 59, op := Go.Op.call { callee := Go.Callee.builtin Go.Builtin.len, args := #[Go.Operand.tmp 58], argTypes := #[39] }, type := 3, pos := _, after := _, guard := some (16, false) }) (v := ?_) rfl (by kernel_rfl) (by kernel_rfl) (by kernel_rfl) (fun _ _ _ h => h) (Or.inl ⟨by rfl, ?_⟩) (by assumption) ?_; rotate_left; (intro w hSw; (try dsimp only at hSw); go_simp; try with_reducible rfl); try simp only [Act.put, List.setIfInBounds_toArray, List.set_cons_zero, List.set_cons_succ])
        (refine wpAnyH_take (i := 20) (oi := { dst := some 60, op := Go.Op.binOp Go.BinOp.geq 3 (Go.Operand.tmp 57) (Go.Operand.tmp 59) 3, type := 4, pos := _, after := _, guard := some (16, false) }) (v := ?_) rfl (by kernel_rfl) (by kernel_rfl) (by kernel_rfl) (fun _ _ _ h => h) (Or.inl ⟨by rfl, ?_⟩) (by assumption) ?_; rotate_left; (intro w hSw; (try dsimp only at hSw); go_simp; try with_reducible rfl); try simp only [Act.put, List.setIfInBounds_toArray, List.set_cons_zero, List.set_cons_succ])
        (refine wpAnyH_take (i := 21) (oi := { dst := some 61, op := Go.Op.move (Go.Operand.tmp 60), type := 4, pos := _, after := _, guard := some (16, false) }) (v := ?_) rfl (by kernel_rfl) (by kernel_rfl) (by kernel_rfl) (fun _ _ _ h => h) (Or.inl ⟨by rfl, ?_⟩) (by assumption) ?_; rotate_left; (intro w hSw; (try dsimp only at hSw); go_simp; try with_reducible rfl); try simp only [Act.put, List.setIfInBounds_toArray, List.set_cons_zero, List.set_cons_succ])
        (refine wpAnyH_take (i := 22) (oi := { dst := some 62, op := Go.Op.move (Go.Operand.tmp 5), type := 39, pos := _, after := _, guard := some (21, true) }) (v := undef) rfl (by kernel_rfl) (by kernel_rfl) (by kernel_rfl) (fun _ _ _ h => h) (Or.inr ⟨by rfl, rfl⟩) (by assumption) ?_; try simp only [Act.put, List.setIfInBounds_toArray, List.set_cons_zero, List.set_cons_succ])
        (refine wpAnyH_take (i := 23) (oi := { dst := some 63, op := Go.Op.move (Go.Operand.tmp 6), type := 3, pos := _, after := _, guard := some (21, true) }) (v := undef) rfl (by kernel_rfl) (by kernel_rfl) (by kernel_rfl) (fun _ _ _ h => h) (Or.inr ⟨by rfl, rfl⟩) (by assumption) ?_; try simp only [Act.put, List.setIfInBounds_toArray, List.set_cons_zero, List.set_cons_succ])
        (refine wpAnyH_take (i := 24) (oi := { dst := some 64, op := Go.Op.indexAddr 39 (Go.Operand.tmp 62) (Go.Operand.tmp 63), type := 0, pos := _, after := _, guard := some (21, true) }) (v := undef) rfl (by kernel_rfl) (by kernel_rfl) (by kernel_rfl) (fun _ _ _ h => h) (Or.inr ⟨by rfl, rfl⟩) (by assumption) ?_; try simp only [Act.put, List.setIfInBounds_toArray, List.set_cons_zero, List.set_cons_succ])
        (refine wpAnyH_take (i := 25) (oi := { dst := some 65, op := Go.Op.load 24 (Go.Operand.tmp 64), type := 24, pos := _, after := _, guard := some (21, true) }) (v := undef) rfl (by kernel_rfl) (by kernel_rfl) (by kernel_rfl) (fun _ _ _ h => h) (Or.inr ⟨by rfl, rfl⟩) (by assumption) ?_; try simp only [Act.put, List.setIfInBounds_toArray, List.set_cons_zero, List.set_cons_succ])
        (refine wpAnyH_take (i := 26) (oi := { dst := some 66, op := Go.Op.move (Go.Operand.tmp 0), type := 49, pos := _, after := _, guard := some (21, true) }) (v := undef) rfl (by kernel_rfl) (by kernel_rfl) (by kernel_rfl) (fun _ _ _ h => h) (Or.inr ⟨by rfl, rfl⟩) (by assumption) ?_; try simp only [Act.put, List.setIfInBounds_toArray, List.set_cons_zero, List.set_cons_succ])
        (refine wpAnyH_take (i := 27) (oi := { dst := some 67, op := Go.Op.move (Go.Operand.tmp 6), type := 3, pos := _, after := _, guard := some (21, true) }) (v := undef) rfl (by kernel_rfl) (by kernel_rfl) (by kernel_rfl) (fun _ _ _ h => h) (Or.inr ⟨by rfl, rfl⟩) (by assumption) ?_; try simp only [Act.put, List.setIfInBounds_toArray, List.set_cons_zero, List.set_cons_succ])
        (refine wpAnyH_take (i := 28) (oi := { dst := some 68, op := Go.Op.indexAddr 49 (Go.Operand.tmp 66) (Go.Operand.tmp 67), type := 0, pos := _, after := _, guard := some (21, true) }) (v := undef) rfl (by kernel_rfl) (by kernel_rfl) (by kernel_rfl) (fun _ _ _ h => h) (Or.inr ⟨by rfl, rfl⟩) (by assumption) ?_; try simp only [Act.put, List.setIfInBounds_toArray, List.set_cons_zero, List.set_cons_succ])
        (refine wpAnyH_take (i := 29) (oi := { dst := some 69, op := Go.Op.fieldAddr 53 (Go.Operand.tmp 68) 3, type := 0, pos := _, after := _, guard := some (21, true) }) (v := undef) rfl (by kernel_rfl) (by kernel_rfl) (by kernel_rfl) (fun _ _ _ h => h) (Or.inr ⟨by rfl, rfl⟩) (by assumption) ?_; try simp only [Act.put, List.setIfInBounds_toArray, List.set_cons_zero, List.set_cons_succ])
        (refine wpAnyH_take (i := 30) (oi := { dst := some 70, op := Go.Op.load 24 (Go.Operand.tmp 69), type := 24, pos := _, after := _, guard := some (21, true) }) (v := undef) rfl (by kernel_rfl) (by kernel_rfl) (by kernel_rfl) (fun _ _ _ h => h) (Or.inr ⟨by rfl, rfl⟩) (by assumption) ?_; try simp only [Act.put, List.setIfInBounds_toArray, List.set_cons_zero, List.set_cons_succ])
        (refine wpAnyH_take (i := 31) (oi := { dst := some 71, op := Go.Op.call { callee := Go.Callee.value (Go.Operand.func 29), args := #[Go.Operand.tmp 65, Go.Operand.tmp 70], argTypes := #[24, 24] }, type := 4, pos := _, after := _, guard := some (21, true) }) (v := undef) rfl (by kernel_rfl) (by kernel_rfl) (by kernel_rfl) (fun _ _ _ h => h) (Or.inr ⟨by rfl, rfl⟩) (by assumption) ?_; try simp only [Act.put, List.setIfInBounds_toArray, List.set_cons_zero, List.set_cons_succ])
        (refine wpAnyH_take (i := 32) (oi := { dst := some 72, op := Go.Op.unOp Go.UnOp.not 4 (Go.Operand.tmp 71), type := 4, pos := _, after := _, guard := some (21, true) }) (v := undef) rfl (by kernel_rfl) (by kernel_rfl) (by kernel_rfl) (fun _ _ _ h => h) (Or.inr ⟨by rfl, rfl⟩) (by assumption) ?_; try simp only [Act.put, List.setIfInBounds_toArray, List.set_cons_zero, List.set_cons_succ])
        (refine wpAnyH_take (i := 33) (oi := { dst := some 73, op := Go.Op.pick (Go.Operand.tmp 61) (Go.Operand.tmp 72) (Go.Operand.const (Go.Value.bool false)), type := 4, pos := _, after := _, guard := some (16, false) }) (v := ?_) rfl (by kernel_rfl) (by kernel_rfl) (by kernel_rfl) (fun _ _ _ h => h) (Or.inl ⟨by rfl, ?_⟩) (by assumption) ?_; rotate_left; (intro w hSw; (try dsimp only at hSw); go_simp; try with_reducible rfl); try simp only [Act.put, List.setIfInBounds_toArray, List.set_cons_zero, List.set_cons_succ])
        (refine wpAnyH_take (i := 34) (oi := { dst := some 74, op := Go.Op.pick (Go.Operand.tmp 56) (Go.Operand.const (Go.Value.bool true)) (Go.Operand.tmp 73), type := 4, pos := _, after := _, guard := none }) (v := ?_) rfl (by kernel_rfl) (by kernel_rfl) (by kernel_rfl) (fun _ _ _ h => h) (Or.inl ⟨by rfl, ?_⟩) (by assumption) ?_; rotate_left; (intro w hSw; (try dsimp only at hSw); go_simp; try with_reducible rfl); try simp only [Act.put, List.setIfInBounds_toArray, List.set_cons_zero, List.set_cons_succ])
        refine wpAnyH_done (by kernel_rfl) ?_ _
        have hb3 := hbr.trans ((And.left hHeld).mono hbr.size)
        go_wp2_with fail
        exact ⟨⟨k + 1, by omega, by go_num, hb3⟩, by simp [intOf]; omega⟩
      · have hg : r.getD k l[k].d = l[k].d := by simp [List.getD, List.getElem?_eq_none (Nat.le_of_not_lt hkr)]
        rw [hg] at p0 p1 p2 p3
        have t1 : decide ((k : Int) < (r.length : Int)) = false := by rw [decide_eq_false]; omega
        have t2 : decide ((r.length : Int) ≤ (k : Int)) = true := by rw [decide_eq_true]; omega
        have t3 : decide (r.length ≤ k) = true := by rw [decide_eq_true]; omega
        have t4 : decide (k < r.length) = false := by rw [decide_eq_false]; omega
        have hcall := HS.out l[k].d.kind l[k].d.n l[k].d.f l[k].d.s
        clear hpa hg hpl2 q0 q1 q2
        generalize l[k].d = y at *
        go_wp2_with fail
        refine wp_region_held_drew (S := (fun w' => Below wr.heap.size wr w' ∧ w'.cell? (pd.add (k * 4)) = some (.int .i64 y.kind) ∧ w'.cell? ⟨(pd.add (k * 4)).block, (pd.add (k * 4)).off + 1, none⟩ = some (.int .i64 y.n) ∧ w'.cell? ⟨(pd.add (k * 4)).block, (pd.add (k * 4)).off + 2, none⟩ = some (.float .f64 y.f) ∧ w'.cell? ⟨(pd.add (k * 4)).block, (pd.add (k * 4)).off + 3, none⟩ = some (.string y.s) ∧ w'.cell? ⟨(ad.add (k * 7)).block, (ad.add (k * 7)).off + 3, none⟩ = some (.int .i64 y.kind) ∧ w'.cell? ⟨(ad.add (k * 7)).block, (ad.add (k * 7)).off + 4, none⟩ = some (.int .i64 y.n) ∧ w'.cell? ⟨(ad.add (k * 7)).block, (ad.add (k * 7)).off + 5, none⟩ = some (.float .f64 y.f) ∧ w'.cell? ⟨(ad.add (k * 7)).block, (ad.add (k * 7)).off + 6, none⟩ = some (.string y.s))) (by kernel_rfl) (⟨(Below.refl _ _).drew, p0, p1, p2, p3, q3, q4, q5, q6⟩) (fun hHeld => ?_)
        (refine wpAnyH_take (i := 0) (oi := { dst := some 40, op := Go.Op.move (Go.Operand.tmp 6), type := 3, pos := _, after := _, guard := none }) (v := ?_) rfl (by kernel_rfl) (by kernel_rfl) (by kernel_rfl) (fun _ _ _ h => h) (Or.inl ⟨by rfl, ?_⟩) (by assumption) ?_; rotate_left; (intro w hSw; (try dsimp only at hSw); go_simp; try with_reducible rfl); try simp only [Act.put, List.setIfInBounds_toArray, List.set_cons_zero, List.set_cons_succ])
        (refine wpAnyH_take (i := 1) (oi := { dst := some 41, op := Go.Op.move (Go.Operand.tmp 1), type := 39, pos := _, after := _, guard := none }) (v := ?_) rfl (by kernel_rfl) (by kernel_rfl) (by kernel_rfl) (fun _ _ _ h => h) (Or.inl ⟨by rfl, ?_⟩) (by assumption) ?_; rotate_left; (intro w hSw; (try dsimp only at hSw); go_simp; try with_reducible rfl); try simp only [Act.put, List.setIfInBounds_toArray, List.set_cons_zero, List.set_cons_succ])
        (refine wpAnyH_take (i := 2) (oi := { dst := some 42, op := Go.Op.call { callee := Go.Callee.builtin Go.Builtin.len, args := #[Go.Operand.tmp 41], argTypes := #[39] }, type := 3, pos := _, after := _, guard := none }) (v := ?_) rfl (by kernel_rfl) (by kernel_rfl) (by kernel_rfl) (fun _ _ _ h => h) (Or.inl ⟨by rfl, ?_⟩) (by assumption) ?_; rotate_left; (intro w hSw; (try dsimp only at hSw); go_simp; try with_reducible rfl); try simp only [Act.put, List.setIfInBounds_toArray, List.set_cons_zero, List.set_cons_succ])
        (refine wpAnyH_take (i := 3) (oi := { dst := some 43, op := Go.Op.binOp Go.BinOp.lss 3 (Go.Operand.tmp 40) (Go.Operand.tmp 42) 3, type := 4, pos := _, after := _, guard := none }) (v := ?_) rfl (by kernel_rfl) (by kernel_rfl) (by kernel_rfl) (fun _ _ _ h => h) (Or.inl ⟨by rfl, ?_⟩) (by assumption) ?_; rotate_left; (intro w hSw; (try dsimp only at hSw); go_simp; try with_reducible rfl); try simp only [Act.put, List.setIfInBounds_toArray, List.set_cons_zero, List.set_cons_succ])
        (refine wpAnyH_take (i := 4) (oi := { dst := some 44, op := Go.Op.move (Go.Operand.tmp 43), type := 4, pos := _, after := _, guard := none }) (v := ?_) rfl (by kernel_rfl) (by kernel_rfl) (by kernel_rfl) (fun _ _ _ h => h) (Or.inl ⟨by rfl, ?_⟩) (by assumption) ?_; rotate_left; (intro w hSw; (try dsimp only at hSw); go_simp; try with_reducible rfl); try simp only [Act.put, List.setIfInBounds_toArray, List.set_cons_zero, List.set_cons_succ])
        (refine wpAnyH_take (i := 5) (oi := { dst := some 45, op := Go.Op.move (Go.Operand.tmp 5), type := 39, pos := _, after := _, guard := some (4, true) }) (v := undef) rfl (by kernel_rfl) (by kernel_rfl) (by kernel_rfl) (fun _ _ _ h => h) (Or.inr ⟨by rfl, rfl⟩) (by assumption) ?_; try simp only [Act.put, List.setIfInBounds_toArray, List.set_cons_zero, List.set_cons_succ])
        (refine wpAnyH_take (i := 6) (oi := { dst := some 46, op := Go.Op.move (Go.Operand.tmp 6), type := 3, pos := _, after := _, guard := some (4, true) }) (v := undef) rfl (by kernel_rfl) (by kernel_rfl) (by kernel_rfl) (fun _ _ _ h => h) (Or.inr ⟨by rfl, rfl⟩) (by assumption) ?_; try simp only [Act.put, List.setIfInBounds_toArray, List.set_cons_zero, List.set_cons_succ])
        (refine wpAnyH_take (i := 7) (oi := { dst := some 47, op := Go.Op.indexAddr 39 (Go.Operand.tmp 45) (Go.Operand.tmp 46), type := 0, pos := _, after := _, guard := some (4, true) }) (v := undef) rfl (by kernel_rfl) (by kernel_rfl) (by kernel_rfl) (fun _ _ _ h => h) (Or.inr ⟨by rfl, rfl⟩) (by assumption) ?_; try simp only [Act.put, List.setIfInBounds_toArray, List.set_cons_zero, List.set_cons_succ])
        (refine wpAnyH_take (i := 8) (oi := { dst := some 48, op := Go.Op.load 24 (Go.Operand.tmp 47), type := 24, pos := _, after := _, guard := some (4, true) }) (v := undef) rfl (by kernel_rfl) (by kernel_rfl) (by kernel_rfl) (fun _ _ _ h => h) (Or.inr ⟨by rfl, rfl⟩) (by assumption) ?_; try simp only [Act.put, List.setIfInBounds_toArray, List.set_cons_zero, List.set_cons_succ])
        (refine wpAnyH_take (i := 9) (oi := { dst := some 49, op := Go.Op.move (Go.Operand.tmp 1), type := 39, pos := _, after := _, guard := some (4, true) }) (v := undef) rfl (by kernel_rfl) (by kernel_rfl) (by kernel_rfl) (fun _ _ _ h => h) (Or.inr ⟨by rfl, rfl⟩) (by assumption) ?_; try simp only [Act.put, List.setIfInBounds_toArray, List.set_cons_zero, List.set_cons_succ])
        (refine wpAnyH_take (i := 10) (oi := { dst := some 50, op := Go.Op.move (Go.Operand.tmp 6), type := 3, pos := _, after := _, guard := some (4, true) }) (v := undef) rfl (by kernel_rfl) (by kernel_rfl) (by kernel_rfl) (fun _ _ _ h => h) (Or.inr ⟨by rfl, rfl⟩) (by assumption) ?_; try simp only [Act.put, List.setIfInBounds_toArray, List.set_cons_zero, List.set_cons_succ])
        (refine wpAnyH_take (i := 11) (oi := { dst := some 51, op := Go.Op.indexAddr 39 (Go.Operand.tmp 49) (Go.Operand.tmp 50), type := 0, pos := _, after := _, guard := some (4, true) }) (v := undef) rfl (by kernel_rfl) (by kernel_rfl) (by kernel_rfl) (fun _ _ _ h => h) (Or.inr ⟨by rfl, rfl⟩) (by assumption) ?_; try simp only [Act.put, List.setIfInBounds_toArray, List.set_cons_zero, List.set_cons_succ])
        (refine wpAnyH_take (i := 12) (oi := { dst := some 52, op := Go.Op.load 24 (Go.Operand.tmp 51), type := 24, pos := _, after := _, guard := some (4, true) }) (v := undef) rfl (by kernel_rfl) (by kernel_rfl) (by kernel_rfl) (fun _ _ _ h => h) (Or.inr ⟨by rfl, rfl⟩) (by assumption) ?_; try simp only [Act.put, List.setIfInBounds_toArray, List.set_cons_zero, List.set_cons_succ])
        (refine wpAnyH_take (i := 13) (oi := { dst := some 53, op := Go.Op.call { callee := Go.Callee.value (Go.Operand.func 29), args := #[Go.Operand.tmp 48, Go.Operand.tmp 52], argTypes := #[24, 24] }, type := 4, pos := _, after := _, guard := some (4, true) }) (v := undef) rfl (by kernel_rfl) (by kernel_rfl) (by kernel_rfl) (fun _ _ _ h => h) (Or.inr ⟨by rfl, rfl⟩) (by assumption) ?_; try simp only [Act.put, List.setIfInBounds_toArray, List.set_cons_zero, List.set_cons_succ])
        (refine wpAnyH_take (i := 14) (oi := { dst := some 54, op := Go.Op.unOp Go.UnOp.not 4 (Go.Operand.tmp 53), type := 4, pos := _, after := _, guard := some (4, true) }) (v := undef) rfl (by kernel_rfl) (by kernel_rfl) (by kernel_rfl) (fun _ _ _ h => h) (Or.inr ⟨by rfl, rfl⟩) (by assumption) ?_; try simp only [Act.put, List.setIfInBounds_toArray, List.set_cons_zero, List.set_cons_succ])
        (refine wpAnyH_take (i := 15) (oi := { dst := some 55, op := Go.Op.pick (Go.Operand.tmp 44) (Go.Operand.tmp 54) (Go.Operand.const (Go.Value.bool false)), type := 4, pos := _, after := _, guard := none }) (v := ?_) rfl (by kernel_rfl) (by kernel_rfl) (by kernel_rfl) (fun _ _ _ h => h) (Or.inl ⟨by rfl, ?_⟩) (by assumption) ?_; rotate_left; (intro w hSw; (try dsimp only at hSw); go_simp; try with_reducible rfl); try simp only [Act.put, List.setIfInBounds_toArray, List.set_cons_zero, List.set_cons_succ])
        (refine wpAnyH_take (i := 16) (oi := { dst := some 56, op := Go.Op.move (Go.Operand.tmp 55), type := 4, pos := _, after := _, guard := none }) (v := ?_) rfl (by kernel_rfl) (by kernel_rfl) (by kernel_rfl) (fun _ _ _ h => h) (Or.inl ⟨by rfl, ?_⟩) (by assumption) ?_; rotate_left; (intro w hSw; (try dsimp only at hSw); go_simp; try with_reducible rfl); try simp only [Act.put, List.setIfInBounds_toArray, List.set_cons_zero, List.set_cons_succ])
        (refine wpAnyH_take (i := 17) (oi := { dst := some 57, op := Go.Op.move (Go.Operand.tmp 6), type := 3, pos := _, after := _, guard := some (16, false) }) (v := ?_) rfl (by kernel_rfl) (by kernel_rfl) (by kernel_rfl) (fun _ _ _ h => h) (Or.inl ⟨by rfl, ?_⟩) (by assumption) ?_; rotate_left; (intro w hSw; (try dsimp only at hSw); go_simp; try with_reducible rfl); try simp only [Act.put, List.setIfInBounds_toArray, List.set_cons_zero, List.set_cons_succ])
        (refine wpAnyH_take (i := 18) (oi := { dst := some 58, op := Go.Op.move (Go.Operand.tmp 1), type := 39, pos := _, after := _, guard := some (16, false) }) (v := ?_) rfl (by kernel_rfl) (by kernel_rfl) (by kernel_rfl) (fun _ _ _ h => h) (Or.inl ⟨by rfl, ?_⟩) (by assumption) ?_; rotate_left; (intro w hSw; (try dsimp only at hSw); go_simp; try with_reducible rfl); try simp only [Act.put, List.setIfInBounds_toArray, List.set_cons_zero, List.set_cons_succ])
        (refine wpAnyH_take (i := 19) (oi := { dst := some 59, op := Go.Op.call { callee := Go.Callee.builtin Go.Builtin.len, args := #[Go.Operand.tmp 58], argTypes := #[39] }, type := 3, pos := _, after := _, guard := some (16, false) }) (v := ?_) rfl (by kernel_rfl) (by kernel_rfl) (by kernel_rfl) (fun _ _ _ h => h) (Or.inl ⟨by rfl, ?_⟩) (by assumption) ?_; rotate_left; (intro w hSw; (try dsimp only at hSw); go_simp; try with_reducible rfl); try simp only [Act.put, List.setIfInBounds_toArray, List.set_cons_zero, List.set_cons_succ])
        (refine wpAnyH_take (i := 20) (oi := { dst := some 60, op := Go.Op.binOp Go.BinOp.geq 3 (Go.Operand.tmp 57) (Go.Operand.tmp 59) 3, type := 4, pos := _, after := _, guard := some (16, false) }) (v := ?_) rfl (by kernel_rfl) (by kernel_rfl) (by kernel_rfl) (fun _ _ _ h => h) (Or.inl ⟨by rfl, ?_⟩) (by assumption) ?_; rotate_left; (intro w hSw; (try dsimp only at hSw); go_simp; try with_reducible rfl); try simp only [Act.put, List.setIfInBounds_toArray, List.set_cons_zero, List.set_cons_succ])
        (refine wpAnyH_take (i := 21) (oi := { dst := some 61, op := Go.Op.move (Go.Operand.tmp 60), type := 4, pos := _, after := _, guard := some (16, false) }) (v := ?_) rfl (by kernel_rfl) (by kernel_rfl) (by kernel_rfl) (fun _ _ _ h => h) (Or.inl ⟨by rfl, ?_⟩) (by assumption) ?_; rotate_left; (intro w hSw; (try dsimp only at hSw); go_simp; try with_reducible rfl); try simp only [Act.put, List.setIfInBounds_toArray, List.set_cons_zero, List.set_cons_succ])
        (refine wpAnyH_take (i := 22) (oi := { dst := some 62, op := Go.Op.move (Go.Operand.tmp 5), type := 39, pos := _, after := _, guard := some (21, true) }) (v := ?_) rfl (by kernel_rfl) (by kernel_rfl) (by kernel_rfl) (fun _ _ _ h => h) (Or.inl ⟨by rfl, ?_⟩) (by assumption) ?_; rotate_left; (intro w hSw; (try dsimp only at hSw); go_simp; try with_reducible rfl); try simp only [Act.put, List.setIfInBounds_toArray, List.set_cons_zero, List.set_cons_succ])
        (refine wpAnyH_take (i := 23) (oi := { dst := some 63, op := Go.Op.move (Go.Operand.tmp 6), type := 3, pos := _, after := _, guard := some (21, true) }) (v := ?_) rfl (by kernel_rfl) (by kernel_rfl) (by kernel_rfl) (fun _ _ _ h => h) (Or.inl ⟨by rfl, ?_⟩) (by assumption) ?_; rotate_left; (intro w hSw; (try dsimp only at hSw); go_simp; try with_reducible rfl); try simp only [Act.put, List.setIfInBounds_toArray, List.set_cons_zero, List.set_cons_succ])
        (refine wpAnyH_take (i := 24) (oi := { dst := some 64, op := Go.Op.indexAddr 39 (Go.Operand.tmp 62) (Go.Operand.tmp 63), type := 0, pos := _, after := _, guard := some (21, true) }) (v := ?_) rfl (by kernel_rfl) (by kernel_rfl) (by kernel_rfl) (fun _ _ _ h => h) (Or.inl ⟨by rfl, ?_⟩) (by assumption) ?_; rotate_left; (intro w hSw; (try dsimp only at hSw); go_simp; try with_reducible rfl); try simp only [Act.put, List.setIfInBounds_toArray, List.set_cons_zero, List.set_cons_succ])
        (refine wpAnyH_take (i := 25) (oi := { dst := some 65, op := Go.Op.load 24 (Go.Operand.tmp 64), type := 24, pos := _, after := _, guard := some (21, true) }) (v := ?_) rfl (by kernel_rfl) (by kernel_rfl) (by kernel_rfl) (fun _ _ _ h => h) (Or.inl ⟨by rfl, ?_⟩) (by assumption) ?_; rotate_left; (intro w hSw; (try dsimp only at hSw); go_simp; try with_reducible rfl); try simp only [Act.put, List.setIfInBounds_toArray, List.set_cons_zero, List.set_cons_succ])
        (refine wpAnyH_take (i := 26) (oi := { dst := some 66, op := Go.Op.move (Go.Operand.tmp 0), type := 49, pos := _, after := _, guard := some (21, true) }) (v := ?_) rfl (by kernel_rfl) (by kernel_rfl) (by kernel_rfl) (fun _ _ _ h => h) (Or.inl ⟨by rfl, ?_⟩) (by assumption) ?_; rotate_left; (intro w hSw; (try dsimp only at hSw); go_simp; try with_reducible rfl); try simp only [Act.put, List.setIfInBounds_toArray, List.set_cons_zero, List.set_cons_succ])
        (refine wpAnyH_take (i := 27) (oi := { dst := some 67, op := Go.Op.move (Go.Operand.tmp 6), type := 3, pos := _, after := _, guard := some (21, true) }) (v := ?_) rfl (by kernel_rfl) (by kernel_rfl) (by kernel_rfl) (fun _ _ _ h => h) (Or.inl ⟨by rfl, ?_⟩) (by assumption) ?_; rotate_left; (intro w hSw; (try dsimp only at hSw); go_simp; try with_reducible rfl); try simp only [Act.put, List.setIfInBounds_toArray, List.set_cons_zero, List.set_cons_succ])
        (refine wpAnyH_take (i := 28) (oi := { dst := some 68, op := Go.Op.indexAddr 49 (Go.Operand.tmp 66) (Go.Operand.tmp 67), type := 0, pos := _, after := _, guard := some (21, true) }) (v := ?_) rfl (by kernel_rfl) (by kernel_rfl) (by kernel_rfl) (fun _ _ _ h => h) (Or.inl ⟨by rfl, ?_⟩) (by assumption) ?_; rotate_left; (intro w hSw; (try dsimp only at hSw); go_simp; try with_reducible rfl); try simp only [Act.put, List.setIfInBounds_toArray, List.set_cons_zero, List.set_cons_succ])
        (refine wpAnyH_take (i := 29) (oi := { dst := some 69, op := Go.Op.fieldAddr 53 (Go.Operand.tmp 68) 3, type := 0, pos := _, after := _, guard := some (21, true) }) (v := ?_) rfl (by kernel_rfl) (by kernel_rfl) (by kernel_rfl) (fun _ _ _ h => h) (Or.inl ⟨by rfl, ?_⟩) (by assumption) ?_; rotate_left; (intro w hSw; (try dsimp only at hSw); go_simp; try with_reducible rfl); try simp only [Act.put, List.setIfInBounds_toArray, List.set_cons_zero, List.set_cons_succ])
        (refine wpAnyH_take (i := 30) (oi := { dst := some 70, op := Go.Op.load 24 (Go.Operand.tmp 69), type := 24, pos := _, after := _, guard := some (21, true) }) (v := ?_) rfl (by kernel_rfl) (by kernel_rfl) (by kernel_rfl) (fun _ _ _ h => h) (Or.inl ⟨by rfl, ?_⟩) (by assumption) ?_; rotate_left; (intro w hSw; (try dsimp only at hSw); go_simp; try with_reducible rfl); try simp only [Act.put, List.setIfInBounds_toArray, List.set_cons_zero, List.set_cons_succ])
        refine wpAnyH_ready (rs := [31]) (by kernel_rfl) (by simp) ?_
        refine AllReadyH.cons (o := { dst := some 71, op := Go.Op.call { callee := Go.Callee.value (Go.Operand.func 29), args := #[Go.Operand.tmp 65, Go.Operand.tmp 70], argTypes := #[24, 24] }, type := 4, pos := _, after := _, guard := some (21, true) }) rfl (fun K hK => ?_) AllReadyH.nil
        go_simp
        (refine (hcall _).mono ?_; rintro e w6 ⟨rfl, b13⟩)
        go_wp2_with fail
        refine hK.out _ _ ?_ (fun hHeld2 => ?_)
        · (go_split_ands; exact ⟨Below.trans (by assumption) (b13.mono (Below.size (by assumption))), kc b13 (by assumption), kc b13 (by assumption), kc b13 (by assumption), kc b13 (by assumption), kc b13 (by assumption), kc b13 (by assumption), kc b13 (by assumption), kc b13 (by assumption)⟩)
        clear hK K hHeld
        have hHeld := hHeld2
        clear hHeld2
        try simp only [Act.put, List.setIfInBounds_toArray, List.set_cons_zero, List.set_cons_succ]
        (refine wpAnyH_take (i := 32) (oi := { dst := some 72, op := Go.Op.unOp Go.UnOp.not 4 (Go.Operand.tmp 71), type := 4, pos := _, after := _, guard := some (21, true) }) (v := ?_) rfl (by kernel_rfl) (by kernel_rfl) (by kernel_rfl) (fun _ _ _ h => h) (Or.inl ⟨by rfl, ?_⟩) (by assumption) ?_; rotate_left; (intro w hSw; (try dsimp only at hSw); go_simp; try with_reducible rfl); try simp only [Act.put, List.setIfInBounds_toArray, List.set_cons_zero, List.set_cons_succ])
        (refine wpAnyH_take (i := 33) (oi := { dst := some 73, op := Go.Op.pick (Go.Operand.tmp 61) (Go.Operand.tmp 72) (Go.Operand.const (Go.Value.bool false)), type := 4, pos := _, after := _, guard := some (16, false) }) (v := ?_) rfl (by kernel_rfl) (by kernel_rfl) (by kernel_rfl) (fun _ _ _ h => h) (Or.inl ⟨by rfl, ?_⟩) (by assumption) ?_; rotate_left; (intro w hSw; (try dsimp only at hSw); go_simp; try with_reducible rfl); try simp only [Act.put, List.setIfInBounds_toArray, List.set_cons_zero, List.set_cons_succ])
        (refine wpAnyH_take (i := 34) (oi := { dst := some 74, op := Go.Op.pick (Go.Operand.tmp 56) (Go.Operand.const (Go.Value.bool true)) (Go.Operand.tmp 73), type := 4, pos := _, after := _, guard := none }) (v := ?_) rfl (by kernel_rfl) (by kernel_rfl) (by kernel_rfl) (fun _ _ _ h => h) (Or.inl ⟨by rfl, ?_⟩) (by assumption) ?_; rotate_left; (intro w hSw; (try dsimp only at hSw); go_simp; try with_reducible rfl); try simp only [Act.put, List.setIfInBounds_toArray, List.set_cons_zero, List.set_cons_succ])
        refine wpAnyH_done (by kernel_rfl) ?_ _
        have hb3 := hbr.trans ((And.left hHeld).mono hbr.size)
        go_wp2_with fail
        exact ⟨⟨k + 1, by omega, by go_num, hb3⟩, by simp [intOf]; omega⟩
    · obtain rfl : k = l.length := by omega
      go_wp2_with fail
      refine (row_wakes _).mono ?_
      rintro e w9 ⟨rfl, b12⟩
      go_wp2_with fail
      go_ret
      exact ⟨rfl, b11.trans ((hbr.trans (b12.mono hbr.size)).mono b11.size)⟩

set_option maxRecDepth 100000 in
theorem rowPads_lifted (os : Os) (started : os.Started) (H : Type) (enc : TypeId × Value → H) :
    ReturnsInHanded {} Try.checked os 5 .any (Rows.rowPadsSpec.pre6 enc Try.prog Try.f5 [] false) (Rows.rowPadsSpec.post enc Try.prog Try.f5 false true false false) := by
  refine law_lifted (C := Try.checked) own started (by kernel_rfl) Try.func5
    (ChangeSpec.witness6 (enc := enc) (C := Try.checked) false ⟨#[], #[.slice none 0 0, .slice none 0 0], []⟩ 8 (by kernel_rfl) (by kernel_rfl) (by kernel_rfl) (by kernel_rfl))
    rfl (fun ds h => by match ds, h with | [_, _], _ => rfl) laid (by kernel_rfl) (tb := 4) rfl Try.underlying4 ?_
  intro W base args ds ps hval hA hsz
  rw [Try.params5] at hA hval hsz
  obtain ⟨v0, v1, d0, d1, q0, q1, rfl, rfl, rfl, h0, h1⟩ := trodAll_two hA
  obtain ⟨A, c, l, rfl, hr, hlc, hw, hn⟩ := open_cols (hval 0 49 v0 rfl rfl) h0
  obtain ⟨B, d, r, rfl, hr2, hlc2, hw2, hn2⟩ := open_row (hval 1 39 v1 rfl rfl) h1
  cases hL : largeC l with
  | true => exact pads_large1 A B c d l r W hr hr2 hL
  | false =>
  cases hR : largeR r with
  | true => exact pads_large2 A B c d l r W hr hr2 hL hR
  | false =>
  exact pads_main A B c d l r W hr hr2 hn2 hL hR

theorem rowPads_holds : Rows.RowPadsSaid :=
  OpenClaim.holds_of_wide 5 Try.f5 rfl rfl rfl rfl rfl rfl rfl ⟨rfl, rfl, rfl, rfl, rfl⟩ rfl rfl rfl rfl rfl (by kernel_rfl) Try.func5 (by kernel_rfl)
    (of_decide_eq_true (by kernel_rfl)) (by unfold Func.isWrapper; first | (rw [if_pos (by decide +kernel)]; kernel_rfl) | (rw [if_neg (by decide +kernel)]; exact ⟨rfl, rfl⟩))
    (fun os started H enc _ => rowPads_lifted os started H enc)
#print axioms rowPads_holds
end Go.Proofs.Ytmgpecomgffelaa
