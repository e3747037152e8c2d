/- Contracts: replies alike (of the reference); the statements' own look at package reply (wakes). -/
import Derived.Test.YtmgpecomgffelaaRepH
namespace Go.Proofs.Ytmgpecomgffelaa
open Go.RowKit
set_option linter.unusedVariables false
theorem lt_irr (a : ByteArray) : ltS a a = false := bl_irr _
theorem lt_tri {a b : ByteArray} (h1 : ltS a b = false) (h2 : ltS b a = false) : a = b := by
  have := bl_tri _ _ h1 h2
  rw [ByteArray.toList_eq, ByteArray.toList_eq] at this
  exact Go.WideShapes.bytes_inj this
theorem lt_asym {a b : ByteArray} (h : ltS a b = true) : ltS b a = false := by
  cases h2 : ltS b a with
  | false => rfl
  | true =>
    have e1 : cmpS a b = -1 := if_pos h
    have e2 : cmpS b a = -1 := if_pos h2
    have := cmpS_neg a b
    omega
set_option maxRecDepth 100000 in
theorem rcmp_a (ak an : Int) (af : Nat) (a_s : ByteArray) (bk bn : Int) (bf : Nat) (b_s : ByteArray) (h : ak < bk) (w : World) : Calls Try.prog 148 #[vv ak an af a_s, vv bk bn bf b_s] w fun e w' => e = .returned (.int .i64 (-1)) ∧ Below w.heap.size w w' := by
  have hst := run_sf
  have s0 : decide (ak < bk) = true := by rw [decide_eq_true]; omega
  clear h
  go_enter Try.func148, Try.ntmps148
  go_wp2_with fail
  go_ret
  exact ⟨rfl, ((Below.refl w.heap.size w).alloc (Nat.le_refl _) _).alloc (by simp) _⟩
set_option maxRecDepth 100000 in
theorem rcmp_b (ak an : Int) (af : Nat) (a_s : ByteArray) (bk bn : Int) (bf : Nat) (b_s : ByteArray) (h : bk < ak) (w : World) : Calls Try.prog 148 #[vv ak an af a_s, vv bk bn bf b_s] w fun e w' => e = .returned (.int .i64 (1)) ∧ Below w.heap.size w w' := by
  have hst := run_sf
  have s0 : decide (ak < bk) = false := by rw [decide_eq_false]; omega
  have s1 : decide (bk < ak) = true := by rw [decide_eq_true]; omega
  clear h
  go_enter Try.func148, Try.ntmps148
  go_wp2_with fail
  go_ret
  exact ⟨rfl, ((Below.refl w.heap.size w).alloc (Nat.le_refl _) _).alloc (by simp) _⟩
set_option maxRecDepth 100000 in
theorem rcmp_c (ak an : Int) (af : Nat) (a_s : ByteArray) (bk bn : Int) (bf : Nat) (b_s : ByteArray) (h0 : ak = bk) (h : an < bn) (w : World) : Calls Try.prog 148 #[vv ak an af a_s, vv bk bn bf b_s] w fun e w' => e = .returned (.int .i64 (-1)) ∧ Below w.heap.size w w' := by
  have hst := run_sf
  have s0 : decide (ak < bk) = false := by rw [decide_eq_false]; omega
  have s1 : decide (bk < ak) = false := by rw [decide_eq_false]; omega
  have s2 : decide (an < bn) = true := by rw [decide_eq_true]; omega
  clear h
  go_enter Try.func148, Try.ntmps148
  go_wp2_with fail
  go_ret
  exact ⟨rfl, ((Below.refl w.heap.size w).alloc (Nat.le_refl _) _).alloc (by simp) _⟩
set_option maxRecDepth 100000 in
theorem rcmp_d (ak an : Int) (af : Nat) (a_s : ByteArray) (bk bn : Int) (bf : Nat) (b_s : ByteArray) (h0 : ak = bk) (h : bn < an) (w : World) : Calls Try.prog 148 #[vv ak an af a_s, vv bk bn bf b_s] w fun e w' => e = .returned (.int .i64 (1)) ∧ Below w.heap.size w w' := by
  have hst := run_sf
  have s0 : decide (ak < bk) = false := by rw [decide_eq_false]; omega
  have s1 : decide (bk < ak) = false := by rw [decide_eq_false]; omega
  have s2 : decide (an < bn) = false := by rw [decide_eq_false]; omega
  have s3 : decide (bn < an) = true := by rw [decide_eq_true]; omega
  clear h
  go_enter Try.func148, Try.ntmps148
  go_wp2_with fail
  go_ret
  exact ⟨rfl, ((Below.refl w.heap.size w).alloc (Nat.le_refl _) _).alloc (by simp) _⟩
set_option maxRecDepth 100000 in
theorem rcmp_e (ak an : Int) (af : Nat) (a_s : ByteArray) (bk bn : Int) (bf : Nat) (b_s : ByteArray) (h0 : ak = bk) (h1 : an = bn) (z : Int) (hz : cmpF af bf = z) (h : z ≠ 0) (w : World) : Calls Try.prog 148 #[vv ak an af a_s, vv bk bn bf b_s] w fun e w' => e = .returned (.int .i64 (z)) ∧ Below w.heap.size w w' := by
  have hst := run_sf
  have s0 : decide (ak < bk) = false := by rw [decide_eq_false]; omega
  have s1 : decide (bk < ak) = false := by rw [decide_eq_false]; omega
  have s2 : decide (an < bn) = false := by rw [decide_eq_false]; omega
  have s3 : decide (bn < an) = false := by rw [decide_eq_false]; omega
  have HF := Lib.hid (rcmp_any af bf)
  rw [hz] at HF
  have s5 : (z == 0) = false := by rw [beq_eq_false_iff_ne]; exact h
  have s6 : (z != 0) = true := by rw [bne, s5]; rfl
  clear hz
  clear h
  go_enter Try.func148, Try.ntmps148
  go_wp2_with fail
  refine (HF.out _).mono ?_
  rintro e w1 ⟨rfl, rfl⟩
  go_wp2_with fail
  go_ret
  exact ⟨rfl, ((Below.refl w.heap.size w).alloc (Nat.le_refl _) _).alloc (by simp) _⟩
set_option maxRecDepth 100000 in
theorem rcmp_f (ak an : Int) (af : Nat) (a_s : ByteArray) (bk bn : Int) (bf : Nat) (b_s : ByteArray) (h0 : ak = bk) (h1 : an = bn) (hz : cmpF af bf = 0) (h : ltS a_s b_s = true) (w : World) : Calls Try.prog 148 #[vv ak an af a_s, vv bk bn bf b_s] w fun e w' => e = .returned (.int .i64 (-1)) ∧ Below w.heap.size w w' := by
  have hst := run_sf
  have s0 : decide (ak < bk) = false := by rw [decide_eq_false]; omega
  have s1 : decide (bk < ak) = false := by rw [decide_eq_false]; omega
  have s2 : decide (an < bn) = false := by rw [decide_eq_false]; omega
  have s3 : decide (bn < an) = false := by rw [decide_eq_false]; omega
  have HF := Lib.hid (rcmp_any af bf)
  rw [hz] at HF
  clear hz
  have s7 : Op.bytesLess a_s.toList b_s.toList = true := h
  clear h
  go_enter Try.func148, Try.ntmps148
  go_wp2_with fail
  refine (HF.out _).mono ?_
  rintro e w1 ⟨rfl, rfl⟩
  go_wp2_with fail
  go_ret
  exact ⟨rfl, ((Below.refl w.heap.size w).alloc (Nat.le_refl _) _).alloc (by simp) _⟩
set_option maxRecDepth 100000 in
theorem rcmp_g (ak an : Int) (af : Nat) (a_s : ByteArray) (bk bn : Int) (bf : Nat) (b_s : ByteArray) (h0 : ak = bk) (h1 : an = bn) (hz : cmpF af bf = 0) (h2 : ltS a_s b_s = false) (h : ltS b_s a_s = true) (w : World) : Calls Try.prog 148 #[vv ak an af a_s, vv bk bn bf b_s] w fun e w' => e = .returned (.int .i64 (1)) ∧ Below w.heap.size w w' := by
  have hst := run_sf
  have s0 : decide (ak < bk) = false := by rw [decide_eq_false]; omega
  have s1 : decide (bk < ak) = false := by rw [decide_eq_false]; omega
  have s2 : decide (an < bn) = false := by rw [decide_eq_false]; omega
  have s3 : decide (bn < an) = false := by rw [decide_eq_false]; omega
  have HF := Lib.hid (rcmp_any af bf)
  rw [hz] at HF
  clear hz
  have s7 : Op.bytesLess a_s.toList b_s.toList = false := h2
  have s8 : (a_s.toList == b_s.toList) = false := by
    rw [beq_eq_false_iff_ne]
    intro e
    have h' : Op.bytesLess b_s.toList a_s.toList = true := h
    rw [e, bl_irr] at h'
    cases h'
  have s9 : (a_s.toList = b_s.toList) = False := by
    rw [beq_eq_false_iff_ne] at s8
    simp [s8]
  clear h2
  clear h
  go_enter Try.func148, Try.ntmps148
  go_wp2_with fail
  refine (HF.out _).mono ?_
  rintro e w1 ⟨rfl, rfl⟩
  go_wp2_with fail
  go_ret
  exact ⟨rfl, ((Below.refl w.heap.size w).alloc (Nat.le_refl _) _).alloc (by simp) _⟩
set_option maxRecDepth 100000 in
theorem rcmp_h (ak an : Int) (af : Nat) (a_s : ByteArray) (bk bn : Int) (bf : Nat) (b_s : ByteArray) (h0 : ak = bk) (h1 : an = bn) (hz : cmpF af bf = 0) (h : a_s = b_s) (w : World) : Calls Try.prog 148 #[vv ak an af a_s, vv bk bn bf b_s] w fun e w' => e = .returned (.int .i64 (0)) ∧ Below w.heap.size w w' := by
  have hst := run_sf
  have s0 : decide (ak < bk) = false := by rw [decide_eq_false]; omega
  have s1 : decide (bk < ak) = false := by rw [decide_eq_false]; omega
  have s2 : decide (an < bn) = false := by rw [decide_eq_false]; omega
  have s3 : decide (bn < an) = false := by rw [decide_eq_false]; omega
  have HF := Lib.hid (rcmp_any af bf)
  rw [hz] at HF
  clear hz
  subst h
  have h : True := trivial
  have s7 : Op.bytesLess a_s.toList a_s.toList = false := bl_irr _
  clear h
  go_enter Try.func148, Try.ntmps148
  go_wp2_with fail
  refine (HF.out _).mono ?_
  rintro e w1 ⟨rfl, rfl⟩
  go_wp2_with fail
  go_ret
  exact ⟨rfl, ((Below.refl w.heap.size w).alloc (Nat.le_refl _) _).alloc (by simp) _⟩
theorem rcmpv_any (a b : Val) (w : World) : Calls Try.prog 148 #[a.v, b.v] w fun e w' => e = .returned (.int .i64 (cmpV a b)) ∧ Below w.heap.size w w' := by
  obtain ⟨ak, an, af, a_s⟩ := a
  obtain ⟨bk, bn, bf, b_s⟩ := b
  unfold cmpV orL
  simp only
  by_cases h1 : ak < bk
  · have e : cmpI ak bk = -1 := if_pos h1
    rw [e, if_neg (by decide)]
    exact rcmp_a _ _ _ _ _ _ _ _ h1 w
  by_cases h2 : bk < ak
  · have e : cmpI ak bk = 1 := by unfold cmpI; rw [if_neg h1, if_pos h2]
    rw [e, if_neg (by decide)]
    exact rcmp_b _ _ _ _ _ _ _ _ h2 w
  have hk : ak = bk := by omega
  have e : cmpI ak bk = 0 := by unfold cmpI; rw [if_neg h1, if_neg h2]
  rw [e, if_pos rfl]
  unfold orL
  by_cases h3 : an < bn
  · have e : cmpI an bn = -1 := if_pos h3
    rw [e, if_neg (by decide)]
    exact rcmp_c _ _ _ _ _ _ _ _ hk h3 w
  by_cases h4 : bn < an
  · have e : cmpI an bn = 1 := by unfold cmpI; rw [if_neg h3, if_pos h4]
    rw [e, if_neg (by decide)]
    exact rcmp_d _ _ _ _ _ _ _ _ hk h4 w
  have hn : an = bn := by omega
  have e : cmpI an bn = 0 := by unfold cmpI; rw [if_neg h3, if_neg h4]
  rw [e, if_pos rfl]
  unfold orL
  by_cases h5 : cmpF af bf = 0
  rotate_left
  · rw [if_neg h5]
    exact rcmp_e _ _ _ _ _ _ _ _ hk hn _ rfl h5 w
  rw [if_pos h5]
  unfold orL
  cases h6 : ltS a_s b_s with
  | true =>
    have e : cmpS a_s b_s = -1 := if_pos h6
    rw [e, if_neg (by decide)]
    exact rcmp_f _ _ _ _ _ _ _ _ hk hn h5 h6 w
  | false =>
    cases h7 : ltS b_s a_s with
    | true =>
      have e : cmpS a_s b_s = 1 := by unfold cmpS; rw [h6, h7]; rfl
      rw [e, if_neg (by decide)]
      exact rcmp_g _ _ _ _ _ _ _ _ hk hn h5 h6 h7 w
    | false =>
      have e : cmpS a_s b_s = 0 := by unfold cmpS; rw [h6, h7]; rfl
      rw [e, if_pos rfl]
      exact rcmp_h _ _ _ _ _ _ _ _ hk hn h5 (lt_tri h6 h7) w
set_option maxRecDepth 100000 in
set_option maxHeartbeats 1000000 in
theorem ahead_any (A B : Option Addr) (c d : Nat) (x y : List Val) (w : World) (ha : RdV w A x) (hb : RdV w B y) (hx : x.length ≤ 1000) (hy : y.length ≤ 1000) : Calls Try.prog 141 #[.slice A x.length c, .slice B y.length d] w fun e w' => e = .returned (.bool (aheadV x y)) ∧ Below w.heap.size w w' := by
  have hst := run_sf
  have HA := Lib.hid ha
  have HB := Lib.hid hb
  have HS := Lib.hid rcmpv_any
  clear ha hb
  go_enter Try.func141, Try.ntmps141
  go_wp2_with fail
  go_loopw [5] (fun i wr => ∃ k : Nat, k ≤ x.length ∧ k ≤ y.length ∧ i = .int .i64 k ∧ aheadV x y = aheadV (x.drop k) (y.drop k) ∧ Below w.heap.size w wr) (fun i _ => x.length - (intOf i).toNat)
  case atStart => exact ⟨0, by omega, by omega, rfl, rfl, Below.refl _ _⟩
  case round =>
    obtain ⟨k, hk, hk2, rfl, hsr, hbr⟩ := hrel
    by_cases hlt : k < x.length
    · have t1 : decide ((k : Int) < (x.length : Int)) = true := by rw [decide_eq_true]; omega
      have t2 : decide (k < x.length) = true := by rw [decide_eq_true]; omega
      by_cases hlt2 : k < y.length
      · have t3 : decide ((k : Int) < (y.length : Int)) = true := by rw [decide_eq_true]; omega
        have t4 : decide (k < y.length) = true := by rw [decide_eq_true]; omega
        obtain ⟨ad, rfl, q0, q1, q2, q3⟩ := RdV.at (HA.out.keep hbr (Nat.le_refl _)) k hlt
        obtain ⟨bd, rfl, r0, r1, r2, r3⟩ := RdV.at (HB.out.keep hbr (Nat.le_refl _)) k hlt2
        have hd := ahead_drop x y k hlt hlt2
        rw [← hsr] at hd
        have hw1 : IntKind.i64.wrap ((k : Int) + 1) = (k : Int) + 1 := by rw [IntKind.wrap_i64]; omega
        have hcall := HS.out x[k] y[k]
        generalize x[k] = u at *
        generalize y[k] = v at *
        have HC := Lib.hid hcall
        by_cases hc : cmpV u v = 0
        · rw [hc] at HC
          rw [if_pos hc] at hd
          have HD := Lib.hid hd
          clear hcall hd hsr hc
          go_wp2_with fail
          refine wp_region_held_drew (S := (fun w' => Below wr.heap.size wr w' ∧ w'.cell? (ad.add (k * 4)) = some (.int .i64 u.kind) ∧ w'.cell? ⟨(ad.add (k * 4)).block, (ad.add (k * 4)).off + 1, none⟩ = some (.int .i64 u.n) ∧ w'.cell? ⟨(ad.add (k * 4)).block, (ad.add (k * 4)).off + 2, none⟩ = some (.float .f64 u.f) ∧ w'.cell? ⟨(ad.add (k * 4)).block, (ad.add (k * 4)).off + 3, none⟩ = some (.string u.s) ∧ w'.cell? (bd.add (k * 4)) = some (.int .i64 v.kind) ∧ w'.cell? ⟨(bd.add (k * 4)).block, (bd.add (k * 4)).off + 1, none⟩ = some (.int .i64 v.n) ∧ w'.cell? ⟨(bd.add (k * 4)).block, (bd.add (k * 4)).off + 2, none⟩ = some (.float .f64 v.f) ∧ w'.cell? ⟨(bd.add (k * 4)).block, (bd.add (k * 4)).off + 3, none⟩ = some (.string v.s))) (by kernel_rfl) (⟨(Below.refl _ _).drew, q0, q1, q2, q3, r0, r1, r2, r3⟩) (fun hHeld => ?_)
          (refine wpAnyH_take (i := 0) (oi := { dst := some 19, op := Go.Op.move (Go.Operand.tmp 0), type := 39, pos := _, after := _, guard := none }) (v := ?_) rfl (by kernel_rfl) (by kernel_rfl) (by kernel_rfl) (fun _ _ _ h => h) (Or.inl ⟨by rfl, ?_⟩) (by assumption) ?_; rotate_left; (intro w hSw; (try dsimp only at hSw); go_simp; try with_reducible rfl); try simp only [Act.put, List.setIfInBounds_toArray, List.set_cons_zero, List.set_cons_succ])
          (refine wpAnyH_take (i := 1) (oi := { dst := some 20, op := Go.Op.move (Go.Operand.tmp 5), type := 3, pos := _, after := _, guard := none }) (v := ?_) rfl (by kernel_rfl) (by kernel_rfl) (by kernel_rfl) (fun _ _ _ h => h) (Or.inl ⟨by rfl, ?_⟩) (by assumption) ?_; rotate_left; (intro w hSw; (try dsimp only at hSw); go_simp; try with_reducible rfl); try simp only [Act.put, List.setIfInBounds_toArray, List.set_cons_zero, List.set_cons_succ])
          (refine wpAnyH_take (i := 2) (oi := { dst := some 21, op := Go.Op.indexAddr 39 (Go.Operand.tmp 19) (Go.Operand.tmp 20), type := 0, pos := _, after := _, guard := none }) (v := ?_) rfl (by kernel_rfl) (by kernel_rfl) (by kernel_rfl) (fun _ _ _ h => h) (Or.inl ⟨by rfl, ?_⟩) (by assumption) ?_; rotate_left; (intro w hSw; (try dsimp only at hSw); go_simp; try with_reducible rfl); try simp only [Act.put, List.setIfInBounds_toArray, List.set_cons_zero, List.set_cons_succ])
          (refine wpAnyH_take (i := 3) (oi := { dst := some 22, op := Go.Op.load 24 (Go.Operand.tmp 21), type := 24, pos := _, after := _, guard := none }) (v := ?_) rfl (by kernel_rfl) (by kernel_rfl) (by kernel_rfl) (fun _ _ _ h => h) (Or.inl ⟨by rfl, ?_⟩) (by assumption) ?_; rotate_left; (intro w hSw; (try dsimp only at hSw); go_simp; try with_reducible rfl); try simp only [Act.put, List.setIfInBounds_toArray, List.set_cons_zero, List.set_cons_succ])
          (refine wpAnyH_take (i := 4) (oi := { dst := some 23, op := Go.Op.move (Go.Operand.tmp 1), type := 39, pos := _, after := _, guard := none }) (v := ?_) rfl (by kernel_rfl) (by kernel_rfl) (by kernel_rfl) (fun _ _ _ h => h) (Or.inl ⟨by rfl, ?_⟩) (by assumption) ?_; rotate_left; (intro w hSw; (try dsimp only at hSw); go_simp; try with_reducible rfl); try simp only [Act.put, List.setIfInBounds_toArray, List.set_cons_zero, List.set_cons_succ])
          (refine wpAnyH_take (i := 5) (oi := { dst := some 24, op := Go.Op.move (Go.Operand.tmp 5), type := 3, pos := _, after := _, guard := none }) (v := ?_) rfl (by kernel_rfl) (by kernel_rfl) (by kernel_rfl) (fun _ _ _ h => h) (Or.inl ⟨by rfl, ?_⟩) (by assumption) ?_; rotate_left; (intro w hSw; (try dsimp only at hSw); go_simp; try with_reducible rfl); try simp only [Act.put, List.setIfInBounds_toArray, List.set_cons_zero, List.set_cons_succ])
          (refine wpAnyH_take (i := 6) (oi := { dst := some 25, op := Go.Op.indexAddr 39 (Go.Operand.tmp 23) (Go.Operand.tmp 24), type := 0, pos := _, after := _, guard := none }) (v := ?_) rfl (by kernel_rfl) (by kernel_rfl) (by kernel_rfl) (fun _ _ _ h => h) (Or.inl ⟨by rfl, ?_⟩) (by assumption) ?_; rotate_left; (intro w hSw; (try dsimp only at hSw); go_simp; try with_reducible rfl); try simp only [Act.put, List.setIfInBounds_toArray, List.set_cons_zero, List.set_cons_succ])
          (refine wpAnyH_take (i := 7) (oi := { dst := some 26, op := Go.Op.load 24 (Go.Operand.tmp 25), type := 24, pos := _, after := _, guard := none }) (v := ?_) rfl (by kernel_rfl) (by kernel_rfl) (by kernel_rfl) (fun _ _ _ h => h) (Or.inl ⟨by rfl, ?_⟩) (by assumption) ?_; rotate_left; (intro w hSw; (try dsimp only at hSw); go_simp; try with_reducible rfl); try simp only [Act.put, List.setIfInBounds_toArray, List.set_cons_zero, List.set_cons_succ])
          refine wpAnyH_ready (rs := [8]) (by kernel_rfl) (by simp) ?_
          refine AllReadyH.cons (o := { dst := some 27, op := Go.Op.call { callee := Go.Callee.value (Go.Operand.func 148), args := #[Go.Operand.tmp 22, Go.Operand.tmp 26], argTypes := #[24, 24] }, type := 3, pos := _, after := _, guard := none }) rfl (fun K hK => ?_) AllReadyH.nil
          go_simp
          refine (HC.out _).mono ?_
          rintro e w5 ⟨rfl, b5⟩
          go_wp2_with fail
          refine hK.out _ _ ?_ (fun hHeld2 => ?_)
          · (go_split_ands; exact ⟨Below.trans (by assumption) (b5.mono (Below.size (by assumption))), kc b5 (by assumption), kc b5 (by assumption), kc b5 (by assumption), kc b5 (by assumption), kc b5 (by assumption), kc b5 (by assumption), kc b5 (by assumption), kc b5 (by assumption)⟩)
          clear hK K hHeld
          have hHeld := hHeld2
          clear hHeld2
          try simp only [Act.put, List.setIfInBounds_toArray, List.set_cons_zero, List.set_cons_succ]
          (refine wpAnyH_take (i := 9) (oi := { dst := some 6, op := Go.Op.assign (Go.Operand.tmp 27), type := 3, pos := _, after := _, guard := none }) (v := ?_) rfl (by kernel_rfl) (by kernel_rfl) (by kernel_rfl) (fun _ _ _ h => h) (Or.inl ⟨by rfl, ?_⟩) (by assumption) ?_; rotate_left; (intro w hSw; (try dsimp only at hSw); go_simp; try with_reducible rfl); try simp only [Act.put, List.setIfInBounds_toArray, List.set_cons_zero, List.set_cons_succ])
          refine wpAnyH_done (by kernel_rfl) ?_ _
          have hb2 := hbr.trans ((And.left hHeld).mono hbr.size)
          go_wp2_with fail
          exact ⟨⟨k + 1, by omega, by omega, by go_num, HD.out, hb2⟩, by simp [intOf]; omega⟩
        · rw [if_neg hc] at hd
          have s5 : (cmpV u v == 0) = false := by rw [beq_eq_false_iff_ne]; exact hc
          have s6 : (cmpV u v != 0) = true := by rw [bne, s5]; rfl
          have HD := Lib.hid hd
          clear hcall hd hsr hc
          generalize cmpV u v = z at *
          go_wp2_with fail
          refine wp_region_held_drew (S := (fun w' => Below wr.heap.size wr w' ∧ w'.cell? (ad.add (k * 4)) = some (.int .i64 u.kind) ∧ w'.cell? ⟨(ad.add (k * 4)).block, (ad.add (k * 4)).off + 1, none⟩ = some (.int .i64 u.n) ∧ w'.cell? ⟨(ad.add (k * 4)).block, (ad.add (k * 4)).off + 2, none⟩ = some (.float .f64 u.f) ∧ w'.cell? ⟨(ad.add (k * 4)).block, (ad.add (k * 4)).off + 3, none⟩ = some (.string u.s) ∧ w'.cell? (bd.add (k * 4)) = some (.int .i64 v.kind) ∧ w'.cell? ⟨(bd.add (k * 4)).block, (bd.add (k * 4)).off + 1, none⟩ = some (.int .i64 v.n) ∧ w'.cell? ⟨(bd.add (k * 4)).block, (bd.add (k * 4)).off + 2, none⟩ = some (.float .f64 v.f) ∧ w'.cell? ⟨(bd.add (k * 4)).block, (bd.add (k * 4)).off + 3, none⟩ = some (.string v.s))) (by kernel_rfl) (⟨(Below.refl _ _).drew, q0, q1, q2, q3, r0, r1, r2, r3⟩) (fun hHeld => ?_)
          (refine wpAnyH_take (i := 0) (oi := { dst := some 19, op := Go.Op.move (Go.Operand.tmp 0), type := 39, pos := _, after := _, guard := none }) (v := ?_) rfl (by kernel_rfl) (by kernel_rfl) (by kernel_rfl) (fun _ _ _ h => h) (Or.inl ⟨by rfl, ?_⟩) (by assumption) ?_; rotate_left; (intro w hSw; (try dsimp only at hSw); go_simp; try with_reducible rfl); try simp only [Act.put, List.setIfInBounds_toArray, List.set_cons_zero, List.set_cons_succ])
          (refine wpAnyH_take (i := 1) (oi := { dst := some 20, op := Go.Op.move (Go.Operand.tmp 5), type := 3, pos := _, after := _, guard := none }) (v := ?_) rfl (by kernel_rfl) (by kernel_rfl) (by kernel_rfl) (fun _ _ _ h => h) (Or.inl ⟨by rfl, ?_⟩) (by assumption) ?_; rotate_left; (intro w hSw; (try dsimp only at hSw); go_simp; try with_reducible rfl); try simp only [Act.put, List.setIfInBounds_toArray, List.set_cons_zero, List.set_cons_succ])
          (refine wpAnyH_take (i := 2) (oi := { dst := some 21, op := Go.Op.indexAddr 39 (Go.Operand.tmp 19) (Go.Operand.tmp 20), type := 0, pos := _, after := _, guard := none }) (v := ?_) rfl (by kernel_rfl) (by kernel_rfl) (by kernel_rfl) (fun _ _ _ h => h) (Or.inl ⟨by rfl, ?_⟩) (by assumption) ?_; rotate_left; (intro w hSw; (try dsimp only at hSw); go_simp; try with_reducible rfl); try simp only [Act.put, List.setIfInBounds_toArray, List.set_cons_zero, List.set_cons_succ])
          (refine wpAnyH_take (i := 3) (oi := { dst := some 22, op := Go.Op.load 24 (Go.Operand.tmp 21), type := 24, pos := _, after := _, guard := none }) (v := ?_) rfl (by kernel_rfl) (by kernel_rfl) (by kernel_rfl) (fun _ _ _ h => h) (Or.inl ⟨by rfl, ?_⟩) (by assumption) ?_; rotate_left; (intro w hSw; (try dsimp only at hSw); go_simp; try with_reducible rfl); try simp only [Act.put, List.setIfInBounds_toArray, List.set_cons_zero, List.set_cons_succ])
          (refine wpAnyH_take (i := 4) (oi := { dst := some 23, op := Go.Op.move (Go.Operand.tmp 1), type := 39, pos := _, after := _, guard := none }) (v := ?_) rfl (by kernel_rfl) (by kernel_rfl) (by kernel_rfl) (fun _ _ _ h => h) (Or.inl ⟨by rfl, ?_⟩) (by assumption) ?_; rotate_left; (intro w hSw; (try dsimp only at hSw); go_simp; try with_reducible rfl); try simp only [Act.put, List.setIfInBounds_toArray, List.set_cons_zero, List.set_cons_succ])
          (refine wpAnyH_take (i := 5) (oi := { dst := some 24, op := Go.Op.move (Go.Operand.tmp 5), type := 3, pos := _, after := _, guard := none }) (v := ?_) rfl (by kernel_rfl) (by kernel_rfl) (by kernel_rfl) (fun _ _ _ h => h) (Or.inl ⟨by rfl, ?_⟩) (by assumption) ?_; rotate_left; (intro w hSw; (try dsimp only at hSw); go_simp; try with_reducible rfl); try simp only [Act.put, List.setIfInBounds_toArray, List.set_cons_zero, List.set_cons_succ])
          (refine wpAnyH_take (i := 6) (oi := { dst := some 25, op := Go.Op.indexAddr 39 (Go.Operand.tmp 23) (Go.Operand.tmp 24), type := 0, pos := _, after := _, guard := none }) (v := ?_) rfl (by kernel_rfl) (by kernel_rfl) (by kernel_rfl) (fun _ _ _ h => h) (Or.inl ⟨by rfl, ?_⟩) (by assumption) ?_; rotate_left; (intro w hSw; (try dsimp only at hSw); go_simp; try with_reducible rfl); try simp only [Act.put, List.setIfInBounds_toArray, List.set_cons_zero, List.set_cons_succ])
          (refine wpAnyH_take (i := 7) (oi := { dst := some 26, op := Go.Op.load 24 (Go.Operand.tmp 25), type := 24, pos := _, after := _, guard := none }) (v := ?_) rfl (by kernel_rfl) (by kernel_rfl) (by kernel_rfl) (fun _ _ _ h => h) (Or.inl ⟨by rfl, ?_⟩) (by assumption) ?_; rotate_left; (intro w hSw; (try dsimp only at hSw); go_simp; try with_reducible rfl); try simp only [Act.put, List.setIfInBounds_toArray, List.set_cons_zero, List.set_cons_succ])
          refine wpAnyH_ready (rs := [8]) (by kernel_rfl) (by simp) ?_
          refine AllReadyH.cons (o := { dst := some 27, op := Go.Op.call { callee := Go.Callee.value (Go.Operand.func 148), args := #[Go.Operand.tmp 22, Go.Operand.tmp 26], argTypes := #[24, 24] }, type := 3, pos := _, after := _, guard := none }) rfl (fun K hK => ?_) AllReadyH.nil
          go_simp
          refine (HC.out _).mono ?_
          rintro e w5 ⟨rfl, b5⟩
          go_wp2_with fail
          refine hK.out _ _ ?_ (fun hHeld2 => ?_)
          · (go_split_ands; exact ⟨Below.trans (by assumption) (b5.mono (Below.size (by assumption))), kc b5 (by assumption), kc b5 (by assumption), kc b5 (by assumption), kc b5 (by assumption), kc b5 (by assumption), kc b5 (by assumption), kc b5 (by assumption), kc b5 (by assumption)⟩)
          clear hK K hHeld
          have hHeld := hHeld2
          clear hHeld2
          try simp only [Act.put, List.setIfInBounds_toArray, List.set_cons_zero, List.set_cons_succ]
          (refine wpAnyH_take (i := 9) (oi := { dst := some 6, op := Go.Op.assign (Go.Operand.tmp 27), type := 3, pos := _, after := _, guard := none }) (v := ?_) rfl (by kernel_rfl) (by kernel_rfl) (by kernel_rfl) (fun _ _ _ h => h) (Or.inl ⟨by rfl, ?_⟩) (by assumption) ?_; rotate_left; (intro w hSw; (try dsimp only at hSw); go_simp; try with_reducible rfl); try simp only [Act.put, List.setIfInBounds_toArray, List.set_cons_zero, List.set_cons_succ])
          refine wpAnyH_done (by kernel_rfl) ?_ _
          have hb2 := hbr.trans ((And.left hHeld).mono hbr.size)
          go_wp2_with fail
          go_ret
          exact ⟨by rw [HD.out]; rfl, hb2⟩
      · have t3 : decide ((k : Int) < (y.length : Int)) = false := by rw [decide_eq_false]; omega
        have t4 : decide (k < y.length) = false := by rw [decide_eq_false]; omega
        have hd := hsr.trans (ahead_end x y k (fun h => hlt2 h.2) hk hk2)
        have t5 : decide ((x.length : Int) < (y.length : Int)) = decide (x.length < y.length) := by simp
        have HD := Lib.hid hd
        clear hd hsr
        go_wp2_with fail
        go_ret
        exact ⟨by rw [HD.out]; first | rfl | simp, hbr⟩
    · have t1 : decide ((k : Int) < (x.length : Int)) = false := by rw [decide_eq_false]; omega
      have t2 : decide (k < x.length) = false := by rw [decide_eq_false]; omega
      have hd := hsr.trans (ahead_end x y k (fun h => hlt h.1) hk hk2)
      have t5 : decide ((x.length : Int) < (y.length : Int)) = decide (x.length < y.length) := by simp
      have HD := Lib.hid hd
      clear hd hsr
      go_wp2_with fail
      go_ret
      exact ⟨by rw [HD.out]; first | rfl | simp, hbr⟩
set_option maxRecDepth 100000 in
theorem rsame_row (A B : Option Addr) (c d : Nat) (x y : List Val) (w : World) (ha : RdV w A x) (hb : RdV w B y) (hx : x.length ≤ 1000) (hy : y.length ≤ 1000) : Calls Try.prog 127 #[.slice A x.length c, .slice B y.length d] w fun e w' => e = .returned (.bool (sameRow x y)) ∧ Below w.heap.size w w' := by
  rw [← same_ahead]
  have HC := Lib.hid (ahead_any A B c d x y w ha hb hx hy)
  cases h1 : aheadV x y with
  | true =>
    rw [h1] at HC
    clear ha hb h1
    go_enter Try.func127, Try.ntmps127
    go_wp2_with fail
    refine HC.out.mono ?_
    rintro e w1 ⟨rfl, b1⟩
    go_wp2_with fail
    go_ret
    exact ⟨rfl, b1⟩
  | false =>
    rw [h1] at HC
    have HD := Lib.hid (fun w' (h : Below w.heap.size w w') => ahead_any B A d c y x w' (hb.keep h (Nat.le_refl _)) (ha.keep h (Nat.le_refl _)) hy hx)
    generalize aheadV y x = g at *
    clear ha hb h1
    go_enter Try.func127, Try.ntmps127
    go_wp2_with fail
    refine HC.out.mono ?_
    rintro e w1 ⟨rfl, b1⟩
    go_wp2_with fail
    refine (HD.out _ b1).mono ?_
    rintro e w2 ⟨rfl, b2⟩
    go_wp2_with fail
    go_ret
    exact ⟨rfl, b1.trans (b2.mono b1.size)⟩
set_option maxRecDepth 100000 in
theorem rsame_c (c n : Int) (A : Option Addr) (q : Nat) (x : List (List Val)) (c' n' : Int) (B : Option Addr) (p : Nat) (y : List (List Val)) (w : World) (h : c ≠ c') : Calls Try.prog 87 #[rv c n A x.length q, rv c' n' B y.length p] w fun e w' => e = .returned (.bool false) ∧ Below w.heap.size w w' := by
  have t1 : (c == c') = false := by rw [beq_eq_false_iff_ne]; exact h
  have t2 : (c != c') = true := by rw [bne, t1]; rfl
  clear h
  go_enter Try.func87, Try.ntmps87
  go_wp2_with fail
  go_ret
  exact ⟨rfl, ((Below.refl w.heap.size w).alloc (Nat.le_refl _) _).alloc (by simp) _⟩
set_option maxRecDepth 100000 in
theorem rsame_n (c n : Int) (A : Option Addr) (q : Nat) (x : List (List Val)) (c' n' : Int) (B : Option Addr) (p : Nat) (y : List (List Val)) (w : World) (h0 : c = c') (h : n ≠ n') : Calls Try.prog 87 #[rv c n A x.length q, rv c' n' B y.length p] w fun e w' => e = .returned (.bool false) ∧ Below w.heap.size w w' := by
  subst h0
  have t0 : (c == c) = true := beq_self_eq_true c
  have t1 : (n == n') = false := by rw [beq_eq_false_iff_ne]; exact h
  have t2 : (n != n') = true := by rw [bne, t1]; rfl
  clear h
  go_enter Try.func87, Try.ntmps87
  go_wp2_with fail
  go_ret
  exact ⟨rfl, ((Below.refl w.heap.size w).alloc (Nat.le_refl _) _).alloc (by simp) _⟩
set_option maxRecDepth 100000 in
theorem rsame_l (c n : Int) (A : Option Addr) (q : Nat) (x : List (List Val)) (B : Option Addr) (p : Nat) (y : List (List Val)) (w : World) (h : x.length ≠ y.length) : Calls Try.prog 87 #[rv c n A x.length q, rv c n B y.length p] w fun e w' => e = .returned (.bool false) ∧ Below w.heap.size w w' := by
  have t0 : (c == c) = true := beq_self_eq_true c
  have t9 : (n == n) = true := beq_self_eq_true n
  have t1 : ((x.length : Int) == (y.length : Int)) = false := by rw [beq_eq_false_iff_ne]; omega
  have t2 : ((x.length : Int) != (y.length : Int)) = true := by rw [bne, t1]; rfl
  have t3 : (x.length == y.length) = false := by rw [beq_eq_false_iff_ne]; omega
  clear h
  go_enter Try.func87, Try.ntmps87
  go_wp2_with fail
  go_ret
  exact ⟨rfl, ((Below.refl w.heap.size w).alloc (Nat.le_refl _) _).alloc (by simp) _⟩
set_option maxRecDepth 100000 in
set_option maxHeartbeats 1000000 in
theorem rsame_in (c n : Int) (A B : Option Addr) (q p : Nat) (x y : List (List Val)) (w : World) (ha : RdRows w A x) (hb : RdRows w B y) (hlen : x.length = y.length) (hx : x.length ≤ 1000) (hlx : ∀ l ∈ x, l.length ≤ 1000) (hly : ∀ l ∈ y, l.length ≤ 1000) : Calls Try.prog 87 #[rv c n A x.length q, rv c n B y.length p] w fun e w' => e = .returned (.bool (sameRows x y)) ∧ Below w.heap.size w w' := by
  have t0 : (c == c) = true := beq_self_eq_true c
  have t9 : (n == n) = true := beq_self_eq_true n
  have t1 : ((x.length : Int) == (y.length : Int)) = true := by rw [beq_iff_eq]; omega
  have t2 : ((x.length : Int) != (y.length : Int)) = false := by rw [bne, t1]; rfl
  have t3 : (x.length == y.length) = true := by rw [beq_iff_eq]; omega
  have Hl := Lib.hid hlen
  obtain ⟨w0, hw0⟩ : ∃ w0 : World, w0 = (w.alloc (.cells (a3 c n A x.length q) 96)).alloc (.cells (a3 c n B y.length p) 96) := ⟨_, rfl⟩
  have k0 : Below w.heap.size w w0 := by rw [hw0]; exact ((Below.refl w.heap.size w).alloc (Nat.le_refl _) _).alloc (by simp) _
  have B0 : Hid (B3 w0 w.heap.size c n A x.length q) := Lib.hid (by rw [hw0]; exact (B3.new w c n A x.length q 96).alloc _)
  have R0 : Hid (B3 w0 (w.heap.size + 1) c n B y.length p) := Lib.hid (by
    rw [hw0]
    have := B3.new (w.alloc (.cells (a3 c n A x.length q) 96)) c n B y.length p 96
    have e : (w.alloc (.cells (a3 c n A x.length q) 96)).heap.size = w.heap.size + 1 := by simp
    rw [e] at this
    exact this)
  have HA := Lib.hid (ha.keep k0)
  have HB := Lib.hid (hb.keep k0)
  have HX := Lib.hid hlx
  have HY := Lib.hid hly
  have HR := Lib.hid hw0
  clear ha hb hlx hly hlen hw0
  go_enter Try.func87, Try.ntmps87
  go_wp2_with fail
  rw [← HR.out]
  clear HR
  go_loopw [5] (fun i wr => ∃ k : Nat, k ≤ x.length ∧ i = .int .i64 k ∧ sameRows x y = sameRows (x.drop k) (y.drop k) ∧ Below w0.heap.size w0 wr) (fun i _ => x.length - (intOf i).toNat)
  case atStart => exact ⟨0, by omega, rfl, rfl, Below.refl _ _⟩
  case round =>
    obtain ⟨k, hk, rfl, hsr, hbr⟩ := hrel
    obtain ⟨⟨d0, _⟩, ⟨d1, _⟩, ⟨d2, _⟩⟩ := (B0.out.keep hbr).cells
    obtain ⟨⟨f0, _⟩, ⟨f1, _⟩, ⟨f2, _⟩⟩ := (R0.out.keep hbr).cells
    by_cases hlt : k < x.length
    · have hlt2 : k < y.length := by have := Hl.out; omega
      obtain ⟨ad, s, rfl, q0, hr, _⟩ := (HA.out.keep hbr) k hlt
      obtain ⟨bd, u, rfl, r0, hr2, _⟩ := (HB.out.keep hbr) k hlt2
      have hd := sameRows_drop x y k hlt hlt2
      rw [← hsr] at hd
      have hw1 : IntKind.i64.wrap ((k : Int) + 1) = (k : Int) + 1 := by rw [IntKind.wrap_i64]; omega
      have hl1 := HX.out _ (List.getElem_mem hlt)
      have hl2 := HY.out _ (List.getElem_mem hlt2)
      generalize x[k] = f at *
      generalize y[k] = g at *
      have HC := Lib.hid (fun w' (h : Below wr.heap.size wr w') => rsame_row s.A u.A s.c u.c f g w' (hr.keep h (Nat.le_refl _)) (hr2.keep h (Nat.le_refl _)) hl1 hl2)
      cases hc : sameRow f g with
      | true =>
        rw [hc] at HC hd
        rw [Bool.true_and] at hd
        have HD := Lib.hid hd
        clear hd hsr hc hr hr2 hl1 hl2
        go_wp2_with fail
        refine wp_region_held_drew (S := (fun w' => Below wr.heap.size wr w' ∧ w'.cell? ⟨w.heap.size, 2, none⟩ = some (.slice (some ad) x.length q) ∧ w'.cell? ⟨w.heap.size + 1, 2, none⟩ = some (.slice (some bd) y.length p) ∧ w'.cell? (ad.add k) = some (.slice s.A f.length s.c) ∧ w'.cell? (bd.add k) = some (.slice u.A g.length u.c))) (by kernel_rfl) (⟨(Below.refl _ _).drew, d2, f2, q0, r0⟩) (fun hHeld => ?_)
        (refine wpAnyH_take (i := 0) (oi := { dst := some 34, op := Go.Op.fieldAddr 96 (Go.Operand.tmp 2) 2, type := 0, pos := _, after := _, guard := none }) (v := ?_) rfl (by kernel_rfl) (by kernel_rfl) (by kernel_rfl) (fun _ _ _ h => h) (Or.inl ⟨by rfl, ?_⟩) (by assumption) ?_; rotate_left; (intro w hSw; (try dsimp only at hSw); go_simp; try with_reducible rfl); try simp only [Act.put, List.setIfInBounds_toArray, List.set_cons_zero, List.set_cons_succ])
        (refine wpAnyH_take (i := 1) (oi := { dst := some 35, op := Go.Op.load 94 (Go.Operand.tmp 34), type := 94, pos := _, after := _, guard := none }) (v := ?_) rfl (by kernel_rfl) (by kernel_rfl) (by kernel_rfl) (fun _ _ _ h => h) (Or.inl ⟨by rfl, ?_⟩) (by assumption) ?_; rotate_left; (intro w hSw; (try dsimp only at hSw); go_simp; try with_reducible rfl); try simp only [Act.put, List.setIfInBounds_toArray, List.set_cons_zero, List.set_cons_succ])
        (refine wpAnyH_take (i := 2) (oi := { dst := some 36, op := Go.Op.move (Go.Operand.tmp 5), type := 3, pos := _, after := _, guard := none }) (v := ?_) rfl (by kernel_rfl) (by kernel_rfl) (by kernel_rfl) (fun _ _ _ h => h) (Or.inl ⟨by rfl, ?_⟩) (by assumption) ?_; rotate_left; (intro w hSw; (try dsimp only at hSw); go_simp; try with_reducible rfl); try simp only [Act.put, List.setIfInBounds_toArray, List.set_cons_zero, List.set_cons_succ])
        (refine wpAnyH_take (i := 3) (oi := { dst := some 37, op := Go.Op.indexAddr 94 (Go.Operand.tmp 35) (Go.Operand.tmp 36), type := 0, pos := _, after := _, guard := none }) (v := ?_) rfl (by kernel_rfl) (by kernel_rfl) (by kernel_rfl) (fun _ _ _ h => h) (Or.inl ⟨by rfl, ?_⟩) (by assumption) ?_; rotate_left; (intro w hSw; (try dsimp only at hSw); go_simp; try with_reducible rfl); try simp only [Act.put, List.setIfInBounds_toArray, List.set_cons_zero, List.set_cons_succ])
        (refine wpAnyH_take (i := 4) (oi := { dst := some 38, op := Go.Op.load 39 (Go.Operand.tmp 37), type := 39, pos := _, after := _, guard := none }) (v := ?_) rfl (by kernel_rfl) (by kernel_rfl) (by kernel_rfl) (fun _ _ _ h => h) (Or.inl ⟨by rfl, ?_⟩) (by assumption) ?_; rotate_left; (intro w hSw; (try dsimp only at hSw); go_simp; try with_reducible rfl); try simp only [Act.put, List.setIfInBounds_toArray, List.set_cons_zero, List.set_cons_succ])
        (refine wpAnyH_take (i := 5) (oi := { dst := some 39, op := Go.Op.fieldAddr 96 (Go.Operand.tmp 3) 2, type := 0, pos := _, after := _, guard := none }) (v := ?_) rfl (by kernel_rfl) (by kernel_rfl) (by kernel_rfl) (fun _ _ _ h => h) (Or.inl ⟨by rfl, ?_⟩) (by assumption) ?_; rotate_left; (intro w hSw; (try dsimp only at hSw); go_simp; try with_reducible rfl); try simp only [Act.put, List.setIfInBounds_toArray, List.set_cons_zero, List.set_cons_succ])
        (refine wpAnyH_take (i := 6) (oi := { dst := some 40, op := Go.Op.load 94 (Go.Operand.tmp 39), type := 94, pos := _, after := _, guard := none }) (v := ?_) rfl (by kernel_rfl) (by kernel_rfl) (by kernel_rfl) (fun _ _ _ h => h) (Or.inl ⟨by rfl, ?_⟩) (by assumption) ?_; rotate_left; (intro w hSw; (try dsimp only at hSw); go_simp; try with_reducible rfl); try simp only [Act.put, List.setIfInBounds_toArray, List.set_cons_zero, List.set_cons_succ])
        (refine wpAnyH_take (i := 7) (oi := { dst := some 41, op := Go.Op.move (Go.Operand.tmp 5), type := 3, pos := _, after := _, guard := none }) (v := ?_) rfl (by kernel_rfl) (by kernel_rfl) (by kernel_rfl) (fun _ _ _ h => h) (Or.inl ⟨by rfl, ?_⟩) (by assumption) ?_; rotate_left; (intro w hSw; (try dsimp only at hSw); go_simp; try with_reducible rfl); try simp only [Act.put, List.setIfInBounds_toArray, List.set_cons_zero, List.set_cons_succ])
        (refine wpAnyH_take (i := 8) (oi := { dst := some 42, op := Go.Op.indexAddr 94 (Go.Operand.tmp 40) (Go.Operand.tmp 41), type := 0, pos := _, after := _, guard := none }) (v := ?_) rfl (by kernel_rfl) (by kernel_rfl) (by kernel_rfl) (fun _ _ _ h => h) (Or.inl ⟨by rfl, ?_⟩) (by assumption) ?_; rotate_left; (intro w hSw; (try dsimp only at hSw); go_simp; try with_reducible rfl); try simp only [Act.put, List.setIfInBounds_toArray, List.set_cons_zero, List.set_cons_succ])
        (refine wpAnyH_take (i := 9) (oi := { dst := some 43, op := Go.Op.load 39 (Go.Operand.tmp 42), type := 39, pos := _, after := _, guard := none }) (v := ?_) rfl (by kernel_rfl) (by kernel_rfl) (by kernel_rfl) (fun _ _ _ h => h) (Or.inl ⟨by rfl, ?_⟩) (by assumption) ?_; rotate_left; (intro w hSw; (try dsimp only at hSw); go_simp; try with_reducible rfl); try simp only [Act.put, List.setIfInBounds_toArray, List.set_cons_zero, List.set_cons_succ])
        refine wpAnyH_ready (rs := [10]) (by kernel_rfl) (by simp) ?_
        refine AllReadyH.cons (o := { dst := some 44, op := Go.Op.call { callee := Go.Callee.value (Go.Operand.func 127), args := #[Go.Operand.tmp 38, Go.Operand.tmp 43], argTypes := #[39, 39] }, type := 4, pos := _, after := _, guard := none }) rfl (fun K hK => ?_) AllReadyH.nil
        go_simp
        refine (HC.out _ (And.left hHeld)).mono ?_
        rintro e w5 ⟨rfl, b5⟩
        go_wp2_with fail
        refine hK.out _ _ ?_ (fun hHeld2 => ?_)
        · (go_split_ands; exact ⟨Below.trans (by assumption) (b5.mono (Below.size (by assumption))), kc b5 (by assumption), kc b5 (by assumption), kc b5 (by assumption), kc b5 (by assumption)⟩)
        clear hK K hHeld
        have hHeld := hHeld2
        clear hHeld2
        try simp only [Act.put, List.setIfInBounds_toArray, List.set_cons_zero, List.set_cons_succ]
        (refine wpAnyH_take (i := 11) (oi := { dst := some 45, op := Go.Op.unOp Go.UnOp.not 4 (Go.Operand.tmp 44), type := 4, pos := _, after := _, guard := none }) (v := ?_) rfl (by kernel_rfl) (by kernel_rfl) (by kernel_rfl) (fun _ _ _ h => h) (Or.inl ⟨by rfl, ?_⟩) (by assumption) ?_; rotate_left; (intro w hSw; (try dsimp only at hSw); go_simp; try with_reducible rfl); try simp only [Act.put, List.setIfInBounds_toArray, List.set_cons_zero, List.set_cons_succ])
        refine wpAnyH_done (by kernel_rfl) ?_ _
        have hb2 := hbr.trans ((And.left hHeld).mono hbr.size)
        go_wp2_with fail
        exact ⟨⟨k + 1, by omega, by go_num, HD.out, hb2⟩, by simp [intOf]; omega⟩
      | false =>
        rw [hc] at HC hd
        rw [Bool.false_and] at hd
        have HD := Lib.hid hd
        clear hd hsr hc hr hr2 hl1 hl2
        go_wp2_with fail
        refine wp_region_held_drew (S := (fun w' => Below wr.heap.size wr w' ∧ w'.cell? ⟨w.heap.size, 2, none⟩ = some (.slice (some ad) x.length q) ∧ w'.cell? ⟨w.heap.size + 1, 2, none⟩ = some (.slice (some bd) y.length p) ∧ w'.cell? (ad.add k) = some (.slice s.A f.length s.c) ∧ w'.cell? (bd.add k) = some (.slice u.A g.length u.c))) (by kernel_rfl) (⟨(Below.refl _ _).drew, d2, f2, q0, r0⟩) (fun hHeld => ?_)
        (refine wpAnyH_take (i := 0) (oi := { dst := some 34, op := Go.Op.fieldAddr 96 (Go.Operand.tmp 2) 2, type := 0, pos := _, after := _, guard := none }) (v := ?_) rfl (by kernel_rfl) (by kernel_rfl) (by kernel_rfl) (fun _ _ _ h => h) (Or.inl ⟨by rfl, ?_⟩) (by assumption) ?_; rotate_left; (intro w hSw; (try dsimp only at hSw); go_simp; try with_reducible rfl); try simp only [Act.put, List.setIfInBounds_toArray, List.set_cons_zero, List.set_cons_succ])
        (refine wpAnyH_take (i := 1) (oi := { dst := some 35, op := Go.Op.load 94 (Go.Operand.tmp 34), type := 94, pos := _, after := _, guard := none }) (v := ?_) rfl (by kernel_rfl) (by kernel_rfl) (by kernel_rfl) (fun _ _ _ h => h) (Or.inl ⟨by rfl, ?_⟩) (by assumption) ?_; rotate_left; (intro w hSw; (try dsimp only at hSw); go_simp; try with_reducible rfl); try simp only [Act.put, List.setIfInBounds_toArray, List.set_cons_zero, List.set_cons_succ])
        (refine wpAnyH_take (i := 2) (oi := { dst := some 36, op := Go.Op.move (Go.Operand.tmp 5), type := 3, pos := _, after := _, guard := none }) (v := ?_) rfl (by kernel_rfl) (by kernel_rfl) (by kernel_rfl) (fun _ _ _ h => h) (Or.inl ⟨by rfl, ?_⟩) (by assumption) ?_; rotate_left; (intro w hSw; (try dsimp only at hSw); go_simp; try with_reducible rfl); try simp only [Act.put, List.setIfInBounds_toArray, List.set_cons_zero, List.set_cons_succ])
        (refine wpAnyH_take (i := 3) (oi := { dst := some 37, op := Go.Op.indexAddr 94 (Go.Operand.tmp 35) (Go.Operand.tmp 36), type := 0, pos := _, after := _, guard := none }) (v := ?_) rfl (by kernel_rfl) (by kernel_rfl) (by kernel_rfl) (fun _ _ _ h => h) (Or.inl ⟨by rfl, ?_⟩) (by assumption) ?_; rotate_left; (intro w hSw; (try dsimp only at hSw); go_simp; try with_reducible rfl); try simp only [Act.put, List.setIfInBounds_toArray, List.set_cons_zero, List.set_cons_succ])
        (refine wpAnyH_take (i := 4) (oi := { dst := some 38, op := Go.Op.load 39 (Go.Operand.tmp 37), type := 39, pos := _, after := _, guard := none }) (v := ?_) rfl (by kernel_rfl) (by kernel_rfl) (by kernel_rfl) (fun _ _ _ h => h) (Or.inl ⟨by rfl, ?_⟩) (by assumption) ?_; rotate_left; (intro w hSw; (try dsimp only at hSw); go_simp; try with_reducible rfl); try simp only [Act.put, List.setIfInBounds_toArray, List.set_cons_zero, List.set_cons_succ])
        (refine wpAnyH_take (i := 5) (oi := { dst := some 39, op := Go.Op.fieldAddr 96 (Go.Operand.tmp 3) 2, type := 0, pos := _, after := _, guard := none }) (v := ?_) rfl (by kernel_rfl) (by kernel_rfl) (by kernel_rfl) (fun _ _ _ h => h) (Or.inl ⟨by rfl, ?_⟩) (by assumption) ?_; rotate_left; (intro w hSw; (try dsimp only at hSw); go_simp; try with_reducible rfl); try simp only [Act.put, List.setIfInBounds_toArray, List.set_cons_zero, List.set_cons_succ])
        (refine wpAnyH_take (i := 6) (oi := { dst := some 40, op := Go.Op.load 94 (Go.Operand.tmp 39), type := 94, pos := _, after := _, guard := none }) (v := ?_) rfl (by kernel_rfl) (by kernel_rfl) (by kernel_rfl) (fun _ _ _ h => h) (Or.inl ⟨by rfl, ?_⟩) (by assumption) ?_; rotate_left; (intro w hSw; (try dsimp only at hSw); go_simp; try with_reducible rfl); try simp only [Act.put, List.setIfInBounds_toArray, List.set_cons_zero, List.set_cons_succ])
        (refine wpAnyH_take (i := 7) (oi := { dst := some 41, op := Go.Op.move (Go.Operand.tmp 5), type := 3, pos := _, after := _, guard := none }) (v := ?_) rfl (by kernel_rfl) (by kernel_rfl) (by kernel_rfl) (fun _ _ _ h => h) (Or.inl ⟨by rfl, ?_⟩) (by assumption) ?_; rotate_left; (intro w hSw; (try dsimp only at hSw); go_simp; try with_reducible rfl); try simp only [Act.put, List.setIfInBounds_toArray, List.set_cons_zero, List.set_cons_succ])
        (refine wpAnyH_take (i := 8) (oi := { dst := some 42, op := Go.Op.indexAddr 94 (Go.Operand.tmp 40) (Go.Operand.tmp 41), type := 0, pos := _, after := _, guard := none }) (v := ?_) rfl (by kernel_rfl) (by kernel_rfl) (by kernel_rfl) (fun _ _ _ h => h) (Or.inl ⟨by rfl, ?_⟩) (by assumption) ?_; rotate_left; (intro w hSw; (try dsimp only at hSw); go_simp; try with_reducible rfl); try simp only [Act.put, List.setIfInBounds_toArray, List.set_cons_zero, List.set_cons_succ])
        (refine wpAnyH_take (i := 9) (oi := { dst := some 43, op := Go.Op.load 39 (Go.Operand.tmp 42), type := 39, pos := _, after := _, guard := none }) (v := ?_) rfl (by kernel_rfl) (by kernel_rfl) (by kernel_rfl) (fun _ _ _ h => h) (Or.inl ⟨by rfl, ?_⟩) (by assumption) ?_; rotate_left; (intro w hSw; (try dsimp only at hSw); go_simp; try with_reducible rfl); try simp only [Act.put, List.setIfInBounds_toArray, List.set_cons_zero, List.set_cons_succ])
        refine wpAnyH_ready (rs := [10]) (by kernel_rfl) (by simp) ?_
        refine AllReadyH.cons (o := { dst := some 44, op := Go.Op.call { callee := Go.Callee.value (Go.Operand.func 127), args := #[Go.Operand.tmp 38, Go.Operand.tmp 43], argTypes := #[39, 39] }, type := 4, pos := _, after := _, guard := none }) rfl (fun K hK => ?_) AllReadyH.nil
        go_simp
        refine (HC.out _ (And.left hHeld)).mono ?_
        rintro e w5 ⟨rfl, b5⟩
        go_wp2_with fail
        refine hK.out _ _ ?_ (fun hHeld2 => ?_)
        · (go_split_ands; exact ⟨Below.trans (by assumption) (b5.mono (Below.size (by assumption))), kc b5 (by assumption), kc b5 (by assumption), kc b5 (by assumption), kc b5 (by assumption)⟩)
        clear hK K hHeld
        have hHeld := hHeld2
        clear hHeld2
        try simp only [Act.put, List.setIfInBounds_toArray, List.set_cons_zero, List.set_cons_succ]
        (refine wpAnyH_take (i := 11) (oi := { dst := some 45, op := Go.Op.unOp Go.UnOp.not 4 (Go.Operand.tmp 44), type := 4, pos := _, after := _, guard := none }) (v := ?_) rfl (by kernel_rfl) (by kernel_rfl) (by kernel_rfl) (fun _ _ _ h => h) (Or.inl ⟨by rfl, ?_⟩) (by assumption) ?_; rotate_left; (intro w hSw; (try dsimp only at hSw); go_simp; try with_reducible rfl); try simp only [Act.put, List.setIfInBounds_toArray, List.set_cons_zero, List.set_cons_succ])
        refine wpAnyH_done (by kernel_rfl) ?_ _
        have hb2 := hbr.trans ((And.left hHeld).mono hbr.size)
        go_wp2_with fail
        go_ret
        exact ⟨by rw [HD.out]; rfl, k0.trans (hb2.mono k0.size)⟩
    · obtain rfl : k = x.length := by omega
      have hd : sameRows x y = true := by
        rw [hsr, List.drop_eq_nil_of_le (Nat.le_refl _), List.drop_eq_nil_of_le (by have := Hl.out; omega)]
        rfl
      have HD := Lib.hid hd
      clear hd hsr
      go_wp2_with fail
      go_ret
      exact ⟨by rw [HD.out]; rfl, k0.trans (hbr.mono k0.size)⟩
theorem rsamer_any (a b : Rep) (A B : Option Addr) (q p : Nat) (w : World) (ha : RdRows w A a.rows) (hb : RdRows w B b.rows) (hx : a.rows.length ≤ 1000) (hlx : ∀ l ∈ a.rows, l.length ≤ 1000) (hly : ∀ l ∈ b.rows, l.length ≤ 1000) : Calls Try.prog 87 #[rv a.code a.n A a.rows.length q, rv b.code b.n B b.rows.length p] w fun e w' => e = .returned (.bool (sameR a b)) ∧ Below w.heap.size w w' := by
  unfold sameR
  by_cases h1 : a.code = b.code
  rotate_left
  · rw [show (a.code == b.code) = false by rw [beq_eq_false_iff_ne]; exact h1]
    exact rsame_c _ _ _ _ _ _ _ _ _ _ w h1
  rw [show (a.code == b.code) = true by rw [beq_iff_eq]; exact h1, Bool.true_and]
  by_cases h2 : a.n = b.n
  rotate_left
  · rw [show (a.n == b.n) = false by rw [beq_eq_false_iff_ne]; exact h2]
    exact rsame_n _ _ _ _ _ _ _ _ _ _ w h1 h2
  rw [show (a.n == b.n) = true by rw [beq_iff_eq]; exact h2, Bool.true_and, h1, h2]
  by_cases h3 : a.rows.length = b.rows.length
  · exact rsame_in _ _ A B q p _ _ w ha hb h3 hx hlx hly
  · rw [sameRows_len _ _ h3]
    exact rsame_l _ _ A q _ B p _ w h3
def wkR : ByteArray := ⟨#[0, 0, 0, 1, 0, 1, 1, 0]⟩
def wkE : Rep := ⟨60, 0, []⟩
theorem wk_rep : repS wkE = ⟨#[0, 60, 0, 0, 0, 0]⟩ ∧ repE wkE = 0 := by decide +kernel
theorem wk_rdec : (repV wkR).code = 0 ∧ (repV wkR).n = 1 ∧ (repV wkR).rows.length = 1 ∧ (repV wkR).rows.map List.length = [1] ∧ repX wkR = 0 := by decide +kernel
set_option maxRecDepth 100000 in
set_option maxHeartbeats 1000000 in
theorem rep_wakes (w : World) : Calls Try.prog 77 #[] w fun e w' => e = .returned (.bool true) ∧ Below w.heap.size w w' := by
  have hE := encr_any wkE none 0 w (RdRows.nil _ _) (fun l hl => absurd hl (by simp [wkE]))
  rw [wk_rep.1, wk_rep.2] at hE
  have HE : Hid (Calls Try.prog 78 #[rv 60 0 none 0 0] w fun e w' => e = .returned (.tuple #[.string ⟨#[0, 60, 0, 0, 0, 0]⟩, .int .i64 0]) ∧ Below w.heap.size w w') := Lib.hid hE
  have HD := Lib.hid (pdec_any wkR (by decide))
  obtain ⟨d0, d1, d2, d3, d4⟩ := wk_rdec
  have HS := Lib.hid (fun A q w' h hlx => samer_any (repV wkR) (repV wkR) A A q q w' h h (by rw [d2]; decide) (by rw [d2]; decide) hlx hlx)
  unfold DecP at HD
  rw [sameR_self, d0, d1, d2] at HS
  rw [d0, d1, d2, d4] at HD
  generalize hrows : (repV wkR).rows = rows at *
  have hl1 : ∀ l ∈ rows, l.length = 1 := fun l hl => by
    have : l.length ∈ rows.map List.length := List.mem_map.2 ⟨l, hl, rfl⟩
    rw [d3] at this
    exact List.mem_singleton.1 this
  have HS2 := Lib.hid (fun A q w' h => HS.out A q w' h (fun l hl => by rw [hl1 l hl]; decide))
  have Hl1 := Lib.hid hl1
  have Hd2 := Lib.hid d2
  have hwk : wkR = ⟨#[0, 0, 0, 1, 0, 1, 1, 0]⟩ := rfl
  rw [hwk] at HD
  clear hE d0 d1 d3 d4 hrows HS hl1 d2 hwk
  go_enter Try.func77, Try.ntmps77
  go_wp2_with fail
  refine HE.out.mono ?_
  rintro e w1 ⟨rfl, b1⟩
  go_wp2_with fail
  refine (HD.out _).mono ?_
  rintro e w2 ⟨A, q, rfl, hR, hn, b2⟩
  have k2 := b1.trans (b2.mono b1.size)
  have HR := Lib.hid (hR.keep ((Below.refl _ _).alloc (Nat.le_refl _) (.cells (a3 0 1 A 1 q) 96)))
  obtain ⟨ad, s, rfl, hc, _, _⟩ := HR.out 0 (by rw [Hd2.out]; decide)
  rw [Hl1.out _ (List.getElem_mem (show 0 < rows.length by rw [Hd2.out]; decide)), add_zero'] at hc
  clear hR hn b1 b2
  go_wp2_with fail
  refine (HS2.out _ _ _ HR.out).mono ?_
  rintro e w3 ⟨rfl, b3⟩
  have k3 := (k2.alloc k2.size _).trans (b3.mono (by have := k2.size; simp; omega))
  go_wp2_with fail
  go_ret
  exact ⟨rfl, k3⟩
end Go.Proofs.Ytmgpecomgffelaa
