/- Two walks of the law RowErrors: a value whose kind is the column's, and one whose kind is not. -/
import Derived.Test.YtmgpecomgffelaaRowW
namespace Go.Proofs.Ytmgpecomgffelaa
open Go.RowKit Go.ChangeShapes Go.WideShapes Go.ChangeAt
set_option linter.unusedVariables false
set_option maxRecDepth 100000 in
set_option maxHeartbeats 4000000 in
theorem errors_C (A : Option Addr) (c : Nat) (l : List Col) (at' : Int) (v : Val) (w : World) (ha : RdC w A l) (hL : goodC l = true) (hX : goodV v.kind v.n v.f v.s = true) (kk : Nat) (hkk : modV at' l.length = kk) (hk0 : kk < l.length) (hk : v.kind ≠ 0) (hke : v.kind = l[kk].kind) : Tells Try.prog 11 #[.slice A l.length c, .int .i64 at', vv v.kind v.n v.f v.s] w := by
  unfold Tells
  have hst := run_sf
  have h0 : Below w.heap.size w (w.alloc (.cells #[.int .i64 v.kind, .int .i64 v.n, .float .f64 v.f, .string v.s] 24)) := (Below.refl _ _).alloc (Nat.le_refl _) _
  have HX0 := Lib.hid (RdV.one w v)
  have HA0 := Lib.hid (ha.keep h0 (Nat.le_refl _))
  have hl := rgoodc_any A c l _ HA0.out
  rw [hL] at hl
  have HG := Lib.hid hX
  have HG2 := Lib.hid hL
  obtain ⟨hl1, hl6⟩ := goodC_len hL
  obtain ⟨i0, hi, hz0, hz1, hz2⟩ := info_parts info24
  have HK := Lib.hid hkk
  have hT : takesV l[kk].kind l[kk].nn v.kind v.n v.f v.s = 0 := by
    unfold takesV
    rw [if_neg (by rw [hX]; simp)]
    rw [if_neg hk, if_pos hke]
  have HT := Lib.hid hT
  have t0 : (v.kind == 0) = false := by rw [beq_eq_false_iff_ne]; exact hk
  have t00 : (v.kind != 0) = true := by rw [bne, t0]; rfl
  have t1 : (v.kind == l[kk].kind) = true := by rw [beq_iff_eq]; exact hke
  have t11 : (v.kind != l[kk].kind) = false := by rw [bne, t1]; rfl
  clear hX hT hkk hk hke
  clear ha hL
  go_enter Try.func11, Try.ntmps11
  go_wp2_with fail
  refine hl.mono ?_
  rintro e w1 ⟨rfl, b1⟩
  have c1 := below_trans h0 b1
  have HX1 := Lib.hid (HX0.out.keep b1 (Nat.le_refl _))
  have HA1 := Lib.hid (HA0.out.keep b1 (Nat.le_refl _))
  clear h0 b1 HX0 HA0 hl
  obtain ⟨q0, q1, q2, q3⟩ := RdV.box HX1.out
  have hg := rgood_any v.kind v.n v.f v.s w1
  rw [HG.out] at hg
  go_wp2_with fail
  refine hg.mono ?_
  rintro e w2 ⟨rfl, b2⟩
  have c2 := below_trans c1 b2
  have HX2 := Lib.hid (HX1.out.keep b2 (Nat.le_refl _))
  have HA2 := Lib.hid (HA1.out.keep b2 (Nat.le_refl _))
  clear b2 c1 HX1 HA1 hg q0 q1 q2 q3
  go_wp2_with fail
  have hmod := mod_any at' l.length w2 hl1 (by omega)
  rw [HK.out] at hmod
  refine hmod.mono ?_
  rintro e w3 ⟨rfl, rfl⟩
  clear hmod
  have hlt0 : w.heap.size < w2.heap.size := World.block_lt_of_cell? _ _ (RdV.box HX2.out).1
  go_wp2_with fail
  go_loopw [7, 9] (fun r i wr => ∃ k : Nat, k ≤ l.length ∧ i = .int .i64 k ∧ Fresh wr w2.heap.size 24 4 r k (((rowE l kk v).take k).flatMap Val.cells) ∧ Below w2.heap.size w2 wr) (fun _ i _ => l.length - (intOf i).toNat)
  case atStart => exact ⟨0, by omega, rfl, Or.inl (World.ownsRow_nil _ _ _ _), Below.refl _ _⟩
  case round =>
    obtain ⟨k, hk, rfl, hF, hb⟩ := hrel
    obtain ⟨A7, c7, rfl, hn7⟩ := hF.slice
    by_cases hlt : k < l.length
    · obtain ⟨ad, rfl, q0, q1, q2, q3, q4, q5, q6⟩ := RdC.at (HA2.out.keep hb (Nat.le_refl _)) k hlt
      obtain ⟨p0, p1, p2, p3⟩ := RdV.box (HX2.out.keep hb (Nat.le_refl _))
      have hp := rowE_step l kk v k hlt
      have hblk : w.heap.size < wr.heap.size := World.block_lt_of_cell? _ _ p0
      clear q0 q2 q3 q4 q5 q6
      generalize l[k] = x at *
      by_cases hkk : k = kk
      · have t1 : ((k : Int) == (kk : Int)) = true := by rw [beq_iff_eq]; omega
        rw [if_pos hkk] at hp
        have Hp := Lib.hid hp
        clear hkk hp
        go_wp2_with (at_builtin; refine wl_app_vals rfl _ _ rfl w2.heap.size _ k _ rfl ((hF.alloc _).alloc _) (by have := hb.size; simp; omega) _ 1 [v] rfl (by simp) (RdV.uno2 _ _ _) (by simp; omega) ?_; intro v' w3' hF3 b3 _)
        rw [List.flatMap_cons, List.flatMap_nil, List.append_nil, ← Hp.out] at hF3
        have hb1 : Below w2.heap.size w2 w3' := ((hb.alloc hb.size _).alloc (by have := hb.size; simp; omega) _).trans b3
        go_wp2_with fail
        exact ⟨⟨k + 1, by omega, by go_num, hF3, hb1⟩, by simp [intOf]; omega⟩
      · have t1 : ((k : Int) == (kk : Int)) = false := by rw [beq_eq_false_iff_ne]; omega
        rw [if_neg hkk] at hp
        have Hp := Lib.hid hp
        clear hkk hp
        go_wp2_with (at_builtin; refine wl_app_vals rfl _ _ rfl w2.heap.size _ k _ rfl ((hF.alloc _).alloc _) (by have := hb.size; simp; omega) _ 1 [⟨x.kind, 0, 0, ⟨#[]⟩⟩] rfl (by simp) (RdV.uno2 _ _ _) (by simp; omega) ?_; intro v' w3' hF3 b3 _)
        rw [List.flatMap_cons, List.flatMap_nil, List.append_nil, ← Hp.out] at hF3
        have hb1 : Below w2.heap.size w2 w3' := ((hb.alloc hb.size _).alloc (by have := hb.size; simp; omega) _).trans b3
        go_wp2_with fail
        exact ⟨⟨k + 1, by omega, by go_num, hF3, hb1⟩, by simp [intOf]; omega⟩
    · obtain rfl : k = l.length := by omega
      have hall : (rowE l kk v).take l.length = rowE l kk v := List.take_of_length_le (by rw [rowE_len]; exact Nat.le_refl _)
      rw [hall] at hF
      have hrl := rowE_len l kk v
      have HR := Lib.hid (Fresh.rd (l := rowE l kk v) (c := c7) Val.cells_len (by decide) (by rw [hrl]; exact hF))
      have HN7 := Lib.hid hn7
      have HAr := Lib.hid (HA2.out.keep hb (Nat.le_refl _))
      have HXr := Lib.hid (HX2.out.keep hb (Nat.le_refl _))
      have cr := below_trans c2 hb
      have hltr : w.heap.size < wr.heap.size := Nat.lt_of_lt_of_le hlt0 hb.size
      have HE := Lib.hid ((rowE_fillE l kk v HG2.out hk0).trans HT.out)
      have HRL := Lib.hid hrl
      generalize rowE l kk v = r at *
      clear hall hF hn7 hb HA2 HX2 c2 hlt0 hrl
      go_wp2_with (at_builtin; refine wl_app_vals rfl _ _ rfl wr.heap.size _ 0 [] rfl (Fresh.empty _ _ _ _ _) (by simp) A7 c7 r (by rw [HRL.out]; rfl) HN7.out (HR.out.keep ((Below.refl _ _).alloc (Nat.le_refl _) _) (Nat.le_refl _)) (by rw [HRL.out]; omega) ?_; intro v3 w3 hF b3' _; rw [Nat.zero_add, List.nil_append] at hF; obtain ⟨A3, c3, rfl, hn3⟩ := hF.slice; have b3 : Below wr.heap.size wr w3 := ((Below.refl _ _).alloc (Nat.le_refl _) _).trans b3'; have HI3 := Lib.hid (Fresh.rd Val.cells_len (by decide) hF); have HA3 := Lib.hid (HAr.out.keep b3 (Nat.le_refl _)); have HX3 := Lib.hid (HXr.out.keep b3 (Nat.le_refl _)); have HR3 := Lib.hid (HR.out.keep b3 (Nat.le_refl _)); have k3 := below_trans cr b3; have hlt3 : w.heap.size < w3.heap.size := Nat.lt_of_lt_of_le hltr b3.size; clear b3 b3' cr HR HAr HXr hltr hF hn3)
      have hf := fill_any A A3 c c3 l r w3 HA3.out HI3.out (by omega)
      rw [HE.out] at hf
      refine hf.mono ?_
      rintro e w4 ⟨A4, c4, rfl, hf4, hn4, b4⟩
      have HV4 := Lib.hid hf4
      have HA4 := Lib.hid (HA3.out.keep b4 (Nat.le_refl _))
      have HX4 := Lib.hid (HX3.out.keep b4 (Nat.le_refl _))
      have HR4 := Lib.hid (HR3.out.keep b4 (Nat.le_refl _))
      have k4 := below_trans k3 b4
      have hlt4 : w.heap.size < w4.heap.size := Nat.lt_of_lt_of_le hlt3 b4.size
      have hfv : fillV l r = r := by unfold fillV; rw [HE.out, if_pos rfl, padV_full HRL.out]
      rw [hfv] at HV4
      rw [hfv, HRL.out]
      clear hf hf4 hn4 b4 k3 HA3 HX3 HR3 HI3 hlt3
      obtain ⟨p0, p1, p2, p3⟩ := RdV.box HX4.out
      go_wp2_with fail
      refine wp_region_held_drew (S := (fun w' => Below w4.heap.size w4 w' ∧ w'.cell? ⟨w.heap.size, 0, none⟩ = some (.int .i64 v.kind) ∧ w'.cell? ⟨w.heap.size, 1, none⟩ = some (.int .i64 v.n) ∧ w'.cell? ⟨w.heap.size, 2, none⟩ = some (.float .f64 v.f) ∧ w'.cell? ⟨w.heap.size, 3, none⟩ = some (.string v.s))) (by kernel_rfl) (⟨(Below.refl _ _).drew, p0, p1, p2, p3⟩) (fun hHeld => ?_)
      (refine wpAnyH_take (i := 0) (oi := { dst := some 58, op := Go.Op.move (Go.Operand.tmp 0), type := 49, pos := _, after := _, guard := none }) (v := ?_) rfl (by kernel_rfl) (by kernel_rfl) (by kernel_rfl) (fun _ _ _ h => h) (Or.inl ⟨by rfl, ?_⟩) (by assumption) ?_; rotate_left; (intro w hSw; (try dsimp only at hSw); go_simp; try with_reducible rfl); try simp only [Act.put, List.setIfInBounds_toArray, List.set_cons_zero, List.set_cons_succ])
      (refine wpAnyH_take (i := 2) (oi := { dst := some 60, op := Go.Op.move (Go.Operand.tmp 7), type := 39, pos := _, after := _, guard := none }) (v := ?_) rfl (by kernel_rfl) (by kernel_rfl) (by kernel_rfl) (fun _ _ _ h => h) (Or.inl ⟨by rfl, ?_⟩) (by assumption) ?_; rotate_left; (intro w hSw; (try dsimp only at hSw); go_simp; try with_reducible rfl); try simp only [Act.put, List.setIfInBounds_toArray, List.set_cons_zero, List.set_cons_succ])
      (refine wpAnyH_take (i := 4) (oi := { dst := some 62, op := Go.Op.load 24 (Go.Operand.tmp 5), type := 24, pos := _, after := _, guard := none }) (v := ?_) rfl (by kernel_rfl) (by kernel_rfl) (by kernel_rfl) (fun _ _ _ h => h) (Or.inl ⟨by rfl, ?_⟩) (by assumption) ?_; rotate_left; (intro w hSw; (try dsimp only at hSw); go_simp; try with_reducible rfl); try simp only [Act.put, List.setIfInBounds_toArray, List.set_cons_zero, List.set_cons_succ])
      refine wpAnyH_ready (rs := [1, 5]) (by kernel_rfl) (by simp) ?_
      refine (AllReadyH.cons (o := { dst := some 59, op := Go.Op.buildSlice 39 0 #[], type := 39, pos := _, after := _, guard := none }) rfl (fun K hK => ?_) (AllReadyH.cons (o := { dst := some 63, op := Go.Op.buildSlice 39 1 #[(0, Go.Operand.tmp 62)], type := 39, pos := _, after := _, guard := none }) rfl (fun K hK => ?_) AllReadyH.nil))
      · go_simp
        refine hK.out _ _ ?_ (fun hHeld2 => ?_)
        · (go_split_ands; exact ⟨Below.trans (by assumption) (((Below.refl _ _).alloc (Nat.le_refl _) _).mono (Below.size (by assumption))), kc ((Below.refl _ _).alloc (Nat.le_refl _) _) (by assumption), kc ((Below.refl _ _).alloc (Nat.le_refl _) _) (by assumption), kc ((Below.refl _ _).alloc (Nat.le_refl _) _) (by assumption), kc ((Below.refl _ _).alloc (Nat.le_refl _) _) (by assumption)⟩)
        clear hK K hHeld
        have hHeld := hHeld2
        clear hHeld2
        try simp only [Act.put, List.setIfInBounds_toArray, List.set_cons_zero, List.set_cons_succ]
        refine wpAnyH_ready (rs := [3, 5]) (by kernel_rfl) (by simp) ?_
        refine (AllReadyH.cons (o := { dst := some 61, op := Go.Op.call { callee := Go.Callee.builtin Go.Builtin.append, args := #[Go.Operand.tmp 59, Go.Operand.tmp 60], argTypes := #[39, 39] }, type := 39, pos := _, after := _, guard := none }) rfl (fun K hK => ?_) (AllReadyH.cons (o := { dst := some 63, op := Go.Op.buildSlice 39 1 #[(0, Go.Operand.tmp 62)], type := 39, pos := _, after := _, guard := none }) rfl (fun K hK => ?_) AllReadyH.nil))
        · rw [if_pos (by rfl)]
          refine wp_app_vals _ _ rfl w4.heap.size _ 0 [] rfl (Fresh.empty _ _ _ _ _) (Below.size (And.left hHeld)) A7 c7 r (by rw [HRL.out]; rfl) HN7.out (HR4.out.keep (And.left hHeld) (Nat.le_refl _)) (by rw [HRL.out]; omega) ?_
          intro v6 w6 hF b6' hb6
          rw [Nat.zero_add, List.nil_append] at hF
          have b6 := (hb6 ⟨_, rfl⟩).1
          have hF' := hF
          obtain ⟨A', c', rfl, hn'⟩ := hF.slice
          refine hK.out _ _ ?_ (fun hHeld2 => ?_)
          · (go_split_ands; exact ⟨Below.trans (by assumption) (b6.mono (Below.size (by assumption))), kc b6 (by assumption), kc b6 (by assumption), kc b6 (by assumption), kc b6 (by assumption)⟩)
          clear hK K hHeld
          have hHeld := hHeld2
          clear hHeld2
          try simp only [Act.put, List.setIfInBounds_toArray, List.set_cons_zero, List.set_cons_succ]
          refine wpAnyH_ready (rs := [5]) (by kernel_rfl) (by simp) ?_
          refine AllReadyH.cons (o := { dst := some 63, op := Go.Op.buildSlice 39 1 #[(0, Go.Operand.tmp 62)], type := 39, pos := _, after := _, guard := none }) rfl (fun K hK => ?_) AllReadyH.nil
          go_simp
          refine hK.out _ _ ?_ (fun hHeld2 => ?_)
          · (go_split_ands; exact ⟨Below.trans (by assumption) (((Below.refl _ _).alloc (Nat.le_refl _) _).mono (Below.size (by assumption))), kc ((Below.refl _ _).alloc (Nat.le_refl _) _) (by assumption), kc ((Below.refl _ _).alloc (Nat.le_refl _) _) (by assumption), kc ((Below.refl _ _).alloc (Nat.le_refl _) _) (by assumption), kc ((Below.refl _ _).alloc (Nat.le_refl _) _) (by assumption)⟩)
          clear hK K hHeld
          have hHeld := hHeld2
          clear hHeld2
          try simp only [Act.put, List.setIfInBounds_toArray, List.set_cons_zero, List.set_cons_succ]
          refine wpAnyH_ready (rs := [6]) (by kernel_rfl) (by simp) ?_
          refine AllReadyH.cons (o := { dst := some 64, op := Go.Op.call { callee := Go.Callee.builtin Go.Builtin.append, args := #[Go.Operand.tmp 61, Go.Operand.tmp 63], argTypes := #[39, 39] }, type := 39, pos := _, after := _, guard := none }) rfl (fun K hK => ?_) AllReadyH.nil
          rw [if_pos (by rfl)]
          refine wp_app_vals _ _ rfl w4.heap.size _ r.length (r.flatMap Val.cells) rfl (by first | exact hF' | exact hF'.alloc _) (Below.size (And.left hHeld)) _ 1 [v] rfl (by simp) (by first | exact RdV.one _ v | exact (RdV.one _ v).keep b6 (Nat.le_refl _) | exact (RdV.dro _ v).keep b6 (Nat.le_refl _) | exact (RdV.dro2 _ _ v).keep b6 (Nat.le_refl _) | exact (RdV.dro3 _ _ v).keep b6 (Nat.le_refl _) | exact ((RdV.one _ v).keep ((Below.refl _ _).alloc (Nat.le_refl _) _) (Nat.le_refl _)).keep b6 (Nat.le_refl _)) (by rw [HRL.out]; simp; omega) ?_
          intro v7 w7 hF7 b7 _
          obtain ⟨A8, c8, rfl, hn8⟩ := hF7.slice
          refine hK.out _ _ ?_ (fun hHeld2 => ?_)
          · (go_split_ands; exact ⟨Below.trans (by assumption) b7, kd b7 (by simp; omega) (by assumption), kd b7 (by simp; omega) (by assumption), kd b7 (by simp; omega) (by assumption), kd b7 (by simp; omega) (by assumption)⟩)
          clear hK K hHeld
          have hHeld := hHeld2
          clear hHeld2
          try simp only [Act.put, List.setIfInBounds_toArray, List.set_cons_zero, List.set_cons_succ]
          refine wpAnyH_ready (rs := [7]) (by kernel_rfl) (by simp) ?_
          refine AllReadyH.cons (o := { dst := some 65, op := Go.Op.call { callee := Go.Callee.value (Go.Operand.func 52), args := #[Go.Operand.tmp 58, Go.Operand.tmp 64], argTypes := #[49, 39] }, type := 43, pos := _, after := _, guard := none }) rfl (fun K hK => ?_) AllReadyH.nil
          go_simp
          refine (fill_many A A8 c c8 l.length (r.length + [v].length) _ (by rw [HRL.out]; simp)).mono ?_
          rintro e w8 ⟨rfl, rfl⟩
          go_wp2_with fail
          refine hK.out _ _ ?_ (fun hHeld2 => ?_)
          · (exact hHeld)
          clear hK K hHeld
          have hHeld := hHeld2
          clear hHeld2
          try simp only [Act.put, List.setIfInBounds_toArray, List.set_cons_zero, List.set_cons_succ]
          (refine wpAnyH_take (i := 8) (oi := { dst := some 57, op := Go.Op.move (Go.Operand.tmp 65), type := 43, pos := _, after := _, guard := none }) (v := ?_) rfl (by kernel_rfl) (by kernel_rfl) (by kernel_rfl) (fun _ _ _ h => h) (Or.inl ⟨by rfl, ?_⟩) (by assumption) ?_; rotate_left; (intro w hSw; (try dsimp only at hSw); go_simp; try with_reducible rfl); try simp only [Act.put, List.setIfInBounds_toArray, List.set_cons_zero, List.set_cons_succ])
          (refine wpAnyH_take (i := 9) (oi := { dst := some 66, op := Go.Op.extract (Go.Operand.tmp 57) 0, type := 39, pos := _, after := _, guard := none }) (v := ?_) rfl (by kernel_rfl) (by kernel_rfl) (by kernel_rfl) (fun _ _ _ h => h) (Or.inl ⟨by rfl, ?_⟩) (by assumption) ?_; rotate_left; (intro w hSw; (try dsimp only at hSw); go_simp; try with_reducible rfl); try simp only [Act.put, List.setIfInBounds_toArray, List.set_cons_zero, List.set_cons_succ])
          (refine wpAnyH_take (i := 10) (oi := { dst := some 67, op := Go.Op.extract (Go.Operand.tmp 57) 1, type := 27, pos := _, after := _, guard := none }) (v := ?_) rfl (by kernel_rfl) (by kernel_rfl) (by kernel_rfl) (fun _ _ _ h => h) (Or.inl ⟨by rfl, ?_⟩) (by assumption) ?_; rotate_left; (intro w hSw; (try dsimp only at hSw); go_simp; try with_reducible rfl); try simp only [Act.put, List.setIfInBounds_toArray, List.set_cons_zero, List.set_cons_succ])
          (refine wpAnyH_take (i := 11) (oi := { dst := some 13, op := Go.Op.assign (Go.Operand.tmp 66), type := 39, pos := _, after := _, guard := none }) (v := ?_) rfl (by kernel_rfl) (by kernel_rfl) (by kernel_rfl) (fun _ _ _ h => h) (Or.inl ⟨by rfl, ?_⟩) (by assumption) ?_; rotate_left; (intro w hSw; (try dsimp only at hSw); go_simp; try with_reducible rfl); try simp only [Act.put, List.setIfInBounds_toArray, List.set_cons_zero, List.set_cons_succ])
          (refine wpAnyH_take (i := 12) (oi := { dst := some 14, op := Go.Op.assign (Go.Operand.tmp 67), type := 27, pos := _, after := _, guard := none }) (v := ?_) rfl (by kernel_rfl) (by kernel_rfl) (by kernel_rfl) (fun _ _ _ h => h) (Or.inl ⟨by rfl, ?_⟩) (by assumption) ?_; rotate_left; (intro w hSw; (try dsimp only at hSw); go_simp; try with_reducible rfl); try simp only [Act.put, List.setIfInBounds_toArray, List.set_cons_zero, List.set_cons_succ])
          refine wpAnyH_done (by kernel_rfl) ?_ _
          obtain ⟨kB, p0, p1, p2, p3⟩ := hHeld
          have HA5 := Lib.hid (HA4.out.keep kB (Nat.le_refl _))
          have HR5 := Lib.hid (HR4.out.keep kB (Nat.le_refl _))
          have HV5 := Lib.hid (HV4.out.keep kB (Nat.le_refl _))
          have k5 := below_trans k4 kB
          obtain ⟨ad, rfl, r0, r1, r2, r3, r4, r5, r6⟩ := RdC.at HA5.out kk hk0
          clear kB HA4 HR4 HV4 k4 hF7 hF hF' hn' hn8 r0 r3 r4 r5 r6
          generalize l[kk].kind = xk at *
          generalize l[kk].nn = xn at *
          go_wp2_with fail
          go_quiet (fail)
          go_wp2_with fail
          have hvs := fun n => values_same A4 A7 c4 c7 r _ (RdL.drewN HV5.out n) (RdL.drewN HR5.out n) (by rw [HRL.out]; omega)
          rw [HRL.out] at hvs
          refine (hvs _).mono ?_
          rintro e w8 ⟨rfl, b8⟩
          have k8 := below_trans (below_drewN k5 _) b8
          clear hvs b8 HV5 HR5
          go_wp2_with fail
          refine (row_wakes _).mono ?_
          rintro e w9 ⟨rfl, b9⟩
          go_wp2_with fail
          go_ret
          exact ⟨rfl, below_trans k8 b9⟩
        · go_simp
          refine hK.out _ _ ?_ (fun hHeld2 => ?_)
          · (go_split_ands; exact ⟨Below.trans (by assumption) (((Below.refl _ _).alloc (Nat.le_refl _) _).mono (Below.size (by assumption))), kc ((Below.refl _ _).alloc (Nat.le_refl _) _) (by assumption), kc ((Below.refl _ _).alloc (Nat.le_refl _) _) (by assumption), kc ((Below.refl _ _).alloc (Nat.le_refl _) _) (by assumption), kc ((Below.refl _ _).alloc (Nat.le_refl _) _) (by assumption)⟩)
          clear hK K hHeld
          have hHeld := hHeld2
          clear hHeld2
          try simp only [Act.put, List.setIfInBounds_toArray, List.set_cons_zero, List.set_cons_succ]
          refine wpAnyH_ready (rs := [3]) (by kernel_rfl) (by simp) ?_
          refine AllReadyH.cons (o := { dst := some 61, op := Go.Op.call { callee := Go.Callee.builtin Go.Builtin.append, args := #[Go.Operand.tmp 59, Go.Operand.tmp 60], argTypes := #[39, 39] }, type := 39, pos := _, after := _, guard := none }) rfl (fun K hK => ?_) AllReadyH.nil
          rw [if_pos (by rfl)]
          refine wp_app_vals _ _ rfl w4.heap.size _ 0 [] rfl (Fresh.empty _ _ _ _ _) (Below.size (And.left hHeld)) A7 c7 r (by rw [HRL.out]; rfl) HN7.out (HR4.out.keep (And.left hHeld) (Nat.le_refl _)) (by rw [HRL.out]; omega) ?_
          intro v6 w6 hF b6' hb6
          rw [Nat.zero_add, List.nil_append] at hF
          have b6 := (hb6 ⟨_, rfl⟩).1
          have hF' := hF
          obtain ⟨A', c', rfl, hn'⟩ := hF.slice
          refine hK.out _ _ ?_ (fun hHeld2 => ?_)
          · (go_split_ands; exact ⟨Below.trans (by assumption) (b6.mono (Below.size (by assumption))), kc b6 (by assumption), kc b6 (by assumption), kc b6 (by assumption), kc b6 (by assumption)⟩)
          clear hK K hHeld
          have hHeld := hHeld2
          clear hHeld2
          try simp only [Act.put, List.setIfInBounds_toArray, List.set_cons_zero, List.set_cons_succ]
          refine wpAnyH_ready (rs := [6]) (by kernel_rfl) (by simp) ?_
          refine AllReadyH.cons (o := { dst := some 64, op := Go.Op.call { callee := Go.Callee.builtin Go.Builtin.append, args := #[Go.Operand.tmp 61, Go.Operand.tmp 63], argTypes := #[39, 39] }, type := 39, pos := _, after := _, guard := none }) rfl (fun K hK => ?_) AllReadyH.nil
          rw [if_pos (by rfl)]
          refine wp_app_vals _ _ rfl w4.heap.size _ r.length (r.flatMap Val.cells) rfl (by first | exact hF' | exact hF'.alloc _) (Below.size (And.left hHeld)) _ 1 [v] rfl (by simp) (by first | exact RdV.one _ v | exact (RdV.one _ v).keep b6 (Nat.le_refl _) | exact (RdV.dro _ v).keep b6 (Nat.le_refl _) | exact (RdV.dro2 _ _ v).keep b6 (Nat.le_refl _) | exact (RdV.dro3 _ _ v).keep b6 (Nat.le_refl _) | exact ((RdV.one _ v).keep ((Below.refl _ _).alloc (Nat.le_refl _) _) (Nat.le_refl _)).keep b6 (Nat.le_refl _)) (by rw [HRL.out]; simp; omega) ?_
          intro v7 w7 hF7 b7 _
          obtain ⟨A8, c8, rfl, hn8⟩ := hF7.slice
          refine hK.out _ _ ?_ (fun hHeld2 => ?_)
          · (go_split_ands; exact ⟨Below.trans (by assumption) b7, kd b7 (by simp; omega) (by assumption), kd b7 (by simp; omega) (by assumption), kd b7 (by simp; omega) (by assumption), kd b7 (by simp; omega) (by assumption)⟩)
          clear hK K hHeld
          have hHeld := hHeld2
          clear hHeld2
          try simp only [Act.put, List.setIfInBounds_toArray, List.set_cons_zero, List.set_cons_succ]
          refine wpAnyH_ready (rs := [7]) (by kernel_rfl) (by simp) ?_
          refine AllReadyH.cons (o := { dst := some 65, op := Go.Op.call { callee := Go.Callee.value (Go.Operand.func 52), args := #[Go.Operand.tmp 58, Go.Operand.tmp 64], argTypes := #[49, 39] }, type := 43, pos := _, after := _, guard := none }) rfl (fun K hK => ?_) AllReadyH.nil
          go_simp
          refine (fill_many A A8 c c8 l.length (r.length + [v].length) _ (by rw [HRL.out]; simp)).mono ?_
          rintro e w8 ⟨rfl, rfl⟩
          go_wp2_with fail
          refine hK.out _ _ ?_ (fun hHeld2 => ?_)
          · (exact hHeld)
          clear hK K hHeld
          have hHeld := hHeld2
          clear hHeld2
          try simp only [Act.put, List.setIfInBounds_toArray, List.set_cons_zero, List.set_cons_succ]
          (refine wpAnyH_take (i := 8) (oi := { dst := some 57, op := Go.Op.move (Go.Operand.tmp 65), type := 43, pos := _, after := _, guard := none }) (v := ?_) rfl (by kernel_rfl) (by kernel_rfl) (by kernel_rfl) (fun _ _ _ h => h) (Or.inl ⟨by rfl, ?_⟩) (by assumption) ?_; rotate_left; (intro w hSw; (try dsimp only at hSw); go_simp; try with_reducible rfl); try simp only [Act.put, List.setIfInBounds_toArray, List.set_cons_zero, List.set_cons_succ])
          (refine wpAnyH_take (i := 9) (oi := { dst := some 66, op := Go.Op.extract (Go.Operand.tmp 57) 0, type := 39, pos := _, after := _, guard := none }) (v := ?_) rfl (by kernel_rfl) (by kernel_rfl) (by kernel_rfl) (fun _ _ _ h => h) (Or.inl ⟨by rfl, ?_⟩) (by assumption) ?_; rotate_left; (intro w hSw; (try dsimp only at hSw); go_simp; try with_reducible rfl); try simp only [Act.put, List.setIfInBounds_toArray, List.set_cons_zero, List.set_cons_succ])
          (refine wpAnyH_take (i := 10) (oi := { dst := some 67, op := Go.Op.extract (Go.Operand.tmp 57) 1, type := 27, pos := _, after := _, guard := none }) (v := ?_) rfl (by kernel_rfl) (by kernel_rfl) (by kernel_rfl) (fun _ _ _ h => h) (Or.inl ⟨by rfl, ?_⟩) (by assumption) ?_; rotate_left; (intro w hSw; (try dsimp only at hSw); go_simp; try with_reducible rfl); try simp only [Act.put, List.setIfInBounds_toArray, List.set_cons_zero, List.set_cons_succ])
          (refine wpAnyH_take (i := 11) (oi := { dst := some 13, op := Go.Op.assign (Go.Operand.tmp 66), type := 39, pos := _, after := _, guard := none }) (v := ?_) rfl (by kernel_rfl) (by kernel_rfl) (by kernel_rfl) (fun _ _ _ h => h) (Or.inl ⟨by rfl, ?_⟩) (by assumption) ?_; rotate_left; (intro w hSw; (try dsimp only at hSw); go_simp; try with_reducible rfl); try simp only [Act.put, List.setIfInBounds_toArray, List.set_cons_zero, List.set_cons_succ])
          (refine wpAnyH_take (i := 12) (oi := { dst := some 14, op := Go.Op.assign (Go.Operand.tmp 67), type := 27, pos := _, after := _, guard := none }) (v := ?_) rfl (by kernel_rfl) (by kernel_rfl) (by kernel_rfl) (fun _ _ _ h => h) (Or.inl ⟨by rfl, ?_⟩) (by assumption) ?_; rotate_left; (intro w hSw; (try dsimp only at hSw); go_simp; try with_reducible rfl); try simp only [Act.put, List.setIfInBounds_toArray, List.set_cons_zero, List.set_cons_succ])
          refine wpAnyH_done (by kernel_rfl) ?_ _
          obtain ⟨kB, p0, p1, p2, p3⟩ := hHeld
          have HA5 := Lib.hid (HA4.out.keep kB (Nat.le_refl _))
          have HR5 := Lib.hid (HR4.out.keep kB (Nat.le_refl _))
          have HV5 := Lib.hid (HV4.out.keep kB (Nat.le_refl _))
          have k5 := below_trans k4 kB
          obtain ⟨ad, rfl, r0, r1, r2, r3, r4, r5, r6⟩ := RdC.at HA5.out kk hk0
          clear kB HA4 HR4 HV4 k4 hF7 hF hF' hn' hn8 r0 r3 r4 r5 r6
          generalize l[kk].kind = xk at *
          generalize l[kk].nn = xn at *
          go_wp2_with fail
          go_quiet (fail)
          go_wp2_with fail
          have hvs := fun n => values_same A4 A7 c4 c7 r _ (RdL.drewN HV5.out n) (RdL.drewN HR5.out n) (by rw [HRL.out]; omega)
          rw [HRL.out] at hvs
          refine (hvs _).mono ?_
          rintro e w8 ⟨rfl, b8⟩
          have k8 := below_trans (below_drewN k5 _) b8
          clear hvs b8 HV5 HR5
          go_wp2_with fail
          refine (row_wakes _).mono ?_
          rintro e w9 ⟨rfl, b9⟩
          go_wp2_with fail
          go_ret
          exact ⟨rfl, below_trans k8 b9⟩
      · go_simp
        refine hK.out _ _ ?_ (fun hHeld2 => ?_)
        · (go_split_ands; exact ⟨Below.trans (by assumption) (((Below.refl _ _).alloc (Nat.le_refl _) _).mono (Below.size (by assumption))), kc ((Below.refl _ _).alloc (Nat.le_refl _) _) (by assumption), kc ((Below.refl _ _).alloc (Nat.le_refl _) _) (by assumption), kc ((Below.refl _ _).alloc (Nat.le_refl _) _) (by assumption), kc ((Below.refl _ _).alloc (Nat.le_refl _) _) (by assumption)⟩)
        clear hK K hHeld
        have hHeld := hHeld2
        clear hHeld2
        try simp only [Act.put, List.setIfInBounds_toArray, List.set_cons_zero, List.set_cons_succ]
        refine wpAnyH_ready (rs := [1]) (by kernel_rfl) (by simp) ?_
        refine AllReadyH.cons (o := { dst := some 59, op := Go.Op.buildSlice 39 0 #[], type := 39, pos := _, after := _, guard := none }) rfl (fun K hK => ?_) AllReadyH.nil
        go_simp
        refine hK.out _ _ ?_ (fun hHeld2 => ?_)
        · (go_split_ands; exact ⟨Below.trans (by assumption) (((Below.refl _ _).alloc (Nat.le_refl _) _).mono (Below.size (by assumption))), kc ((Below.refl _ _).alloc (Nat.le_refl _) _) (by assumption), kc ((Below.refl _ _).alloc (Nat.le_refl _) _) (by assumption), kc ((Below.refl _ _).alloc (Nat.le_refl _) _) (by assumption), kc ((Below.refl _ _).alloc (Nat.le_refl _) _) (by assumption)⟩)
        clear hK K hHeld
        have hHeld := hHeld2
        clear hHeld2
        try simp only [Act.put, List.setIfInBounds_toArray, List.set_cons_zero, List.set_cons_succ]
        refine wpAnyH_ready (rs := [3]) (by kernel_rfl) (by simp) ?_
        refine AllReadyH.cons (o := { dst := some 61, op := Go.Op.call { callee := Go.Callee.builtin Go.Builtin.append, args := #[Go.Operand.tmp 59, Go.Operand.tmp 60], argTypes := #[39, 39] }, type := 39, pos := _, after := _, guard := none }) rfl (fun K hK => ?_) AllReadyH.nil
        rw [if_pos (by rfl)]
        refine wp_app_vals _ _ rfl w4.heap.size _ 0 [] rfl (Fresh.empty _ _ _ _ _) (Below.size (And.left hHeld)) A7 c7 r (by rw [HRL.out]; rfl) HN7.out (HR4.out.keep (And.left hHeld) (Nat.le_refl _)) (by rw [HRL.out]; omega) ?_
        intro v6 w6 hF b6' hb6
        rw [Nat.zero_add, List.nil_append] at hF
        have b6 := (hb6 ⟨_, rfl⟩).1
        have hF' := hF
        obtain ⟨A', c', rfl, hn'⟩ := hF.slice
        refine hK.out _ _ ?_ (fun hHeld2 => ?_)
        · (go_split_ands; exact ⟨Below.trans (by assumption) (b6.mono (Below.size (by assumption))), kc b6 (by assumption), kc b6 (by assumption), kc b6 (by assumption), kc b6 (by assumption)⟩)
        clear hK K hHeld
        have hHeld := hHeld2
        clear hHeld2
        try simp only [Act.put, List.setIfInBounds_toArray, List.set_cons_zero, List.set_cons_succ]
        refine wpAnyH_ready (rs := [6]) (by kernel_rfl) (by simp) ?_
        refine AllReadyH.cons (o := { dst := some 64, op := Go.Op.call { callee := Go.Callee.builtin Go.Builtin.append, args := #[Go.Operand.tmp 61, Go.Operand.tmp 63], argTypes := #[39, 39] }, type := 39, pos := _, after := _, guard := none }) rfl (fun K hK => ?_) AllReadyH.nil
        rw [if_pos (by rfl)]
        refine wp_app_vals _ _ rfl w4.heap.size _ r.length (r.flatMap Val.cells) rfl (by first | exact hF' | exact hF'.alloc _) (Below.size (And.left hHeld)) _ 1 [v] rfl (by simp) (by first | exact RdV.one _ v | exact (RdV.one _ v).keep b6 (Nat.le_refl _) | exact (RdV.dro _ v).keep b6 (Nat.le_refl _) | exact (RdV.dro2 _ _ v).keep b6 (Nat.le_refl _) | exact (RdV.dro3 _ _ v).keep b6 (Nat.le_refl _) | exact ((RdV.one _ v).keep ((Below.refl _ _).alloc (Nat.le_refl _) _) (Nat.le_refl _)).keep b6 (Nat.le_refl _)) (by rw [HRL.out]; simp; omega) ?_
        intro v7 w7 hF7 b7 _
        obtain ⟨A8, c8, rfl, hn8⟩ := hF7.slice
        refine hK.out _ _ ?_ (fun hHeld2 => ?_)
        · (go_split_ands; exact ⟨Below.trans (by assumption) b7, kd b7 (by simp; omega) (by assumption), kd b7 (by simp; omega) (by assumption), kd b7 (by simp; omega) (by assumption), kd b7 (by simp; omega) (by assumption)⟩)
        clear hK K hHeld
        have hHeld := hHeld2
        clear hHeld2
        try simp only [Act.put, List.setIfInBounds_toArray, List.set_cons_zero, List.set_cons_succ]
        refine wpAnyH_ready (rs := [7]) (by kernel_rfl) (by simp) ?_
        refine AllReadyH.cons (o := { dst := some 65, op := Go.Op.call { callee := Go.Callee.value (Go.Operand.func 52), args := #[Go.Operand.tmp 58, Go.Operand.tmp 64], argTypes := #[49, 39] }, type := 43, pos := _, after := _, guard := none }) rfl (fun K hK => ?_) AllReadyH.nil
        go_simp
        refine (fill_many A A8 c c8 l.length (r.length + [v].length) _ (by rw [HRL.out]; simp)).mono ?_
        rintro e w8 ⟨rfl, rfl⟩
        go_wp2_with fail
        refine hK.out _ _ ?_ (fun hHeld2 => ?_)
        · (exact hHeld)
        clear hK K hHeld
        have hHeld := hHeld2
        clear hHeld2
        try simp only [Act.put, List.setIfInBounds_toArray, List.set_cons_zero, List.set_cons_succ]
        (refine wpAnyH_take (i := 8) (oi := { dst := some 57, op := Go.Op.move (Go.Operand.tmp 65), type := 43, pos := _, after := _, guard := none }) (v := ?_) rfl (by kernel_rfl) (by kernel_rfl) (by kernel_rfl) (fun _ _ _ h => h) (Or.inl ⟨by rfl, ?_⟩) (by assumption) ?_; rotate_left; (intro w hSw; (try dsimp only at hSw); go_simp; try with_reducible rfl); try simp only [Act.put, List.setIfInBounds_toArray, List.set_cons_zero, List.set_cons_succ])
        (refine wpAnyH_take (i := 9) (oi := { dst := some 66, op := Go.Op.extract (Go.Operand.tmp 57) 0, type := 39, pos := _, after := _, guard := none }) (v := ?_) rfl (by kernel_rfl) (by kernel_rfl) (by kernel_rfl) (fun _ _ _ h => h) (Or.inl ⟨by rfl, ?_⟩) (by assumption) ?_; rotate_left; (intro w hSw; (try dsimp only at hSw); go_simp; try with_reducible rfl); try simp only [Act.put, List.setIfInBounds_toArray, List.set_cons_zero, List.set_cons_succ])
        (refine wpAnyH_take (i := 10) (oi := { dst := some 67, op := Go.Op.extract (Go.Operand.tmp 57) 1, type := 27, pos := _, after := _, guard := none }) (v := ?_) rfl (by kernel_rfl) (by kernel_rfl) (by kernel_rfl) (fun _ _ _ h => h) (Or.inl ⟨by rfl, ?_⟩) (by assumption) ?_; rotate_left; (intro w hSw; (try dsimp only at hSw); go_simp; try with_reducible rfl); try simp only [Act.put, List.setIfInBounds_toArray, List.set_cons_zero, List.set_cons_succ])
        (refine wpAnyH_take (i := 11) (oi := { dst := some 13, op := Go.Op.assign (Go.Operand.tmp 66), type := 39, pos := _, after := _, guard := none }) (v := ?_) rfl (by kernel_rfl) (by kernel_rfl) (by kernel_rfl) (fun _ _ _ h => h) (Or.inl ⟨by rfl, ?_⟩) (by assumption) ?_; rotate_left; (intro w hSw; (try dsimp only at hSw); go_simp; try with_reducible rfl); try simp only [Act.put, List.setIfInBounds_toArray, List.set_cons_zero, List.set_cons_succ])
        (refine wpAnyH_take (i := 12) (oi := { dst := some 14, op := Go.Op.assign (Go.Operand.tmp 67), type := 27, pos := _, after := _, guard := none }) (v := ?_) rfl (by kernel_rfl) (by kernel_rfl) (by kernel_rfl) (fun _ _ _ h => h) (Or.inl ⟨by rfl, ?_⟩) (by assumption) ?_; rotate_left; (intro w hSw; (try dsimp only at hSw); go_simp; try with_reducible rfl); try simp only [Act.put, List.setIfInBounds_toArray, List.set_cons_zero, List.set_cons_succ])
        refine wpAnyH_done (by kernel_rfl) ?_ _
        obtain ⟨kB, p0, p1, p2, p3⟩ := hHeld
        have HA5 := Lib.hid (HA4.out.keep kB (Nat.le_refl _))
        have HR5 := Lib.hid (HR4.out.keep kB (Nat.le_refl _))
        have HV5 := Lib.hid (HV4.out.keep kB (Nat.le_refl _))
        have k5 := below_trans k4 kB
        obtain ⟨ad, rfl, r0, r1, r2, r3, r4, r5, r6⟩ := RdC.at HA5.out kk hk0
        clear kB HA4 HR4 HV4 k4 hF7 hF hF' hn' hn8 r0 r3 r4 r5 r6
        generalize l[kk].kind = xk at *
        generalize l[kk].nn = xn at *
        go_wp2_with fail
        go_quiet (fail)
        go_wp2_with fail
        have hvs := fun n => values_same A4 A7 c4 c7 r _ (RdL.drewN HV5.out n) (RdL.drewN HR5.out n) (by rw [HRL.out]; omega)
        rw [HRL.out] at hvs
        refine (hvs _).mono ?_
        rintro e w8 ⟨rfl, b8⟩
        have k8 := below_trans (below_drewN k5 _) b8
        clear hvs b8 HV5 HR5
        go_wp2_with fail
        refine (row_wakes _).mono ?_
        rintro e w9 ⟨rfl, b9⟩
        go_wp2_with fail
        go_ret
        exact ⟨rfl, below_trans k8 b9⟩
set_option maxRecDepth 100000 in
set_option maxHeartbeats 4000000 in
theorem errors_D (A : Option Addr) (c : Nat) (l : List Col) (at' : Int) (v : Val) (w : World) (ha : RdC w A l) (hL : goodC l = true) (hX : goodV v.kind v.n v.f v.s = true) (kk : Nat) (hkk : modV at' l.length = kk) (hk0 : kk < l.length) (hk : v.kind ≠ 0) (hke : v.kind ≠ l[kk].kind) : Tells Try.prog 11 #[.slice A l.length c, .int .i64 at', vv v.kind v.n v.f v.s] w := by
  unfold Tells
  have hst := run_sf
  have h0 : Below w.heap.size w (w.alloc (.cells #[.int .i64 v.kind, .int .i64 v.n, .float .f64 v.f, .string v.s] 24)) := (Below.refl _ _).alloc (Nat.le_refl _) _
  have HX0 := Lib.hid (RdV.one w v)
  have HA0 := Lib.hid (ha.keep h0 (Nat.le_refl _))
  have hl := rgoodc_any A c l _ HA0.out
  rw [hL] at hl
  have HG := Lib.hid hX
  have HG2 := Lib.hid hL
  obtain ⟨hl1, hl6⟩ := goodC_len hL
  obtain ⟨i0, hi, hz0, hz1, hz2⟩ := info_parts info24
  have HK := Lib.hid hkk
  have hT : takesV l[kk].kind l[kk].nn v.kind v.n v.f v.s = 20 := by
    unfold takesV
    rw [if_neg (by rw [hX]; simp)]
    rw [if_neg hk, if_neg hke]
  have HT := Lib.hid hT
  have t0 : (v.kind == 0) = false := by rw [beq_eq_false_iff_ne]; exact hk
  have t00 : (v.kind != 0) = true := by rw [bne, t0]; rfl
  have t1 : (v.kind == l[kk].kind) = false := by rw [beq_eq_false_iff_ne]; exact hke
  have t11 : (v.kind != l[kk].kind) = true := by rw [bne, t1]; rfl
  clear hX hT hkk hk hke
  clear ha hL
  go_enter Try.func11, Try.ntmps11
  go_wp2_with fail
  refine hl.mono ?_
  rintro e w1 ⟨rfl, b1⟩
  have c1 := below_trans h0 b1
  have HX1 := Lib.hid (HX0.out.keep b1 (Nat.le_refl _))
  have HA1 := Lib.hid (HA0.out.keep b1 (Nat.le_refl _))
  clear h0 b1 HX0 HA0 hl
  obtain ⟨q0, q1, q2, q3⟩ := RdV.box HX1.out
  have hg := rgood_any v.kind v.n v.f v.s w1
  rw [HG.out] at hg
  go_wp2_with fail
  refine hg.mono ?_
  rintro e w2 ⟨rfl, b2⟩
  have c2 := below_trans c1 b2
  have HX2 := Lib.hid (HX1.out.keep b2 (Nat.le_refl _))
  have HA2 := Lib.hid (HA1.out.keep b2 (Nat.le_refl _))
  clear b2 c1 HX1 HA1 hg q0 q1 q2 q3
  go_wp2_with fail
  have hmod := mod_any at' l.length w2 hl1 (by omega)
  rw [HK.out] at hmod
  refine hmod.mono ?_
  rintro e w3 ⟨rfl, rfl⟩
  clear hmod
  have hlt0 : w.heap.size < w2.heap.size := World.block_lt_of_cell? _ _ (RdV.box HX2.out).1
  go_wp2_with fail
  go_loopw [7, 9] (fun r i wr => ∃ k : Nat, k ≤ l.length ∧ i = .int .i64 k ∧ Fresh wr w2.heap.size 24 4 r k (((rowE l kk v).take k).flatMap Val.cells) ∧ Below w2.heap.size w2 wr) (fun _ i _ => l.length - (intOf i).toNat)
  case atStart => exact ⟨0, by omega, rfl, Or.inl (World.ownsRow_nil _ _ _ _), Below.refl _ _⟩
  case round =>
    obtain ⟨k, hk, rfl, hF, hb⟩ := hrel
    obtain ⟨A7, c7, rfl, hn7⟩ := hF.slice
    by_cases hlt : k < l.length
    · obtain ⟨ad, rfl, q0, q1, q2, q3, q4, q5, q6⟩ := RdC.at (HA2.out.keep hb (Nat.le_refl _)) k hlt
      obtain ⟨p0, p1, p2, p3⟩ := RdV.box (HX2.out.keep hb (Nat.le_refl _))
      have hp := rowE_step l kk v k hlt
      have hblk : w.heap.size < wr.heap.size := World.block_lt_of_cell? _ _ p0
      clear q0 q2 q3 q4 q5 q6
      generalize l[k] = x at *
      by_cases hkk : k = kk
      · have t1 : ((k : Int) == (kk : Int)) = true := by rw [beq_iff_eq]; omega
        rw [if_pos hkk] at hp
        have Hp := Lib.hid hp
        clear hkk hp
        go_wp2_with (at_builtin; refine wl_app_vals rfl _ _ rfl w2.heap.size _ k _ rfl ((hF.alloc _).alloc _) (by have := hb.size; simp; omega) _ 1 [v] rfl (by simp) (RdV.uno2 _ _ _) (by simp; omega) ?_; intro v' w3' hF3 b3 _)
        rw [List.flatMap_cons, List.flatMap_nil, List.append_nil, ← Hp.out] at hF3
        have hb1 : Below w2.heap.size w2 w3' := ((hb.alloc hb.size _).alloc (by have := hb.size; simp; omega) _).trans b3
        go_wp2_with fail
        exact ⟨⟨k + 1, by omega, by go_num, hF3, hb1⟩, by simp [intOf]; omega⟩
      · have t1 : ((k : Int) == (kk : Int)) = false := by rw [beq_eq_false_iff_ne]; omega
        rw [if_neg hkk] at hp
        have Hp := Lib.hid hp
        clear hkk hp
        go_wp2_with (at_builtin; refine wl_app_vals rfl _ _ rfl w2.heap.size _ k _ rfl ((hF.alloc _).alloc _) (by have := hb.size; simp; omega) _ 1 [⟨x.kind, 0, 0, ⟨#[]⟩⟩] rfl (by simp) (RdV.uno2 _ _ _) (by simp; omega) ?_; intro v' w3' hF3 b3 _)
        rw [List.flatMap_cons, List.flatMap_nil, List.append_nil, ← Hp.out] at hF3
        have hb1 : Below w2.heap.size w2 w3' := ((hb.alloc hb.size _).alloc (by have := hb.size; simp; omega) _).trans b3
        go_wp2_with fail
        exact ⟨⟨k + 1, by omega, by go_num, hF3, hb1⟩, by simp [intOf]; omega⟩
    · obtain rfl : k = l.length := by omega
      have hall : (rowE l kk v).take l.length = rowE l kk v := List.take_of_length_le (by rw [rowE_len]; exact Nat.le_refl _)
      rw [hall] at hF
      have hrl := rowE_len l kk v
      have HR := Lib.hid (Fresh.rd (l := rowE l kk v) (c := c7) Val.cells_len (by decide) (by rw [hrl]; exact hF))
      have HN7 := Lib.hid hn7
      have HAr := Lib.hid (HA2.out.keep hb (Nat.le_refl _))
      have HXr := Lib.hid (HX2.out.keep hb (Nat.le_refl _))
      have cr := below_trans c2 hb
      have hltr : w.heap.size < wr.heap.size := Nat.lt_of_lt_of_le hlt0 hb.size
      have HE := Lib.hid ((rowE_fillE l kk v HG2.out hk0).trans HT.out)
      have HRL := Lib.hid hrl
      generalize rowE l kk v = r at *
      clear hall hF hn7 hb HA2 HX2 c2 hlt0 hrl
      go_wp2_with (at_builtin; refine wl_app_vals rfl _ _ rfl wr.heap.size _ 0 [] rfl (Fresh.empty _ _ _ _ _) (by simp) A7 c7 r (by rw [HRL.out]; rfl) HN7.out (HR.out.keep ((Below.refl _ _).alloc (Nat.le_refl _) _) (Nat.le_refl _)) (by rw [HRL.out]; omega) ?_; intro v3 w3 hF b3' _; rw [Nat.zero_add, List.nil_append] at hF; obtain ⟨A3, c3, rfl, hn3⟩ := hF.slice; have b3 : Below wr.heap.size wr w3 := ((Below.refl _ _).alloc (Nat.le_refl _) _).trans b3'; have HI3 := Lib.hid (Fresh.rd Val.cells_len (by decide) hF); have HA3 := Lib.hid (HAr.out.keep b3 (Nat.le_refl _)); have HX3 := Lib.hid (HXr.out.keep b3 (Nat.le_refl _)); have HR3 := Lib.hid (HR.out.keep b3 (Nat.le_refl _)); have k3 := below_trans cr b3; have hlt3 : w.heap.size < w3.heap.size := Nat.lt_of_lt_of_le hltr b3.size; clear b3 b3' cr HR HAr HXr hltr hF hn3)
      have hf := fill_any A A3 c c3 l r w3 HA3.out HI3.out (by omega)
      rw [HE.out] at hf
      refine hf.mono ?_
      rintro e w4 ⟨A4, c4, rfl, hf4, hn4, b4⟩
      have HV4 := Lib.hid hf4
      have HA4 := Lib.hid (HA3.out.keep b4 (Nat.le_refl _))
      have HX4 := Lib.hid (HX3.out.keep b4 (Nat.le_refl _))
      have HR4 := Lib.hid (HR3.out.keep b4 (Nat.le_refl _))
      have k4 := below_trans k3 b4
      have hlt4 : w.heap.size < w4.heap.size := Nat.lt_of_lt_of_le hlt3 b4.size
      generalize fillV l r = fv at *
      clear hf hf4 hn4 b4 k3 HA3 HX3 HR3 HI3 hlt3
      obtain ⟨p0, p1, p2, p3⟩ := RdV.box HX4.out
      go_wp2_with fail
      refine wp_region_held_drew (S := (fun w' => Below w4.heap.size w4 w' ∧ w'.cell? ⟨w.heap.size, 0, none⟩ = some (.int .i64 v.kind) ∧ w'.cell? ⟨w.heap.size, 1, none⟩ = some (.int .i64 v.n) ∧ w'.cell? ⟨w.heap.size, 2, none⟩ = some (.float .f64 v.f) ∧ w'.cell? ⟨w.heap.size, 3, none⟩ = some (.string v.s))) (by kernel_rfl) (⟨(Below.refl _ _).drew, p0, p1, p2, p3⟩) (fun hHeld => ?_)
      (refine wpAnyH_take (i := 0) (oi := { dst := some 58, op := Go.Op.move (Go.Operand.tmp 0), type := 49, pos := _, after := _, guard := none }) (v := ?_) rfl (by kernel_rfl) (by kernel_rfl) (by kernel_rfl) (fun _ _ _ h => h) (Or.inl ⟨by rfl, ?_⟩) (by assumption) ?_; rotate_left; (intro w hSw; (try dsimp only at hSw); go_simp; try with_reducible rfl); try simp only [Act.put, List.setIfInBounds_toArray, List.set_cons_zero, List.set_cons_succ])
      (refine wpAnyH_take (i := 2) (oi := { dst := some 60, op := Go.Op.move (Go.Operand.tmp 7), type := 39, pos := _, after := _, guard := none }) (v := ?_) rfl (by kernel_rfl) (by kernel_rfl) (by kernel_rfl) (fun _ _ _ h => h) (Or.inl ⟨by rfl, ?_⟩) (by assumption) ?_; rotate_left; (intro w hSw; (try dsimp only at hSw); go_simp; try with_reducible rfl); try simp only [Act.put, List.setIfInBounds_toArray, List.set_cons_zero, List.set_cons_succ])
      (refine wpAnyH_take (i := 4) (oi := { dst := some 62, op := Go.Op.load 24 (Go.Operand.tmp 5), type := 24, pos := _, after := _, guard := none }) (v := ?_) rfl (by kernel_rfl) (by kernel_rfl) (by kernel_rfl) (fun _ _ _ h => h) (Or.inl ⟨by rfl, ?_⟩) (by assumption) ?_; rotate_left; (intro w hSw; (try dsimp only at hSw); go_simp; try with_reducible rfl); try simp only [Act.put, List.setIfInBounds_toArray, List.set_cons_zero, List.set_cons_succ])
      refine wpAnyH_ready (rs := [1, 5]) (by kernel_rfl) (by simp) ?_
      refine (AllReadyH.cons (o := { dst := some 59, op := Go.Op.buildSlice 39 0 #[], type := 39, pos := _, after := _, guard := none }) rfl (fun K hK => ?_) (AllReadyH.cons (o := { dst := some 63, op := Go.Op.buildSlice 39 1 #[(0, Go.Operand.tmp 62)], type := 39, pos := _, after := _, guard := none }) rfl (fun K hK => ?_) AllReadyH.nil))
      · go_simp
        refine hK.out _ _ ?_ (fun hHeld2 => ?_)
        · (go_split_ands; exact ⟨Below.trans (by assumption) (((Below.refl _ _).alloc (Nat.le_refl _) _).mono (Below.size (by assumption))), kc ((Below.refl _ _).alloc (Nat.le_refl _) _) (by assumption), kc ((Below.refl _ _).alloc (Nat.le_refl _) _) (by assumption), kc ((Below.refl _ _).alloc (Nat.le_refl _) _) (by assumption), kc ((Below.refl _ _).alloc (Nat.le_refl _) _) (by assumption)⟩)
        clear hK K hHeld
        have hHeld := hHeld2
        clear hHeld2
        try simp only [Act.put, List.setIfInBounds_toArray, List.set_cons_zero, List.set_cons_succ]
        refine wpAnyH_ready (rs := [3, 5]) (by kernel_rfl) (by simp) ?_
        refine (AllReadyH.cons (o := { dst := some 61, op := Go.Op.call { callee := Go.Callee.builtin Go.Builtin.append, args := #[Go.Operand.tmp 59, Go.Operand.tmp 60], argTypes := #[39, 39] }, type := 39, pos := _, after := _, guard := none }) rfl (fun K hK => ?_) (AllReadyH.cons (o := { dst := some 63, op := Go.Op.buildSlice 39 1 #[(0, Go.Operand.tmp 62)], type := 39, pos := _, after := _, guard := none }) rfl (fun K hK => ?_) AllReadyH.nil))
        · rw [if_pos (by rfl)]
          refine wp_app_vals _ _ rfl w4.heap.size _ 0 [] rfl (Fresh.empty _ _ _ _ _) (Below.size (And.left hHeld)) A7 c7 r (by rw [HRL.out]; rfl) HN7.out (HR4.out.keep (And.left hHeld) (Nat.le_refl _)) (by rw [HRL.out]; omega) ?_
          intro v6 w6 hF b6' hb6
          rw [Nat.zero_add, List.nil_append] at hF
          have b6 := (hb6 ⟨_, rfl⟩).1
          have hF' := hF
          obtain ⟨A', c', rfl, hn'⟩ := hF.slice
          refine hK.out _ _ ?_ (fun hHeld2 => ?_)
          · (go_split_ands; exact ⟨Below.trans (by assumption) (b6.mono (Below.size (by assumption))), kc b6 (by assumption), kc b6 (by assumption), kc b6 (by assumption), kc b6 (by assumption)⟩)
          clear hK K hHeld
          have hHeld := hHeld2
          clear hHeld2
          try simp only [Act.put, List.setIfInBounds_toArray, List.set_cons_zero, List.set_cons_succ]
          refine wpAnyH_ready (rs := [5]) (by kernel_rfl) (by simp) ?_
          refine AllReadyH.cons (o := { dst := some 63, op := Go.Op.buildSlice 39 1 #[(0, Go.Operand.tmp 62)], type := 39, pos := _, after := _, guard := none }) rfl (fun K hK => ?_) AllReadyH.nil
          go_simp
          refine hK.out _ _ ?_ (fun hHeld2 => ?_)
          · (go_split_ands; exact ⟨Below.trans (by assumption) (((Below.refl _ _).alloc (Nat.le_refl _) _).mono (Below.size (by assumption))), kc ((Below.refl _ _).alloc (Nat.le_refl _) _) (by assumption), kc ((Below.refl _ _).alloc (Nat.le_refl _) _) (by assumption), kc ((Below.refl _ _).alloc (Nat.le_refl _) _) (by assumption), kc ((Below.refl _ _).alloc (Nat.le_refl _) _) (by assumption)⟩)
          clear hK K hHeld
          have hHeld := hHeld2
          clear hHeld2
          try simp only [Act.put, List.setIfInBounds_toArray, List.set_cons_zero, List.set_cons_succ]
          refine wpAnyH_ready (rs := [6]) (by kernel_rfl) (by simp) ?_
          refine AllReadyH.cons (o := { dst := some 64, op := Go.Op.call { callee := Go.Callee.builtin Go.Builtin.append, args := #[Go.Operand.tmp 61, Go.Operand.tmp 63], argTypes := #[39, 39] }, type := 39, pos := _, after := _, guard := none }) rfl (fun K hK => ?_) AllReadyH.nil
          rw [if_pos (by rfl)]
          refine wp_app_vals _ _ rfl w4.heap.size _ r.length (r.flatMap Val.cells) rfl (by first | exact hF' | exact hF'.alloc _) (Below.size (And.left hHeld)) _ 1 [v] rfl (by simp) (by first | exact RdV.one _ v | exact (RdV.one _ v).keep b6 (Nat.le_refl _) | exact (RdV.dro _ v).keep b6 (Nat.le_refl _) | exact (RdV.dro2 _ _ v).keep b6 (Nat.le_refl _) | exact (RdV.dro3 _ _ v).keep b6 (Nat.le_refl _) | exact ((RdV.one _ v).keep ((Below.refl _ _).alloc (Nat.le_refl _) _) (Nat.le_refl _)).keep b6 (Nat.le_refl _)) (by rw [HRL.out]; simp; omega) ?_
          intro v7 w7 hF7 b7 _
          obtain ⟨A8, c8, rfl, hn8⟩ := hF7.slice
          refine hK.out _ _ ?_ (fun hHeld2 => ?_)
          · (go_split_ands; exact ⟨Below.trans (by assumption) b7, kd b7 (by simp; omega) (by assumption), kd b7 (by simp; omega) (by assumption), kd b7 (by simp; omega) (by assumption), kd b7 (by simp; omega) (by assumption)⟩)
          clear hK K hHeld
          have hHeld := hHeld2
          clear hHeld2
          try simp only [Act.put, List.setIfInBounds_toArray, List.set_cons_zero, List.set_cons_succ]
          refine wpAnyH_ready (rs := [7]) (by kernel_rfl) (by simp) ?_
          refine AllReadyH.cons (o := { dst := some 65, op := Go.Op.call { callee := Go.Callee.value (Go.Operand.func 52), args := #[Go.Operand.tmp 58, Go.Operand.tmp 64], argTypes := #[49, 39] }, type := 43, pos := _, after := _, guard := none }) rfl (fun K hK => ?_) AllReadyH.nil
          go_simp
          refine (fill_many A A8 c c8 l.length (r.length + [v].length) _ (by rw [HRL.out]; simp)).mono ?_
          rintro e w8 ⟨rfl, rfl⟩
          go_wp2_with fail
          refine hK.out _ _ ?_ (fun hHeld2 => ?_)
          · (exact hHeld)
          clear hK K hHeld
          have hHeld := hHeld2
          clear hHeld2
          try simp only [Act.put, List.setIfInBounds_toArray, List.set_cons_zero, List.set_cons_succ]
          (refine wpAnyH_take (i := 8) (oi := { dst := some 57, op := Go.Op.move (Go.Operand.tmp 65), type := 43, pos := _, after := _, guard := none }) (v := ?_) rfl (by kernel_rfl) (by kernel_rfl) (by kernel_rfl) (fun _ _ _ h => h) (Or.inl ⟨by rfl, ?_⟩) (by assumption) ?_; rotate_left; (intro w hSw; (try dsimp only at hSw); go_simp; try with_reducible rfl); try simp only [Act.put, List.setIfInBounds_toArray, List.set_cons_zero, List.set_cons_succ])
          (refine wpAnyH_take (i := 9) (oi := { dst := some 66, op := Go.Op.extract (Go.Operand.tmp 57) 0, type := 39, pos := _, after := _, guard := none }) (v := ?_) rfl (by kernel_rfl) (by kernel_rfl) (by kernel_rfl) (fun _ _ _ h => h) (Or.inl ⟨by rfl, ?_⟩) (by assumption) ?_; rotate_left; (intro w hSw; (try dsimp only at hSw); go_simp; try with_reducible rfl); try simp only [Act.put, List.setIfInBounds_toArray, List.set_cons_zero, List.set_cons_succ])
          (refine wpAnyH_take (i := 10) (oi := { dst := some 67, op := Go.Op.extract (Go.Operand.tmp 57) 1, type := 27, pos := _, after := _, guard := none }) (v := ?_) rfl (by kernel_rfl) (by kernel_rfl) (by kernel_rfl) (fun _ _ _ h => h) (Or.inl ⟨by rfl, ?_⟩) (by assumption) ?_; rotate_left; (intro w hSw; (try dsimp only at hSw); go_simp; try with_reducible rfl); try simp only [Act.put, List.setIfInBounds_toArray, List.set_cons_zero, List.set_cons_succ])
          (refine wpAnyH_take (i := 11) (oi := { dst := some 13, op := Go.Op.assign (Go.Operand.tmp 66), type := 39, pos := _, after := _, guard := none }) (v := ?_) rfl (by kernel_rfl) (by kernel_rfl) (by kernel_rfl) (fun _ _ _ h => h) (Or.inl ⟨by rfl, ?_⟩) (by assumption) ?_; rotate_left; (intro w hSw; (try dsimp only at hSw); go_simp; try with_reducible rfl); try simp only [Act.put, List.setIfInBounds_toArray, List.set_cons_zero, List.set_cons_succ])
          (refine wpAnyH_take (i := 12) (oi := { dst := some 14, op := Go.Op.assign (Go.Operand.tmp 67), type := 27, pos := _, after := _, guard := none }) (v := ?_) rfl (by kernel_rfl) (by kernel_rfl) (by kernel_rfl) (fun _ _ _ h => h) (Or.inl ⟨by rfl, ?_⟩) (by assumption) ?_; rotate_left; (intro w hSw; (try dsimp only at hSw); go_simp; try with_reducible rfl); try simp only [Act.put, List.setIfInBounds_toArray, List.set_cons_zero, List.set_cons_succ])
          refine wpAnyH_done (by kernel_rfl) ?_ _
          obtain ⟨kB, p0, p1, p2, p3⟩ := hHeld
          have HA5 := Lib.hid (HA4.out.keep kB (Nat.le_refl _))
          have HR5 := Lib.hid (HR4.out.keep kB (Nat.le_refl _))
          have HV5 := Lib.hid (HV4.out.keep kB (Nat.le_refl _))
          have k5 := below_trans k4 kB
          obtain ⟨ad, rfl, r0, r1, r2, r3, r4, r5, r6⟩ := RdC.at HA5.out kk hk0
          clear kB HA4 HR4 HV4 k4 hF7 hF hF' hn' hn8 r0 r3 r4 r5 r6
          generalize l[kk].kind = xk at *
          generalize l[kk].nn = xn at *
          go_wp2_with fail
          go_quiet (fail)
          go_wp2_with fail
          refine (row_wakes _).mono ?_
          rintro e w9 ⟨rfl, b9⟩
          go_wp2_with fail
          go_ret
          exact ⟨rfl, below_trans (below_drewN k5 _) b9⟩
        · go_simp
          refine hK.out _ _ ?_ (fun hHeld2 => ?_)
          · (go_split_ands; exact ⟨Below.trans (by assumption) (((Below.refl _ _).alloc (Nat.le_refl _) _).mono (Below.size (by assumption))), kc ((Below.refl _ _).alloc (Nat.le_refl _) _) (by assumption), kc ((Below.refl _ _).alloc (Nat.le_refl _) _) (by assumption), kc ((Below.refl _ _).alloc (Nat.le_refl _) _) (by assumption), kc ((Below.refl _ _).alloc (Nat.le_refl _) _) (by assumption)⟩)
          clear hK K hHeld
          have hHeld := hHeld2
          clear hHeld2
          try simp only [Act.put, List.setIfInBounds_toArray, List.set_cons_zero, List.set_cons_succ]
          refine wpAnyH_ready (rs := [3]) (by kernel_rfl) (by simp) ?_
          refine AllReadyH.cons (o := { dst := some 61, op := Go.Op.call { callee := Go.Callee.builtin Go.Builtin.append, args := #[Go.Operand.tmp 59, Go.Operand.tmp 60], argTypes := #[39, 39] }, type := 39, pos := _, after := _, guard := none }) rfl (fun K hK => ?_) AllReadyH.nil
          rw [if_pos (by rfl)]
          refine wp_app_vals _ _ rfl w4.heap.size _ 0 [] rfl (Fresh.empty _ _ _ _ _) (Below.size (And.left hHeld)) A7 c7 r (by rw [HRL.out]; rfl) HN7.out (HR4.out.keep (And.left hHeld) (Nat.le_refl _)) (by rw [HRL.out]; omega) ?_
          intro v6 w6 hF b6' hb6
          rw [Nat.zero_add, List.nil_append] at hF
          have b6 := (hb6 ⟨_, rfl⟩).1
          have hF' := hF
          obtain ⟨A', c', rfl, hn'⟩ := hF.slice
          refine hK.out _ _ ?_ (fun hHeld2 => ?_)
          · (go_split_ands; exact ⟨Below.trans (by assumption) (b6.mono (Below.size (by assumption))), kc b6 (by assumption), kc b6 (by assumption), kc b6 (by assumption), kc b6 (by assumption)⟩)
          clear hK K hHeld
          have hHeld := hHeld2
          clear hHeld2
          try simp only [Act.put, List.setIfInBounds_toArray, List.set_cons_zero, List.set_cons_succ]
          refine wpAnyH_ready (rs := [6]) (by kernel_rfl) (by simp) ?_
          refine AllReadyH.cons (o := { dst := some 64, op := Go.Op.call { callee := Go.Callee.builtin Go.Builtin.append, args := #[Go.Operand.tmp 61, Go.Operand.tmp 63], argTypes := #[39, 39] }, type := 39, pos := _, after := _, guard := none }) rfl (fun K hK => ?_) AllReadyH.nil
          rw [if_pos (by rfl)]
          refine wp_app_vals _ _ rfl w4.heap.size _ r.length (r.flatMap Val.cells) rfl (by first | exact hF' | exact hF'.alloc _) (Below.size (And.left hHeld)) _ 1 [v] rfl (by simp) (by first | exact RdV.one _ v | exact (RdV.one _ v).keep b6 (Nat.le_refl _) | exact (RdV.dro _ v).keep b6 (Nat.le_refl _) | exact (RdV.dro2 _ _ v).keep b6 (Nat.le_refl _) | exact (RdV.dro3 _ _ v).keep b6 (Nat.le_refl _) | exact ((RdV.one _ v).keep ((Below.refl _ _).alloc (Nat.le_refl _) _) (Nat.le_refl _)).keep b6 (Nat.le_refl _)) (by rw [HRL.out]; simp; omega) ?_
          intro v7 w7 hF7 b7 _
          obtain ⟨A8, c8, rfl, hn8⟩ := hF7.slice
          refine hK.out _ _ ?_ (fun hHeld2 => ?_)
          · (go_split_ands; exact ⟨Below.trans (by assumption) b7, kd b7 (by simp; omega) (by assumption), kd b7 (by simp; omega) (by assumption), kd b7 (by simp; omega) (by assumption), kd b7 (by simp; omega) (by assumption)⟩)
          clear hK K hHeld
          have hHeld := hHeld2
          clear hHeld2
          try simp only [Act.put, List.setIfInBounds_toArray, List.set_cons_zero, List.set_cons_succ]
          refine wpAnyH_ready (rs := [7]) (by kernel_rfl) (by simp) ?_
          refine AllReadyH.cons (o := { dst := some 65, op := Go.Op.call { callee := Go.Callee.value (Go.Operand.func 52), args := #[Go.Operand.tmp 58, Go.Operand.tmp 64], argTypes := #[49, 39] }, type := 43, pos := _, after := _, guard := none }) rfl (fun K hK => ?_) AllReadyH.nil
          go_simp
          refine (fill_many A A8 c c8 l.length (r.length + [v].length) _ (by rw [HRL.out]; simp)).mono ?_
          rintro e w8 ⟨rfl, rfl⟩
          go_wp2_with fail
          refine hK.out _ _ ?_ (fun hHeld2 => ?_)
          · (exact hHeld)
          clear hK K hHeld
          have hHeld := hHeld2
          clear hHeld2
          try simp only [Act.put, List.setIfInBounds_toArray, List.set_cons_zero, List.set_cons_succ]
          (refine wpAnyH_take (i := 8) (oi := { dst := some 57, op := Go.Op.move (Go.Operand.tmp 65), type := 43, pos := _, after := _, guard := none }) (v := ?_) rfl (by kernel_rfl) (by kernel_rfl) (by kernel_rfl) (fun _ _ _ h => h) (Or.inl ⟨by rfl, ?_⟩) (by assumption) ?_; rotate_left; (intro w hSw; (try dsimp only at hSw); go_simp; try with_reducible rfl); try simp only [Act.put, List.setIfInBounds_toArray, List.set_cons_zero, List.set_cons_succ])
          (refine wpAnyH_take (i := 9) (oi := { dst := some 66, op := Go.Op.extract (Go.Operand.tmp 57) 0, type := 39, pos := _, after := _, guard := none }) (v := ?_) rfl (by kernel_rfl) (by kernel_rfl) (by kernel_rfl) (fun _ _ _ h => h) (Or.inl ⟨by rfl, ?_⟩) (by assumption) ?_; rotate_left; (intro w hSw; (try dsimp only at hSw); go_simp; try with_reducible rfl); try simp only [Act.put, List.setIfInBounds_toArray, List.set_cons_zero, List.set_cons_succ])
          (refine wpAnyH_take (i := 10) (oi := { dst := some 67, op := Go.Op.extract (Go.Operand.tmp 57) 1, type := 27, pos := _, after := _, guard := none }) (v := ?_) rfl (by kernel_rfl) (by kernel_rfl) (by kernel_rfl) (fun _ _ _ h => h) (Or.inl ⟨by rfl, ?_⟩) (by assumption) ?_; rotate_left; (intro w hSw; (try dsimp only at hSw); go_simp; try with_reducible rfl); try simp only [Act.put, List.setIfInBounds_toArray, List.set_cons_zero, List.set_cons_succ])
          (refine wpAnyH_take (i := 11) (oi := { dst := some 13, op := Go.Op.assign (Go.Operand.tmp 66), type := 39, pos := _, after := _, guard := none }) (v := ?_) rfl (by kernel_rfl) (by kernel_rfl) (by kernel_rfl) (fun _ _ _ h => h) (Or.inl ⟨by rfl, ?_⟩) (by assumption) ?_; rotate_left; (intro w hSw; (try dsimp only at hSw); go_simp; try with_reducible rfl); try simp only [Act.put, List.setIfInBounds_toArray, List.set_cons_zero, List.set_cons_succ])
          (refine wpAnyH_take (i := 12) (oi := { dst := some 14, op := Go.Op.assign (Go.Operand.tmp 67), type := 27, pos := _, after := _, guard := none }) (v := ?_) rfl (by kernel_rfl) (by kernel_rfl) (by kernel_rfl) (fun _ _ _ h => h) (Or.inl ⟨by rfl, ?_⟩) (by assumption) ?_; rotate_left; (intro w hSw; (try dsimp only at hSw); go_simp; try with_reducible rfl); try simp only [Act.put, List.setIfInBounds_toArray, List.set_cons_zero, List.set_cons_succ])
          refine wpAnyH_done (by kernel_rfl) ?_ _
          obtain ⟨kB, p0, p1, p2, p3⟩ := hHeld
          have HA5 := Lib.hid (HA4.out.keep kB (Nat.le_refl _))
          have HR5 := Lib.hid (HR4.out.keep kB (Nat.le_refl _))
          have HV5 := Lib.hid (HV4.out.keep kB (Nat.le_refl _))
          have k5 := below_trans k4 kB
          obtain ⟨ad, rfl, r0, r1, r2, r3, r4, r5, r6⟩ := RdC.at HA5.out kk hk0
          clear kB HA4 HR4 HV4 k4 hF7 hF hF' hn' hn8 r0 r3 r4 r5 r6
          generalize l[kk].kind = xk at *
          generalize l[kk].nn = xn at *
          go_wp2_with fail
          go_quiet (fail)
          go_wp2_with fail
          refine (row_wakes _).mono ?_
          rintro e w9 ⟨rfl, b9⟩
          go_wp2_with fail
          go_ret
          exact ⟨rfl, below_trans (below_drewN k5 _) b9⟩
      · go_simp
        refine hK.out _ _ ?_ (fun hHeld2 => ?_)
        · (go_split_ands; exact ⟨Below.trans (by assumption) (((Below.refl _ _).alloc (Nat.le_refl _) _).mono (Below.size (by assumption))), kc ((Below.refl _ _).alloc (Nat.le_refl _) _) (by assumption), kc ((Below.refl _ _).alloc (Nat.le_refl _) _) (by assumption), kc ((Below.refl _ _).alloc (Nat.le_refl _) _) (by assumption), kc ((Below.refl _ _).alloc (Nat.le_refl _) _) (by assumption)⟩)
        clear hK K hHeld
        have hHeld := hHeld2
        clear hHeld2
        try simp only [Act.put, List.setIfInBounds_toArray, List.set_cons_zero, List.set_cons_succ]
        refine wpAnyH_ready (rs := [1]) (by kernel_rfl) (by simp) ?_
        refine AllReadyH.cons (o := { dst := some 59, op := Go.Op.buildSlice 39 0 #[], type := 39, pos := _, after := _, guard := none }) rfl (fun K hK => ?_) AllReadyH.nil
        go_simp
        refine hK.out _ _ ?_ (fun hHeld2 => ?_)
        · (go_split_ands; exact ⟨Below.trans (by assumption) (((Below.refl _ _).alloc (Nat.le_refl _) _).mono (Below.size (by assumption))), kc ((Below.refl _ _).alloc (Nat.le_refl _) _) (by assumption), kc ((Below.refl _ _).alloc (Nat.le_refl _) _) (by assumption), kc ((Below.refl _ _).alloc (Nat.le_refl _) _) (by assumption), kc ((Below.refl _ _).alloc (Nat.le_refl _) _) (by assumption)⟩)
        clear hK K hHeld
        have hHeld := hHeld2
        clear hHeld2
        try simp only [Act.put, List.setIfInBounds_toArray, List.set_cons_zero, List.set_cons_succ]
        refine wpAnyH_ready (rs := [3]) (by kernel_rfl) (by simp) ?_
        refine AllReadyH.cons (o := { dst := some 61, op := Go.Op.call { callee := Go.Callee.builtin Go.Builtin.append, args := #[Go.Operand.tmp 59, Go.Operand.tmp 60], argTypes := #[39, 39] }, type := 39, pos := _, after := _, guard := none }) rfl (fun K hK => ?_) AllReadyH.nil
        rw [if_pos (by rfl)]
        refine wp_app_vals _ _ rfl w4.heap.size _ 0 [] rfl (Fresh.empty _ _ _ _ _) (Below.size (And.left hHeld)) A7 c7 r (by rw [HRL.out]; rfl) HN7.out (HR4.out.keep (And.left hHeld) (Nat.le_refl _)) (by rw [HRL.out]; omega) ?_
        intro v6 w6 hF b6' hb6
        rw [Nat.zero_add, List.nil_append] at hF
        have b6 := (hb6 ⟨_, rfl⟩).1
        have hF' := hF
        obtain ⟨A', c', rfl, hn'⟩ := hF.slice
        refine hK.out _ _ ?_ (fun hHeld2 => ?_)
        · (go_split_ands; exact ⟨Below.trans (by assumption) (b6.mono (Below.size (by assumption))), kc b6 (by assumption), kc b6 (by assumption), kc b6 (by assumption), kc b6 (by assumption)⟩)
        clear hK K hHeld
        have hHeld := hHeld2
        clear hHeld2
        try simp only [Act.put, List.setIfInBounds_toArray, List.set_cons_zero, List.set_cons_succ]
        refine wpAnyH_ready (rs := [6]) (by kernel_rfl) (by simp) ?_
        refine AllReadyH.cons (o := { dst := some 64, op := Go.Op.call { callee := Go.Callee.builtin Go.Builtin.append, args := #[Go.Operand.tmp 61, Go.Operand.tmp 63], argTypes := #[39, 39] }, type := 39, pos := _, after := _, guard := none }) rfl (fun K hK => ?_) AllReadyH.nil
        rw [if_pos (by rfl)]
        refine wp_app_vals _ _ rfl w4.heap.size _ r.length (r.flatMap Val.cells) rfl (by first | exact hF' | exact hF'.alloc _) (Below.size (And.left hHeld)) _ 1 [v] rfl (by simp) (by first | exact RdV.one _ v | exact (RdV.one _ v).keep b6 (Nat.le_refl _) | exact (RdV.dro _ v).keep b6 (Nat.le_refl _) | exact (RdV.dro2 _ _ v).keep b6 (Nat.le_refl _) | exact (RdV.dro3 _ _ v).keep b6 (Nat.le_refl _) | exact ((RdV.one _ v).keep ((Below.refl _ _).alloc (Nat.le_refl _) _) (Nat.le_refl _)).keep b6 (Nat.le_refl _)) (by rw [HRL.out]; simp; omega) ?_
        intro v7 w7 hF7 b7 _
        obtain ⟨A8, c8, rfl, hn8⟩ := hF7.slice
        refine hK.out _ _ ?_ (fun hHeld2 => ?_)
        · (go_split_ands; exact ⟨Below.trans (by assumption) b7, kd b7 (by simp; omega) (by assumption), kd b7 (by simp; omega) (by assumption), kd b7 (by simp; omega) (by assumption), kd b7 (by simp; omega) (by assumption)⟩)
        clear hK K hHeld
        have hHeld := hHeld2
        clear hHeld2
        try simp only [Act.put, List.setIfInBounds_toArray, List.set_cons_zero, List.set_cons_succ]
        refine wpAnyH_ready (rs := [7]) (by kernel_rfl) (by simp) ?_
        refine AllReadyH.cons (o := { dst := some 65, op := Go.Op.call { callee := Go.Callee.value (Go.Operand.func 52), args := #[Go.Operand.tmp 58, Go.Operand.tmp 64], argTypes := #[49, 39] }, type := 43, pos := _, after := _, guard := none }) rfl (fun K hK => ?_) AllReadyH.nil
        go_simp
        refine (fill_many A A8 c c8 l.length (r.length + [v].length) _ (by rw [HRL.out]; simp)).mono ?_
        rintro e w8 ⟨rfl, rfl⟩
        go_wp2_with fail
        refine hK.out _ _ ?_ (fun hHeld2 => ?_)
        · (exact hHeld)
        clear hK K hHeld
        have hHeld := hHeld2
        clear hHeld2
        try simp only [Act.put, List.setIfInBounds_toArray, List.set_cons_zero, List.set_cons_succ]
        (refine wpAnyH_take (i := 8) (oi := { dst := some 57, op := Go.Op.move (Go.Operand.tmp 65), type := 43, pos := _, after := _, guard := none }) (v := ?_) rfl (by kernel_rfl) (by kernel_rfl) (by kernel_rfl) (fun _ _ _ h => h) (Or.inl ⟨by rfl, ?_⟩) (by assumption) ?_; rotate_left; (intro w hSw; (try dsimp only at hSw); go_simp; try with_reducible rfl); try simp only [Act.put, List.setIfInBounds_toArray, List.set_cons_zero, List.set_cons_succ])
        (refine wpAnyH_take (i := 9) (oi := { dst := some 66, op := Go.Op.extract (Go.Operand.tmp 57) 0, type := 39, pos := _, after := _, guard := none }) (v := ?_) rfl (by kernel_rfl) (by kernel_rfl) (by kernel_rfl) (fun _ _ _ h => h) (Or.inl ⟨by rfl, ?_⟩) (by assumption) ?_; rotate_left; (intro w hSw; (try dsimp only at hSw); go_simp; try with_reducible rfl); try simp only [Act.put, List.setIfInBounds_toArray, List.set_cons_zero, List.set_cons_succ])
        (refine wpAnyH_take (i := 10) (oi := { dst := some 67, op := Go.Op.extract (Go.Operand.tmp 57) 1, type := 27, pos := _, after := _, guard := none }) (v := ?_) rfl (by kernel_rfl) (by kernel_rfl) (by kernel_rfl) (fun _ _ _ h => h) (Or.inl ⟨by rfl, ?_⟩) (by assumption) ?_; rotate_left; (intro w hSw; (try dsimp only at hSw); go_simp; try with_reducible rfl); try simp only [Act.put, List.setIfInBounds_toArray, List.set_cons_zero, List.set_cons_succ])
        (refine wpAnyH_take (i := 11) (oi := { dst := some 13, op := Go.Op.assign (Go.Operand.tmp 66), type := 39, pos := _, after := _, guard := none }) (v := ?_) rfl (by kernel_rfl) (by kernel_rfl) (by kernel_rfl) (fun _ _ _ h => h) (Or.inl ⟨by rfl, ?_⟩) (by assumption) ?_; rotate_left; (intro w hSw; (try dsimp only at hSw); go_simp; try with_reducible rfl); try simp only [Act.put, List.setIfInBounds_toArray, List.set_cons_zero, List.set_cons_succ])
        (refine wpAnyH_take (i := 12) (oi := { dst := some 14, op := Go.Op.assign (Go.Operand.tmp 67), type := 27, pos := _, after := _, guard := none }) (v := ?_) rfl (by kernel_rfl) (by kernel_rfl) (by kernel_rfl) (fun _ _ _ h => h) (Or.inl ⟨by rfl, ?_⟩) (by assumption) ?_; rotate_left; (intro w hSw; (try dsimp only at hSw); go_simp; try with_reducible rfl); try simp only [Act.put, List.setIfInBounds_toArray, List.set_cons_zero, List.set_cons_succ])
        refine wpAnyH_done (by kernel_rfl) ?_ _
        obtain ⟨kB, p0, p1, p2, p3⟩ := hHeld
        have HA5 := Lib.hid (HA4.out.keep kB (Nat.le_refl _))
        have HR5 := Lib.hid (HR4.out.keep kB (Nat.le_refl _))
        have HV5 := Lib.hid (HV4.out.keep kB (Nat.le_refl _))
        have k5 := below_trans k4 kB
        obtain ⟨ad, rfl, r0, r1, r2, r3, r4, r5, r6⟩ := RdC.at HA5.out kk hk0
        clear kB HA4 HR4 HV4 k4 hF7 hF hF' hn' hn8 r0 r3 r4 r5 r6
        generalize l[kk].kind = xk at *
        generalize l[kk].nn = xn at *
        go_wp2_with fail
        go_quiet (fail)
        go_wp2_with fail
        refine (row_wakes _).mono ?_
        rintro e w9 ⟨rfl, b9⟩
        go_wp2_with fail
        go_ret
        exact ⟨rfl, below_trans (below_drewN k5 _) b9⟩
end Go.Proofs.Ytmgpecomgffelaa
