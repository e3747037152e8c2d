/- Contract of the reference: Fill. -/
import Derived.Test.YtmgpecomgffelaaRowK
import Derived.Test.YtmgpecomgffelaaCopy
import Derived.Deep.RegionHeld3
namespace Go.Proofs.Ytmgpecomgffelaa
open Go.RowKit
set_option linter.unusedVariables false
theorem rfill_many (A B : Option Addr) (c d m n : Nat) (w : World) (h : m < n) : Calls Try.prog 53 #[.slice A m c, .slice B n d] w fun e w' => e = .returned (.tuple #[.slice none 0 0, .int .i64 22]) ∧ w = w' := by
  have ht : decide ((m : Int) < (n : Int)) = true := by rw [decide_eq_true]; omega
  go_enter Try.func53, Try.ntmps53
  go_wp2_with fail
  go_ret2
  exact ⟨rfl, rfl⟩

set_option maxRecDepth 100000 in
set_option maxHeartbeats 2000000 in
theorem rfill_ok (A B : Option Addr) (c d : Nat) (l : List Col) (r : List Val) (w : World) (ha : RdC w A l) (hb : RdV w B r) (hl : l.length ≤ 1000) (hr : r.length ≤ l.length) (hok : ∀ j, j < l.length → tkAt l r j = 0) :
    Calls Try.prog 53 #[.slice A l.length c, .slice B r.length d] w fun e w' => ∃ A' c', e = .returned (.tuple #[.slice A' l.length c', .int .i64 0]) ∧ RdV w' A' (padV l r) ∧ (A' = none → c' = 0) ∧ Below w.heap.size w w' := by
  have ht : decide ((l.length : Int) < (r.length : Int)) = false := by rw [decide_eq_false]; omega
  have hst := run_sf
  have HA := Lib.hid ha
  have HP := Lib.hid (rpad_any A B c d l r w ha hb hl)
  have HT := Lib.hid rtakes_any
  clear ha hb
  go_enter Try.func53, Try.ntmps53
  go_wp2_with fail
  refine HP.out.mono ?_
  rintro e w1 ⟨A', c', rfl, hp, hpn, hb1⟩
  have HV := Lib.hid hp
  have HA1 := Lib.hid (HA.out.keep hb1 (Nat.le_refl _))
  have HN := Lib.hid hpn
  clear hp HP hpn
  go_wp2_with fail
  go_loopw [7] (fun i wr => ∃ k : Nat, k ≤ l.length ∧ i = .int .i64 k ∧ Below w1.heap.size w1 wr) (fun i _ => l.length - (intOf i).toNat)
  case atStart => exact ⟨0, by omega, rfl, Below.refl _ _⟩
  case round =>
    obtain ⟨k, hk, rfl, hbr⟩ := hrel
    by_cases hlt : k < l.length
    · have hkl : k < l.length := by omega
      obtain ⟨ad, rfl, q0, q1, q2, q3, q4, q5, q6⟩ := RdC.at (HA1.out.keep hbr (Nat.le_refl _)) k hkl
      obtain ⟨ad2, rfl, r0, r1, r2, r3⟩ := RdV.at (HV.out.keep hbr (Nat.le_refl _)) k (by rw [padV_len]; exact hkl)
      have hblk : (ad2.add (k * 4)).block < wr.heap.size := World.block_lt_of_cell? _ _ r0
      have hpa := padV_at l r k hkl
      rw [hpa] at r0 r1 r2 r3
      have hcall := HT.out l[k].name l[k].kind l[k].nn l[k].d.kind l[k].d.n l[k].d.f l[k].d.s (r.getD k l[k].d).kind (r.getD k l[k].d).n (r.getD k l[k].d).f (r.getD k l[k].d).s
      have h0 : takesV l[k].kind l[k].nn (r.getD k l[k].d).kind (r.getD k l[k].d).n (r.getD k l[k].d).f (r.getD k l[k].d).s = 0 := (tkAt_eq l r k hkl).symm.trans (hok k hlt)
      rw [h0] at hcall
      have hw1 : IntKind.i64.wrap ((k : Int) + 1) = (k : Int) + 1 := by rw [IntKind.wrap_i64]; omega
      clear h0 hpa
      generalize r.getD k l[k].d = y at *
      generalize l[k] = x at *
      go_wp2_with fail
      refine wp_region_held_drew (S := (fun w' => Below wr.heap.size wr w' ∧ w'.cell? (ad.add (k * 7)) = some (.string x.name) ∧ w'.cell? ⟨(ad.add (k * 7)).block, (ad.add (k * 7)).off + 1, none⟩ = some (.int .i64 x.kind) ∧ w'.cell? ⟨(ad.add (k * 7)).block, (ad.add (k * 7)).off + 2, none⟩ = some (.bool x.nn) ∧ w'.cell? ⟨(ad.add (k * 7)).block, (ad.add (k * 7)).off + 3, none⟩ = some (.int .i64 x.d.kind) ∧ w'.cell? ⟨(ad.add (k * 7)).block, (ad.add (k * 7)).off + 4, none⟩ = some (.int .i64 x.d.n) ∧ w'.cell? ⟨(ad.add (k * 7)).block, (ad.add (k * 7)).off + 5, none⟩ = some (.float .f64 x.d.f) ∧ w'.cell? ⟨(ad.add (k * 7)).block, (ad.add (k * 7)).off + 6, none⟩ = some (.string x.d.s) ∧ w'.cell? (ad2.add (k * 4)) = some (.int .i64 y.kind) ∧ w'.cell? ⟨(ad2.add (k * 4)).block, (ad2.add (k * 4)).off + 1, none⟩ = some (.int .i64 y.n) ∧ w'.cell? ⟨(ad2.add (k * 4)).block, (ad2.add (k * 4)).off + 2, none⟩ = some (.float .f64 y.f) ∧ w'.cell? ⟨(ad2.add (k * 4)).block, (ad2.add (k * 4)).off + 3, none⟩ = some (.string y.s))) (by kernel_rfl) (⟨(Below.refl _ _).drew, q0, q1, q2, q3, q4, q5, q6, r0, r1, r2, r3⟩) (fun hHeld => ?_)
      (refine wpAnyH_take (i := 0) (oi := { dst := some 23, op := Go.Op.move (Go.Operand.tmp 0), type := 49, pos := _, after := _, guard := none }) (v := ?_) rfl (by kernel_rfl) (by kernel_rfl) (by kernel_rfl) (fun _ _ _ h => h) (Or.inl ⟨by rfl, ?_⟩) (by assumption) ?_; rotate_left; (intro w hSw; (try dsimp only at hSw); go_simp; try with_reducible rfl); try simp only [Act.put, List.setIfInBounds_toArray, List.set_cons_zero, List.set_cons_succ])
      (refine wpAnyH_take (i := 1) (oi := { dst := some 24, op := Go.Op.move (Go.Operand.tmp 7), type := 3, pos := _, after := _, guard := none }) (v := ?_) rfl (by kernel_rfl) (by kernel_rfl) (by kernel_rfl) (fun _ _ _ h => h) (Or.inl ⟨by rfl, ?_⟩) (by assumption) ?_; rotate_left; (intro w hSw; (try dsimp only at hSw); go_simp; try with_reducible rfl); try simp only [Act.put, List.setIfInBounds_toArray, List.set_cons_zero, List.set_cons_succ])
      (refine wpAnyH_take (i := 2) (oi := { dst := some 25, op := Go.Op.indexAddr 49 (Go.Operand.tmp 23) (Go.Operand.tmp 24), type := 0, pos := _, after := _, guard := none }) (v := ?_) rfl (by kernel_rfl) (by kernel_rfl) (by kernel_rfl) (fun _ _ _ h => h) (Or.inl ⟨by rfl, ?_⟩) (by assumption) ?_; rotate_left; (intro w hSw; (try dsimp only at hSw); go_simp; try with_reducible rfl); try simp only [Act.put, List.setIfInBounds_toArray, List.set_cons_zero, List.set_cons_succ])
      (refine wpAnyH_take (i := 3) (oi := { dst := some 26, op := Go.Op.load 53 (Go.Operand.tmp 25), type := 53, pos := _, after := _, guard := none }) (v := ?_) rfl (by kernel_rfl) (by kernel_rfl) (by kernel_rfl) (fun _ _ _ h => h) (Or.inl ⟨by rfl, ?_⟩) (by assumption) ?_; rotate_left; (intro w hSw; (try dsimp only at hSw); go_simp; try with_reducible rfl); try simp only [Act.put, List.setIfInBounds_toArray, List.set_cons_zero, List.set_cons_succ])
      (refine wpAnyH_take (i := 4) (oi := { dst := some 27, op := Go.Op.move (Go.Operand.tmp 6), type := 39, pos := _, after := _, guard := none }) (v := ?_) rfl (by kernel_rfl) (by kernel_rfl) (by kernel_rfl) (fun _ _ _ h => h) (Or.inl ⟨by rfl, ?_⟩) (by assumption) ?_; rotate_left; (intro w hSw; (try dsimp only at hSw); go_simp; try with_reducible rfl); try simp only [Act.put, List.setIfInBounds_toArray, List.set_cons_zero, List.set_cons_succ])
      (refine wpAnyH_take (i := 5) (oi := { dst := some 28, op := Go.Op.move (Go.Operand.tmp 7), type := 3, pos := _, after := _, guard := none }) (v := ?_) rfl (by kernel_rfl) (by kernel_rfl) (by kernel_rfl) (fun _ _ _ h => h) (Or.inl ⟨by rfl, ?_⟩) (by assumption) ?_; rotate_left; (intro w hSw; (try dsimp only at hSw); go_simp; try with_reducible rfl); try simp only [Act.put, List.setIfInBounds_toArray, List.set_cons_zero, List.set_cons_succ])
      (refine wpAnyH_take (i := 6) (oi := { dst := some 29, op := Go.Op.indexAddr 39 (Go.Operand.tmp 27) (Go.Operand.tmp 28), type := 0, pos := _, after := _, guard := none }) (v := ?_) rfl (by kernel_rfl) (by kernel_rfl) (by kernel_rfl) (fun _ _ _ h => h) (Or.inl ⟨by rfl, ?_⟩) (by assumption) ?_; rotate_left; (intro w hSw; (try dsimp only at hSw); go_simp; try with_reducible rfl); try simp only [Act.put, List.setIfInBounds_toArray, List.set_cons_zero, List.set_cons_succ])
      (refine wpAnyH_take (i := 7) (oi := { dst := some 30, op := Go.Op.load 24 (Go.Operand.tmp 29), type := 24, pos := _, after := _, guard := none }) (v := ?_) rfl (by kernel_rfl) (by kernel_rfl) (by kernel_rfl) (fun _ _ _ h => h) (Or.inl ⟨by rfl, ?_⟩) (by assumption) ?_; rotate_left; (intro w hSw; (try dsimp only at hSw); go_simp; try with_reducible rfl); try simp only [Act.put, List.setIfInBounds_toArray, List.set_cons_zero, List.set_cons_succ])
      refine wpAnyH_ready (rs := [8]) (by kernel_rfl) (by simp) ?_
      refine AllReadyH.cons (o := { dst := some 31, op := Go.Op.call { callee := Go.Callee.value (Go.Operand.func 56), args := #[Go.Operand.tmp 26, Go.Operand.tmp 30], argTypes := #[53, 24] }, type := 3, pos := _, after := _, guard := none }) rfl (fun K hK => ?_) AllReadyH.nil
      go_simp
      (refine (hcall _).mono ?_; rintro e w6 ⟨rfl, b13⟩)
      go_wp2_with fail
      refine hK.out _ _ ?_ (fun hHeld2 => ?_)
      · (go_split_ands; exact ⟨Below.trans (by assumption) (b13.mono (Below.size (by assumption))), kc b13 (by assumption), kc b13 (by assumption), kc b13 (by assumption), kc b13 (by assumption), kc b13 (by assumption), kc b13 (by assumption), kc b13 (by assumption), kc b13 (by assumption), kc b13 (by assumption), kc b13 (by assumption), kc b13 (by assumption)⟩)
      clear hK K hHeld
      have hHeld := hHeld2
      clear hHeld2
      try simp only [Act.put, List.setIfInBounds_toArray, List.set_cons_zero, List.set_cons_succ]
      (refine wpAnyH_take (i := 9) (oi := { dst := some 8, op := Go.Op.assign (Go.Operand.tmp 31), type := 3, pos := _, after := _, guard := none }) (v := ?_) rfl (by kernel_rfl) (by kernel_rfl) (by kernel_rfl) (fun _ _ _ h => h) (Or.inl ⟨by rfl, ?_⟩) (by assumption) ?_; rotate_left; (intro w hSw; (try dsimp only at hSw); go_simp; try with_reducible rfl); try simp only [Act.put, List.setIfInBounds_toArray, List.set_cons_zero, List.set_cons_succ])
      refine wpAnyH_done (by kernel_rfl) ?_ _
      have hb3 := hbr.trans ((And.left hHeld).mono hbr.size)
      go_wp2_with fail
      exact ⟨⟨k + 1, by omega, by go_num, hb3⟩, by simp [intOf]; omega⟩
    · obtain rfl : k = l.length := by omega
      go_wp2_with fail
      go_ret2
      exact ⟨A', c', rfl, HV.out.keep hbr (Nat.le_refl _), HN.out, hb1.trans (hbr.mono hb1.size)⟩

set_option maxRecDepth 100000 in
set_option maxHeartbeats 2000000 in
theorem rfill_bad (A B : Option Addr) (c d : Nat) (l : List Col) (r : List Val) (w : World) (ha : RdC w A l) (hb : RdV w B r) (hl : l.length ≤ 1000) (hr : r.length ≤ l.length) (m : Nat) (hm : m < l.length) (hok : ∀ j, j < m → tkAt l r j = 0) (E : Int) (hE : tkAt l r m = E) (hE0 : E ≠ 0) :
    Calls Try.prog 53 #[.slice A l.length c, .slice B r.length d] w fun e w' => e = .returned (.tuple #[.slice none 0 0, .int .i64 E]) ∧ Below w.heap.size w w' := by
  have ht : decide ((l.length : Int) < (r.length : Int)) = false := by rw [decide_eq_false]; omega
  have hst := run_sf
  have HA := Lib.hid ha
  have HP := Lib.hid (rpad_any A B c d l r w ha hb hl)
  have HT := Lib.hid rtakes_any
  clear ha hb
  go_enter Try.func53, Try.ntmps53
  go_wp2_with fail
  refine HP.out.mono ?_
  rintro e w1 ⟨A', c', rfl, hp, hpn, hb1⟩
  have HV := Lib.hid hp
  have HA1 := Lib.hid (HA.out.keep hb1 (Nat.le_refl _))
  have HN := Lib.hid hpn
  clear hp HP hpn
  go_wp2_with fail
  go_loopw [7] (fun i wr => ∃ k : Nat, k ≤ m ∧ i = .int .i64 k ∧ Below w1.heap.size w1 wr) (fun i _ => l.length - (intOf i).toNat)
  case atStart => exact ⟨0, by omega, rfl, Below.refl _ _⟩
  case round =>
    obtain ⟨k, hk, rfl, hbr⟩ := hrel
    by_cases hlt : k < m
    · have hkl : k < l.length := by omega
      obtain ⟨ad, rfl, q0, q1, q2, q3, q4, q5, q6⟩ := RdC.at (HA1.out.keep hbr (Nat.le_refl _)) k hkl
      obtain ⟨ad2, rfl, r0, r1, r2, r3⟩ := RdV.at (HV.out.keep hbr (Nat.le_refl _)) k (by rw [padV_len]; exact hkl)
      have hblk : (ad2.add (k * 4)).block < wr.heap.size := World.block_lt_of_cell? _ _ r0
      have hpa := padV_at l r k hkl
      rw [hpa] at r0 r1 r2 r3
      have hcall := HT.out l[k].name l[k].kind l[k].nn l[k].d.kind l[k].d.n l[k].d.f l[k].d.s (r.getD k l[k].d).kind (r.getD k l[k].d).n (r.getD k l[k].d).f (r.getD k l[k].d).s
      have h0 : takesV l[k].kind l[k].nn (r.getD k l[k].d).kind (r.getD k l[k].d).n (r.getD k l[k].d).f (r.getD k l[k].d).s = 0 := (tkAt_eq l r k hkl).symm.trans (hok k hlt)
      rw [h0] at hcall
      have hw1 : IntKind.i64.wrap ((k : Int) + 1) = (k : Int) + 1 := by rw [IntKind.wrap_i64]; omega
      clear h0 hpa
      generalize r.getD k l[k].d = y at *
      generalize l[k] = x at *
      go_wp2_with fail
      refine wp_region_held_drew (S := (fun w' => Below wr.heap.size wr w' ∧ w'.cell? (ad.add (k * 7)) = some (.string x.name) ∧ w'.cell? ⟨(ad.add (k * 7)).block, (ad.add (k * 7)).off + 1, none⟩ = some (.int .i64 x.kind) ∧ w'.cell? ⟨(ad.add (k * 7)).block, (ad.add (k * 7)).off + 2, none⟩ = some (.bool x.nn) ∧ w'.cell? ⟨(ad.add (k * 7)).block, (ad.add (k * 7)).off + 3, none⟩ = some (.int .i64 x.d.kind) ∧ w'.cell? ⟨(ad.add (k * 7)).block, (ad.add (k * 7)).off + 4, none⟩ = some (.int .i64 x.d.n) ∧ w'.cell? ⟨(ad.add (k * 7)).block, (ad.add (k * 7)).off + 5, none⟩ = some (.float .f64 x.d.f) ∧ w'.cell? ⟨(ad.add (k * 7)).block, (ad.add (k * 7)).off + 6, none⟩ = some (.string x.d.s) ∧ w'.cell? (ad2.add (k * 4)) = some (.int .i64 y.kind) ∧ w'.cell? ⟨(ad2.add (k * 4)).block, (ad2.add (k * 4)).off + 1, none⟩ = some (.int .i64 y.n) ∧ w'.cell? ⟨(ad2.add (k * 4)).block, (ad2.add (k * 4)).off + 2, none⟩ = some (.float .f64 y.f) ∧ w'.cell? ⟨(ad2.add (k * 4)).block, (ad2.add (k * 4)).off + 3, none⟩ = some (.string y.s))) (by kernel_rfl) (⟨(Below.refl _ _).drew, q0, q1, q2, q3, q4, q5, q6, r0, r1, r2, r3⟩) (fun hHeld => ?_)
      (refine wpAnyH_take (i := 0) (oi := { dst := some 23, op := Go.Op.move (Go.Operand.tmp 0), type := 49, pos := _, after := _, guard := none }) (v := ?_) rfl (by kernel_rfl) (by kernel_rfl) (by kernel_rfl) (fun _ _ _ h => h) (Or.inl ⟨by rfl, ?_⟩) (by assumption) ?_; rotate_left; (intro w hSw; (try dsimp only at hSw); go_simp; try with_reducible rfl); try simp only [Act.put, List.setIfInBounds_toArray, List.set_cons_zero, List.set_cons_succ])
      (refine wpAnyH_take (i := 1) (oi := { dst := some 24, op := Go.Op.move (Go.Operand.tmp 7), type := 3, pos := _, after := _, guard := none }) (v := ?_) rfl (by kernel_rfl) (by kernel_rfl) (by kernel_rfl) (fun _ _ _ h => h) (Or.inl ⟨by rfl, ?_⟩) (by assumption) ?_; rotate_left; (intro w hSw; (try dsimp only at hSw); go_simp; try with_reducible rfl); try simp only [Act.put, List.setIfInBounds_toArray, List.set_cons_zero, List.set_cons_succ])
      (refine wpAnyH_take (i := 2) (oi := { dst := some 25, op := Go.Op.indexAddr 49 (Go.Operand.tmp 23) (Go.Operand.tmp 24), type := 0, pos := _, after := _, guard := none }) (v := ?_) rfl (by kernel_rfl) (by kernel_rfl) (by kernel_rfl) (fun _ _ _ h => h) (Or.inl ⟨by rfl, ?_⟩) (by assumption) ?_; rotate_left; (intro w hSw; (try dsimp only at hSw); go_simp; try with_reducible rfl); try simp only [Act.put, List.setIfInBounds_toArray, List.set_cons_zero, List.set_cons_succ])
      (refine wpAnyH_take (i := 3) (oi := { dst := some 26, op := Go.Op.load 53 (Go.Operand.tmp 25), type := 53, pos := _, after := _, guard := none }) (v := ?_) rfl (by kernel_rfl) (by kernel_rfl) (by kernel_rfl) (fun _ _ _ h => h) (Or.inl ⟨by rfl, ?_⟩) (by assumption) ?_; rotate_left; (intro w hSw; (try dsimp only at hSw); go_simp; try with_reducible rfl); try simp only [Act.put, List.setIfInBounds_toArray, List.set_cons_zero, List.set_cons_succ])
      (refine wpAnyH_take (i := 4) (oi := { dst := some 27, op := Go.Op.move (Go.Operand.tmp 6), type := 39, pos := _, after := _, guard := none }) (v := ?_) rfl (by kernel_rfl) (by kernel_rfl) (by kernel_rfl) (fun _ _ _ h => h) (Or.inl ⟨by rfl, ?_⟩) (by assumption) ?_; rotate_left; (intro w hSw; (try dsimp only at hSw); go_simp; try with_reducible rfl); try simp only [Act.put, List.setIfInBounds_toArray, List.set_cons_zero, List.set_cons_succ])
      (refine wpAnyH_take (i := 5) (oi := { dst := some 28, op := Go.Op.move (Go.Operand.tmp 7), type := 3, pos := _, after := _, guard := none }) (v := ?_) rfl (by kernel_rfl) (by kernel_rfl) (by kernel_rfl) (fun _ _ _ h => h) (Or.inl ⟨by rfl, ?_⟩) (by assumption) ?_; rotate_left; (intro w hSw; (try dsimp only at hSw); go_simp; try with_reducible rfl); try simp only [Act.put, List.setIfInBounds_toArray, List.set_cons_zero, List.set_cons_succ])
      (refine wpAnyH_take (i := 6) (oi := { dst := some 29, op := Go.Op.indexAddr 39 (Go.Operand.tmp 27) (Go.Operand.tmp 28), type := 0, pos := _, after := _, guard := none }) (v := ?_) rfl (by kernel_rfl) (by kernel_rfl) (by kernel_rfl) (fun _ _ _ h => h) (Or.inl ⟨by rfl, ?_⟩) (by assumption) ?_; rotate_left; (intro w hSw; (try dsimp only at hSw); go_simp; try with_reducible rfl); try simp only [Act.put, List.setIfInBounds_toArray, List.set_cons_zero, List.set_cons_succ])
      (refine wpAnyH_take (i := 7) (oi := { dst := some 30, op := Go.Op.load 24 (Go.Operand.tmp 29), type := 24, pos := _, after := _, guard := none }) (v := ?_) rfl (by kernel_rfl) (by kernel_rfl) (by kernel_rfl) (fun _ _ _ h => h) (Or.inl ⟨by rfl, ?_⟩) (by assumption) ?_; rotate_left; (intro w hSw; (try dsimp only at hSw); go_simp; try with_reducible rfl); try simp only [Act.put, List.setIfInBounds_toArray, List.set_cons_zero, List.set_cons_succ])
      refine wpAnyH_ready (rs := [8]) (by kernel_rfl) (by simp) ?_
      refine AllReadyH.cons (o := { dst := some 31, op := Go.Op.call { callee := Go.Callee.value (Go.Operand.func 56), args := #[Go.Operand.tmp 26, Go.Operand.tmp 30], argTypes := #[53, 24] }, type := 3, pos := _, after := _, guard := none }) rfl (fun K hK => ?_) AllReadyH.nil
      go_simp
      (refine (hcall _).mono ?_; rintro e w6 ⟨rfl, b13⟩)
      go_wp2_with fail
      refine hK.out _ _ ?_ (fun hHeld2 => ?_)
      · (go_split_ands; exact ⟨Below.trans (by assumption) (b13.mono (Below.size (by assumption))), kc b13 (by assumption), kc b13 (by assumption), kc b13 (by assumption), kc b13 (by assumption), kc b13 (by assumption), kc b13 (by assumption), kc b13 (by assumption), kc b13 (by assumption), kc b13 (by assumption), kc b13 (by assumption), kc b13 (by assumption)⟩)
      clear hK K hHeld
      have hHeld := hHeld2
      clear hHeld2
      try simp only [Act.put, List.setIfInBounds_toArray, List.set_cons_zero, List.set_cons_succ]
      (refine wpAnyH_take (i := 9) (oi := { dst := some 8, op := Go.Op.assign (Go.Operand.tmp 31), type := 3, pos := _, after := _, guard := none }) (v := ?_) rfl (by kernel_rfl) (by kernel_rfl) (by kernel_rfl) (fun _ _ _ h => h) (Or.inl ⟨by rfl, ?_⟩) (by assumption) ?_; rotate_left; (intro w hSw; (try dsimp only at hSw); go_simp; try with_reducible rfl); try simp only [Act.put, List.setIfInBounds_toArray, List.set_cons_zero, List.set_cons_succ])
      refine wpAnyH_done (by kernel_rfl) ?_ _
      have hb3 := hbr.trans ((And.left hHeld).mono hbr.size)
      go_wp2_with fail
      exact ⟨⟨k + 1, by omega, by go_num, hb3⟩, by simp [intOf]; omega⟩
    · obtain rfl : k = m := by omega
      have hkl : k < l.length := hm
      obtain ⟨ad, rfl, q0, q1, q2, q3, q4, q5, q6⟩ := RdC.at (HA1.out.keep hbr (Nat.le_refl _)) k hkl
      obtain ⟨ad2, rfl, r0, r1, r2, r3⟩ := RdV.at (HV.out.keep hbr (Nat.le_refl _)) k (by rw [padV_len]; exact hkl)
      have hblk : (ad2.add (k * 4)).block < wr.heap.size := World.block_lt_of_cell? _ _ r0
      have hpa := padV_at l r k hkl
      rw [hpa] at r0 r1 r2 r3
      have hcall := HT.out l[k].name l[k].kind l[k].nn l[k].d.kind l[k].d.n l[k].d.f l[k].d.s (r.getD k l[k].d).kind (r.getD k l[k].d).n (r.getD k l[k].d).f (r.getD k l[k].d).s
      have h0 : takesV l[k].kind l[k].nn (r.getD k l[k].d).kind (r.getD k l[k].d).n (r.getD k l[k].d).f (r.getD k l[k].d).s = E := (tkAt_eq l r k hkl).symm.trans hE
      rw [h0] at hcall
      have e1 : (E == 0) = false := by rw [beq_eq_false_iff_ne]; exact hE0
      have e2 : (E != 0) = true := by rw [bne, e1]; rfl
      clear h0 hpa hE hE0
      generalize r.getD k l[k].d = y at *
      generalize l[k] = x at *
      go_wp2_with fail
      refine wp_region_held_drew (S := (fun w' => Below wr.heap.size wr w' ∧ w'.cell? (ad.add (k * 7)) = some (.string x.name) ∧ w'.cell? ⟨(ad.add (k * 7)).block, (ad.add (k * 7)).off + 1, none⟩ = some (.int .i64 x.kind) ∧ w'.cell? ⟨(ad.add (k * 7)).block, (ad.add (k * 7)).off + 2, none⟩ = some (.bool x.nn) ∧ w'.cell? ⟨(ad.add (k * 7)).block, (ad.add (k * 7)).off + 3, none⟩ = some (.int .i64 x.d.kind) ∧ w'.cell? ⟨(ad.add (k * 7)).block, (ad.add (k * 7)).off + 4, none⟩ = some (.int .i64 x.d.n) ∧ w'.cell? ⟨(ad.add (k * 7)).block, (ad.add (k * 7)).off + 5, none⟩ = some (.float .f64 x.d.f) ∧ w'.cell? ⟨(ad.add (k * 7)).block, (ad.add (k * 7)).off + 6, none⟩ = some (.string x.d.s) ∧ w'.cell? (ad2.add (k * 4)) = some (.int .i64 y.kind) ∧ w'.cell? ⟨(ad2.add (k * 4)).block, (ad2.add (k * 4)).off + 1, none⟩ = some (.int .i64 y.n) ∧ w'.cell? ⟨(ad2.add (k * 4)).block, (ad2.add (k * 4)).off + 2, none⟩ = some (.float .f64 y.f) ∧ w'.cell? ⟨(ad2.add (k * 4)).block, (ad2.add (k * 4)).off + 3, none⟩ = some (.string y.s))) (by kernel_rfl) (⟨(Below.refl _ _).drew, q0, q1, q2, q3, q4, q5, q6, r0, r1, r2, r3⟩) (fun hHeld => ?_)
      (refine wpAnyH_take (i := 0) (oi := { dst := some 23, op := Go.Op.move (Go.Operand.tmp 0), type := 49, pos := _, after := _, guard := none }) (v := ?_) rfl (by kernel_rfl) (by kernel_rfl) (by kernel_rfl) (fun _ _ _ h => h) (Or.inl ⟨by rfl, ?_⟩) (by assumption) ?_; rotate_left; (intro w hSw; (try dsimp only at hSw); go_simp; try with_reducible rfl); try simp only [Act.put, List.setIfInBounds_toArray, List.set_cons_zero, List.set_cons_succ])
      (refine wpAnyH_take (i := 1) (oi := { dst := some 24, op := Go.Op.move (Go.Operand.tmp 7), type := 3, pos := _, after := _, guard := none }) (v := ?_) rfl (by kernel_rfl) (by kernel_rfl) (by kernel_rfl) (fun _ _ _ h => h) (Or.inl ⟨by rfl, ?_⟩) (by assumption) ?_; rotate_left; (intro w hSw; (try dsimp only at hSw); go_simp; try with_reducible rfl); try simp only [Act.put, List.setIfInBounds_toArray, List.set_cons_zero, List.set_cons_succ])
      (refine wpAnyH_take (i := 2) (oi := { dst := some 25, op := Go.Op.indexAddr 49 (Go.Operand.tmp 23) (Go.Operand.tmp 24), type := 0, pos := _, after := _, guard := none }) (v := ?_) rfl (by kernel_rfl) (by kernel_rfl) (by kernel_rfl) (fun _ _ _ h => h) (Or.inl ⟨by rfl, ?_⟩) (by assumption) ?_; rotate_left; (intro w hSw; (try dsimp only at hSw); go_simp; try with_reducible rfl); try simp only [Act.put, List.setIfInBounds_toArray, List.set_cons_zero, List.set_cons_succ])
      (refine wpAnyH_take (i := 3) (oi := { dst := some 26, op := Go.Op.load 53 (Go.Operand.tmp 25), type := 53, pos := _, after := _, guard := none }) (v := ?_) rfl (by kernel_rfl) (by kernel_rfl) (by kernel_rfl) (fun _ _ _ h => h) (Or.inl ⟨by rfl, ?_⟩) (by assumption) ?_; rotate_left; (intro w hSw; (try dsimp only at hSw); go_simp; try with_reducible rfl); try simp only [Act.put, List.setIfInBounds_toArray, List.set_cons_zero, List.set_cons_succ])
      (refine wpAnyH_take (i := 4) (oi := { dst := some 27, op := Go.Op.move (Go.Operand.tmp 6), type := 39, pos := _, after := _, guard := none }) (v := ?_) rfl (by kernel_rfl) (by kernel_rfl) (by kernel_rfl) (fun _ _ _ h => h) (Or.inl ⟨by rfl, ?_⟩) (by assumption) ?_; rotate_left; (intro w hSw; (try dsimp only at hSw); go_simp; try with_reducible rfl); try simp only [Act.put, List.setIfInBounds_toArray, List.set_cons_zero, List.set_cons_succ])
      (refine wpAnyH_take (i := 5) (oi := { dst := some 28, op := Go.Op.move (Go.Operand.tmp 7), type := 3, pos := _, after := _, guard := none }) (v := ?_) rfl (by kernel_rfl) (by kernel_rfl) (by kernel_rfl) (fun _ _ _ h => h) (Or.inl ⟨by rfl, ?_⟩) (by assumption) ?_; rotate_left; (intro w hSw; (try dsimp only at hSw); go_simp; try with_reducible rfl); try simp only [Act.put, List.setIfInBounds_toArray, List.set_cons_zero, List.set_cons_succ])
      (refine wpAnyH_take (i := 6) (oi := { dst := some 29, op := Go.Op.indexAddr 39 (Go.Operand.tmp 27) (Go.Operand.tmp 28), type := 0, pos := _, after := _, guard := none }) (v := ?_) rfl (by kernel_rfl) (by kernel_rfl) (by kernel_rfl) (fun _ _ _ h => h) (Or.inl ⟨by rfl, ?_⟩) (by assumption) ?_; rotate_left; (intro w hSw; (try dsimp only at hSw); go_simp; try with_reducible rfl); try simp only [Act.put, List.setIfInBounds_toArray, List.set_cons_zero, List.set_cons_succ])
      (refine wpAnyH_take (i := 7) (oi := { dst := some 30, op := Go.Op.load 24 (Go.Operand.tmp 29), type := 24, pos := _, after := _, guard := none }) (v := ?_) rfl (by kernel_rfl) (by kernel_rfl) (by kernel_rfl) (fun _ _ _ h => h) (Or.inl ⟨by rfl, ?_⟩) (by assumption) ?_; rotate_left; (intro w hSw; (try dsimp only at hSw); go_simp; try with_reducible rfl); try simp only [Act.put, List.setIfInBounds_toArray, List.set_cons_zero, List.set_cons_succ])
      refine wpAnyH_ready (rs := [8]) (by kernel_rfl) (by simp) ?_
      refine AllReadyH.cons (o := { dst := some 31, op := Go.Op.call { callee := Go.Callee.value (Go.Operand.func 56), args := #[Go.Operand.tmp 26, Go.Operand.tmp 30], argTypes := #[53, 24] }, type := 3, pos := _, after := _, guard := none }) rfl (fun K hK => ?_) AllReadyH.nil
      go_simp
      (refine (hcall _).mono ?_; rintro e w6 ⟨rfl, b13⟩)
      go_wp2_with fail
      refine hK.out _ _ ?_ (fun hHeld2 => ?_)
      · (go_split_ands; exact ⟨Below.trans (by assumption) (b13.mono (Below.size (by assumption))), kc b13 (by assumption), kc b13 (by assumption), kc b13 (by assumption), kc b13 (by assumption), kc b13 (by assumption), kc b13 (by assumption), kc b13 (by assumption), kc b13 (by assumption), kc b13 (by assumption), kc b13 (by assumption), kc b13 (by assumption)⟩)
      clear hK K hHeld
      have hHeld := hHeld2
      clear hHeld2
      try simp only [Act.put, List.setIfInBounds_toArray, List.set_cons_zero, List.set_cons_succ]
      (refine wpAnyH_take (i := 9) (oi := { dst := some 8, op := Go.Op.assign (Go.Operand.tmp 31), type := 3, pos := _, after := _, guard := none }) (v := ?_) rfl (by kernel_rfl) (by kernel_rfl) (by kernel_rfl) (fun _ _ _ h => h) (Or.inl ⟨by rfl, ?_⟩) (by assumption) ?_; rotate_left; (intro w hSw; (try dsimp only at hSw); go_simp; try with_reducible rfl); try simp only [Act.put, List.setIfInBounds_toArray, List.set_cons_zero, List.set_cons_succ])
      refine wpAnyH_done (by kernel_rfl) ?_ _
      have hb3 := hbr.trans ((And.left hHeld).mono hbr.size)
      go_wp2_with fail
      go_ret2
      exact ⟨rfl, hb1.trans (hb3.mono hb1.size)⟩
end Go.Proofs.Ytmgpecomgffelaa
