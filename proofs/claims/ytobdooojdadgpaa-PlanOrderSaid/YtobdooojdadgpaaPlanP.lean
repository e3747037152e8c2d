/- The law PlanTells: by which way the rows of any statement are found, or that there is none; what ways cost. No condition. -/
import Derived.Test.YtobdooojdadgpaaPlanO
import Derived.Test.YtobdooojdadgpaaPlanL
import Derived.Deep.RegionHeld3
namespace Go.Proofs.Ytobdooojdadgpaa
open Go.RowKit Go.ChangeShapes Go.WideShapes Go.ChangeAt
set_option linter.unusedVariables false
def BoxA (w : World) (b : Nat) (s : Stm) : Prop := BoxT w b s.a
theorem BoxA.new (w : World) (s : Stm) : BoxA (w.alloc (.cells s.a 45)) w.heap.size s := BoxT.new w s.a 45
theorem RdP.keep {w w' : World} {M : Nat} {k : Int} {i : ByteArray} (h : RdP w M k i) (hb : Below w.heap.size w w') : RdP w' M k i := by
  obtain ⟨a, b, c, d⟩ := h
  have hlt := World.block_lt_of_cell? _ _ a
  exact ⟨kc hb a, kc hb b, (hb.frozen (p := ⟨M, 0, none⟩) hlt).trans c, (hb.frozen (p := ⟨M, 1, none⟩) hlt).trans d⟩
theorem BoxA.keep {w w' : World} {b : Nat} {s : Stm} (h : BoxA w b s) (hb : Below w.heap.size w w') : BoxA w' b s := BoxT.keep h hb
set_option maxRecDepth 100000 in
set_option maxHeartbeats 4000000 in
theorem tells_main (s : Stm) (rl : List Val) (cl : List Col) (C : Option Addr) (c : Nat) (cols : List Col) (A : Option Addr) (a : Nat) (l : List Idx) (w : World) (hs : StmIn w s rl cl) (hc : RdC w C cols) (ha : RdI w A l) (hnC : C = none → c = 0) (hnA : A = none → a = 0) :
    Tells Try.prog 7 #[sv s, .slice C cols.length c, .slice A l.length a] w := by
  unfold Tells
  have hst := run_sf
  have b0 : Below w.heap.size w (w.alloc (.cells s.a 45)) := (Below.refl _ _).alloc (Nat.le_refl _) _
  have HB0 := Lib.hid (BoxA.new w s)
  have HS0 := Lib.hid (hs.keep b0)
  have HC0 := Lib.hid (hc.keep b0 (Nat.le_refl _))
  have HA0 := Lib.hid (ha.keep b0 (Nat.le_refl _))
  have HNC := Lib.hid hnC
  have HNA := Lib.hid hnA
  have HL := Lib.hid (large_any s rl cl C c cols A a l _ HS0.out HC0.out HA0.out)
  clear hs hc ha hnC hnA
  go_enter Try.func7, Try.ntmps7
  go_wp2_with fail
  refine HL.out.mono ?_
  rintro e w1 ⟨b, rfl, hp, b1⟩
  have k1 := b0.trans (b1.mono b0.size)
  have HP := Lib.hid hp
  have HB1 := Lib.hid (HB0.out.keep b1)
  have HS1 := Lib.hid (HS0.out.keep b1)
  have HC1 := Lib.hid (HC0.out.keep b1 (Nat.le_refl _))
  have HA1 := Lib.hid (HA0.out.keep b1 (Nat.le_refl _))
  clear hp b0 b1 HL HB0 HS0 HC0 HA0
  cases b with
  | true =>
    go_wp2_with fail
    refine (plan_wakes _).mono ?_
    rintro e w9 ⟨rfl, b9⟩
    go_wp2_with fail
    go_ret
    exact ⟨rfl, k1.trans (b9.mono k1.size)⟩
  | false =>
  obtain ⟨hcl, hal, hrl, hcl2⟩ := HP.out (by first | rfl | trivial)
  clear HP
  go_wp2_with (at_builtin; refine wl_app_idxs rfl _ _ rfl _ _ 0 [] rfl (Fresh.empty _ _ _ _ _) (Nat.le_refl _) A a l rfl HNA.out (HA1.out.keep ((Below.refl _ _).alloc (Nat.le_refl _) _) (Nat.le_refl _)) (by omega) ?_; intro v2 w2 hF b2' _; rw [Nat.zero_add, List.nil_append] at hF; obtain ⟨A1, c1, rfl, hn2⟩ := hF.slice; have b2 := ((Below.refl w1.heap.size w1).alloc (Nat.le_refl _) (.cells #[] 60)).trans (b2'.mono ((Below.refl w1.heap.size w1).alloc (Nat.le_refl _) (.cells #[] 60)).size); have k2 := k1.trans (b2.mono k1.size); have HI2 := Lib.hid (Fresh.rd Idx.cells_len (by decide) hF); have HN2 := Lib.hid hn2; have HB2 := Lib.hid (HB1.out.keep b2); have HS2 := Lib.hid (HS1.out.keep b2); have HC2 := Lib.hid (HC1.out.keep b2 (Nat.le_refl _)); have HA2 := Lib.hid (HA1.out.keep b2 (Nat.le_refl _)); clear hF b2' hn2 b2 k1 HB1 HS1 HC1 HA1; have f0 := (HB2.out 0 _ rfl).1; have f1 := (HB2.out 1 _ rfl).1; have f2 := (HB2.out 2 _ rfl).1; have f3 := (HB2.out 3 _ rfl).1; have f4 := (HB2.out 4 _ rfl).1; have f5 := (HB2.out 5 _ rfl).1; have f6 := (HB2.out 6 _ rfl).1; have f7 := (HB2.out 7 _ rfl).1; have f8 := (HB2.out 8 _ rfl).1; have f9 := (HB2.out 9 _ rfl).1; have f10 := (HB2.out 10 _ rfl).1; have f11 := (HB2.out 11 _ rfl).1; have f12 := (HB2.out 12 _ rfl).1; have f13 := (HB2.out 13 _ rfl).1; have f14 := (HB2.out 14 _ rfl).1; have f15 := (HB2.out 15 _ rfl).1)
  refine (copy_stmt s rl cl w2 HS2.out hrl hcl2).mono ?_
  rintro e w3 ⟨s', rfl, hlike, b3⟩
  have HLK := Lib.hid hlike
  have k3 := k2.trans (b3.mono k2.size)
  have HI3 := Lib.hid (HI2.out.keep b3 (Nat.le_refl _))
  have HB3 := Lib.hid (HB2.out.keep b3)
  have HC3 := Lib.hid (HC2.out.keep b3 (Nat.le_refl _))
  have HA3 := Lib.hid (HA2.out.keep b3 (Nat.le_refl _))
  clear hlike b3 k2 HI2 HB2 HS2 HC2 HA2 f0 f1 f2 f3 f4 f5 f6 f7 f8 f9 f10 f11 f12 f13 f14 f15
  go_wp2_with (at_builtin; refine wl_app_cols rfl _ _ rfl _ _ 0 [] rfl (Fresh.empty _ _ _ _ _) (Nat.le_refl _) C c cols rfl HNC.out (HC3.out.keep ((Below.refl _ _).alloc (Nat.le_refl _) _) (Nat.le_refl _)) (by omega) ?_; intro v4 w4 hF b4' _; rw [Nat.zero_add, List.nil_append] at hF; obtain ⟨C4, c4, rfl, hn4⟩ := hF.slice; have b4 := ((Below.refl w3.heap.size w3).alloc (Nat.le_refl _) (.cells #[] 94)).trans (b4'.mono ((Below.refl w3.heap.size w3).alloc (Nat.le_refl _) (.cells #[] 94)).size); have k4 := k3.trans (b4.mono k3.size); have HD4 := Lib.hid (Fresh.rd Col.cells_len (by decide) hF); have HB4 := Lib.hid (HB3.out.keep b4); have HI4 := Lib.hid (HI3.out.keep b4 (Nat.le_refl _)); have HC4 := Lib.hid (HC3.out.keep b4 (Nat.le_refl _)); have HA4 := Lib.hid (HA3.out.keep b4 (Nat.le_refl _)); clear hF b4' hn4 b4 k3 HB3 HI3 HC3 HA3)
  have hof := of_any s' C4 c4 cols A1 c1 l w4 HD4.out HI4.out HN2.out (by omega) (by omega)
  rw [ofE_like HLK.out, ofW_like HLK.out, ofI_like HLK.out] at hof
  have HR := Lib.hid (rof_any s C c cols A a l)
  have hs1 : (ofW s cols l == ofW s cols l) = true := beq_self_eq_true _
  have hs2 : ((ofI s cols l).toList == (ofI s cols l).toList) = true := beq_self_eq_true _
  have hs3 : (ofE s cols == ofE s cols) = true := beq_self_eq_true _
  generalize ofW s cols l = W at *
  generalize ofI s cols l = I at *
  generalize ofE s cols = E at *
  refine hof.mono ?_
  rintro e w5 ⟨rfl, b5⟩
  have k5 := k4.trans (b5.mono k4.size)
  have HI5 := Lib.hid (HI4.out.keep b5 (Nat.le_refl _))
  have HB5 := Lib.hid (HB4.out.keep b5)
  have HC5 := Lib.hid (HC4.out.keep b5 (Nat.le_refl _))
  have HA5 := Lib.hid (HA4.out.keep b5 (Nat.le_refl _))
  clear hof b5 k4 HI4 HB4 HC4 HA4 HD4
  have f0 := (HB5.out 0 _ rfl).1
  have f1 := (HB5.out 1 _ rfl).1
  have f2 := (HB5.out 2 _ rfl).1
  have f3 := (HB5.out 3 _ rfl).1
  have f4 := (HB5.out 4 _ rfl).1
  have f5 := (HB5.out 5 _ rfl).1
  have f6 := (HB5.out 6 _ rfl).1
  have f7 := (HB5.out 7 _ rfl).1
  have f8 := (HB5.out 8 _ rfl).1
  have f9 := (HB5.out 9 _ rfl).1
  have f10 := (HB5.out 10 _ rfl).1
  have f11 := (HB5.out 11 _ rfl).1
  have f12 := (HB5.out 12 _ rfl).1
  have f13 := (HB5.out 13 _ rfl).1
  have f14 := (HB5.out 14 _ rfl).1
  have f15 := (HB5.out 15 _ rfl).1
  have hlt5 : w.heap.size < w5.heap.size := World.block_lt_of_cell? _ _ f0
  go_wp2_with fail
  refine (HR.out _ (HC5.out.keep ((Below.refl _ _).alloc (Nat.le_refl _) _) (Nat.le_refl _)) (HA5.out.keep ((Below.refl _ _).alloc (Nat.le_refl _) _) (Nat.le_refl _)) HNA.out (by omega) (by omega)).mono ?_
  rintro e w6 ⟨rfl, b6⟩
  have hp := RdP.start w5 49 W I
  have hp6 := hp.keep b6
  have a5 : Below w5.heap.size w5 (w5.alloc (.cells #[.int .i64 W, .string I] 49)) := (Below.refl _ _).alloc (Nat.le_refl _) _
  have b56 := below_trans a5 b6
  have k6 := k5.trans (b56.mono k5.size)
  have a6 : Below w6.heap.size w6 (w6.alloc (.cells #[.int .i64 W, .string I] 53)) := (Below.refl _ _).alloc (Nat.le_refl _) _
  obtain ⟨g0, g1, _, _⟩ := hp6.keep a6
  obtain ⟨h0, h1, _, _⟩ := RdP.start w6 53 W I
  have HI6 := Lib.hid ((HI5.out.keep b56 (Nat.le_refl _)).keep a6 (Nat.le_refl _))
  have HA6 := Lib.hid ((HA5.out.keep b56 (Nat.le_refl _)).keep a6 (Nat.le_refl _))
  have k7 := k6.trans (a6.mono k6.size)
  have hc1 := cost_any W I
  have hc2 := rcost_any W I
  have hs4 : (costV W == costV W) = true := beq_self_eq_true _
  generalize costV W = cw at *
  clear hp hp6 a5 b56 k5 k6 a6 HI5 HA5 HB5 HC5 HR b6 f0 f1 f2 f3 f4 f5 f6 f7 f8 f9 f10 f11 f12 f13 f14 f15
  go_wp2_with fail
  refine wp_region_held_drew (S := (fun w' => Below (w6.alloc (.cells #[.int .i64 W, .string I] 53)).heap.size (w6.alloc (.cells #[.int .i64 W, .string I] 53)) w' ∧ w'.cell? ⟨w5.heap.size, 0, none⟩ = some (.int .i64 W) ∧ w'.cell? ⟨w5.heap.size, 1, none⟩ = some (.string I) ∧ w'.cell? ⟨w6.heap.size, 0, none⟩ = some (.int .i64 W) ∧ w'.cell? ⟨w6.heap.size, 1, none⟩ = some (.string I))) (by kernel_rfl) (⟨(Below.refl _ _).drew, g0, g1, h0, h1⟩) (fun hHeld => ?_)
  (refine wpAnyH_take (i := 0) (oi := { dst := some 37, op := Go.Op.fieldAddr 49 (Go.Operand.tmp 8) 0, type := 0, pos := _, after := _, guard := none }) (v := ?_) rfl (by kernel_rfl) (by kernel_rfl) (by kernel_rfl) (fun _ _ _ h => h) (Or.inl ⟨by rfl, ?_⟩) (by assumption) ?_; rotate_left; (intro w hSw; (try dsimp only at hSw); go_simp; try with_reducible rfl); try simp only [Act.put, List.setIfInBounds_toArray, List.set_cons_zero, List.set_cons_succ])
  (refine wpAnyH_take (i := 1) (oi := { dst := some 38, op := Go.Op.load 3 (Go.Operand.tmp 37), type := 3, pos := _, after := _, guard := none }) (v := ?_) rfl (by kernel_rfl) (by kernel_rfl) (by kernel_rfl) (fun _ _ _ h => h) (Or.inl ⟨by rfl, ?_⟩) (by assumption) ?_; rotate_left; (intro w hSw; (try dsimp only at hSw); go_simp; try with_reducible rfl); try simp only [Act.put, List.setIfInBounds_toArray, List.set_cons_zero, List.set_cons_succ])
  (refine wpAnyH_take (i := 2) (oi := { dst := some 39, op := Go.Op.fieldAddr 53 (Go.Operand.tmp 10) 0, type := 0, pos := _, after := _, guard := none }) (v := ?_) rfl (by kernel_rfl) (by kernel_rfl) (by kernel_rfl) (fun _ _ _ h => h) (Or.inl ⟨by rfl, ?_⟩) (by assumption) ?_; rotate_left; (intro w hSw; (try dsimp only at hSw); go_simp; try with_reducible rfl); try simp only [Act.put, List.setIfInBounds_toArray, List.set_cons_zero, List.set_cons_succ])
  (refine wpAnyH_take (i := 3) (oi := { dst := some 40, op := Go.Op.load 3 (Go.Operand.tmp 39), type := 3, pos := _, after := _, guard := none }) (v := ?_) rfl (by kernel_rfl) (by kernel_rfl) (by kernel_rfl) (fun _ _ _ h => h) (Or.inl ⟨by rfl, ?_⟩) (by assumption) ?_; rotate_left; (intro w hSw; (try dsimp only at hSw); go_simp; try with_reducible rfl); try simp only [Act.put, List.setIfInBounds_toArray, List.set_cons_zero, List.set_cons_succ])
  (refine wpAnyH_take (i := 4) (oi := { dst := some 41, op := Go.Op.binOp Go.BinOp.eql 3 (Go.Operand.tmp 38) (Go.Operand.tmp 40) 3, type := 4, pos := _, after := _, guard := none }) (v := ?_) rfl (by kernel_rfl) (by kernel_rfl) (by kernel_rfl) (fun _ _ _ h => h) (Or.inl ⟨by rfl, ?_⟩) (by assumption) ?_; rotate_left; (intro w hSw; (try dsimp only at hSw); go_simp; try with_reducible rfl); try simp only [Act.put, List.setIfInBounds_toArray, List.set_cons_zero, List.set_cons_succ])
  (refine wpAnyH_take (i := 5) (oi := { dst := some 42, op := Go.Op.move (Go.Operand.tmp 41), type := 4, pos := _, after := _, guard := none }) (v := ?_) rfl (by kernel_rfl) (by kernel_rfl) (by kernel_rfl) (fun _ _ _ h => h) (Or.inl ⟨by rfl, ?_⟩) (by assumption) ?_; rotate_left; (intro w hSw; (try dsimp only at hSw); go_simp; try with_reducible rfl); try simp only [Act.put, List.setIfInBounds_toArray, List.set_cons_zero, List.set_cons_succ])
  (refine wpAnyH_take (i := 6) (oi := { dst := some 43, op := Go.Op.fieldAddr 49 (Go.Operand.tmp 8) 1, type := 0, pos := _, after := _, guard := some (5, true) }) (v := ?_) rfl (by kernel_rfl) (by kernel_rfl) (by kernel_rfl) (fun _ _ _ h => h) (Or.inl ⟨by rfl, ?_⟩) (by assumption) ?_; rotate_left; (intro w hSw; (try dsimp only at hSw); go_simp; try with_reducible rfl); try simp only [Act.put, List.setIfInBounds_toArray, List.set_cons_zero, List.set_cons_succ])
  (refine wpAnyH_take (i := 7) (oi := { dst := some 44, op := Go.Op.load 9 (Go.Operand.tmp 43), type := 9, pos := _, after := _, guard := some (5, true) }) (v := ?_) rfl (by kernel_rfl) (by kernel_rfl) (by kernel_rfl) (fun _ _ _ h => h) (Or.inl ⟨by rfl, ?_⟩) (by assumption) ?_; rotate_left; (intro w hSw; (try dsimp only at hSw); go_simp; try with_reducible rfl); try simp only [Act.put, List.setIfInBounds_toArray, List.set_cons_zero, List.set_cons_succ])
  (refine wpAnyH_take (i := 8) (oi := { dst := some 45, op := Go.Op.fieldAddr 53 (Go.Operand.tmp 10) 1, type := 0, pos := _, after := _, guard := some (5, true) }) (v := ?_) rfl (by kernel_rfl) (by kernel_rfl) (by kernel_rfl) (fun _ _ _ h => h) (Or.inl ⟨by rfl, ?_⟩) (by assumption) ?_; rotate_left; (intro w hSw; (try dsimp only at hSw); go_simp; try with_reducible rfl); try simp only [Act.put, List.setIfInBounds_toArray, List.set_cons_zero, List.set_cons_succ])
  (refine wpAnyH_take (i := 9) (oi := { dst := some 46, op := Go.Op.load 9 (Go.Operand.tmp 45), type := 9, pos := _, after := _, guard := some (5, true) }) (v := ?_) rfl (by kernel_rfl) (by kernel_rfl) (by kernel_rfl) (fun _ _ _ h => h) (Or.inl ⟨by rfl, ?_⟩) (by assumption) ?_; rotate_left; (intro w hSw; (try dsimp only at hSw); go_simp; try with_reducible rfl); try simp only [Act.put, List.setIfInBounds_toArray, List.set_cons_zero, List.set_cons_succ])
  (refine wpAnyH_take (i := 10) (oi := { dst := some 47, op := Go.Op.binOp Go.BinOp.eql 9 (Go.Operand.tmp 44) (Go.Operand.tmp 46) 9, type := 4, pos := _, after := _, guard := some (5, true) }) (v := ?_) rfl (by kernel_rfl) (by kernel_rfl) (by kernel_rfl) (fun _ _ _ h => h) (Or.inl ⟨by rfl, ?_⟩) (by assumption) ?_; rotate_left; (intro w hSw; (try dsimp only at hSw); go_simp; try with_reducible rfl); try simp only [Act.put, List.setIfInBounds_toArray, List.set_cons_zero, List.set_cons_succ])
  (refine wpAnyH_take (i := 11) (oi := { dst := some 48, op := Go.Op.pick (Go.Operand.tmp 42) (Go.Operand.tmp 47) (Go.Operand.const (Go.Value.bool false)), type := 4, pos := _, after := _, guard := none }) (v := ?_) rfl (by kernel_rfl) (by kernel_rfl) (by kernel_rfl) (fun _ _ _ h => h) (Or.inl ⟨by rfl, ?_⟩) (by assumption) ?_; rotate_left; (intro w hSw; (try dsimp only at hSw); go_simp; try with_reducible rfl); try simp only [Act.put, List.setIfInBounds_toArray, List.set_cons_zero, List.set_cons_succ])
  (refine wpAnyH_take (i := 12) (oi := { dst := some 49, op := Go.Op.move (Go.Operand.tmp 48), type := 4, pos := _, after := _, guard := none }) (v := ?_) rfl (by kernel_rfl) (by kernel_rfl) (by kernel_rfl) (fun _ _ _ h => h) (Or.inl ⟨by rfl, ?_⟩) (by assumption) ?_; rotate_left; (intro w hSw; (try dsimp only at hSw); go_simp; try with_reducible rfl); try simp only [Act.put, List.setIfInBounds_toArray, List.set_cons_zero, List.set_cons_succ])
  (refine wpAnyH_take (i := 13) (oi := { dst := some 50, op := Go.Op.move (Go.Operand.tmp 9), type := 33, pos := _, after := _, guard := some (12, true) }) (v := ?_) rfl (by kernel_rfl) (by kernel_rfl) (by kernel_rfl) (fun _ _ _ h => h) (Or.inl ⟨by rfl, ?_⟩) (by assumption) ?_; rotate_left; (intro w hSw; (try dsimp only at hSw); go_simp; try with_reducible rfl); try simp only [Act.put, List.setIfInBounds_toArray, List.set_cons_zero, List.set_cons_succ])
  (refine wpAnyH_take (i := 14) (oi := { dst := some 51, op := Go.Op.move (Go.Operand.tmp 11), type := 3, pos := _, after := _, guard := some (12, true) }) (v := ?_) rfl (by kernel_rfl) (by kernel_rfl) (by kernel_rfl) (fun _ _ _ h => h) (Or.inl ⟨by rfl, ?_⟩) (by assumption) ?_; rotate_left; (intro w hSw; (try dsimp only at hSw); go_simp; try with_reducible rfl); try simp only [Act.put, List.setIfInBounds_toArray, List.set_cons_zero, List.set_cons_succ])
  (refine wpAnyH_take (i := 15) (oi := { dst := some 52, op := Go.Op.binOp Go.BinOp.eql 3 (Go.Operand.tmp 50) (Go.Operand.tmp 51) 3, type := 4, pos := _, after := _, guard := some (12, true) }) (v := ?_) rfl (by kernel_rfl) (by kernel_rfl) (by kernel_rfl) (fun _ _ _ h => h) (Or.inl ⟨by rfl, ?_⟩) (by assumption) ?_; rotate_left; (intro w hSw; (try dsimp only at hSw); go_simp; try with_reducible rfl); try simp only [Act.put, List.setIfInBounds_toArray, List.set_cons_zero, List.set_cons_succ])
  (refine wpAnyH_take (i := 16) (oi := { dst := some 53, op := Go.Op.pick (Go.Operand.tmp 49) (Go.Operand.tmp 52) (Go.Operand.const (Go.Value.bool false)), type := 4, pos := _, after := _, guard := none }) (v := ?_) rfl (by kernel_rfl) (by kernel_rfl) (by kernel_rfl) (fun _ _ _ h => h) (Or.inl ⟨by rfl, ?_⟩) (by assumption) ?_; rotate_left; (intro w hSw; (try dsimp only at hSw); go_simp; try with_reducible rfl); try simp only [Act.put, List.setIfInBounds_toArray, List.set_cons_zero, List.set_cons_succ])
  (refine wpAnyH_take (i := 17) (oi := { dst := some 54, op := Go.Op.move (Go.Operand.tmp 53), type := 4, pos := _, after := _, guard := none }) (v := ?_) rfl (by kernel_rfl) (by kernel_rfl) (by kernel_rfl) (fun _ _ _ h => h) (Or.inl ⟨by rfl, ?_⟩) (by assumption) ?_; rotate_left; (intro w hSw; (try dsimp only at hSw); go_simp; try with_reducible rfl); try simp only [Act.put, List.setIfInBounds_toArray, List.set_cons_zero, List.set_cons_succ])
  (refine wpAnyH_take (i := 18) (oi := { dst := some 55, op := Go.Op.load 49 (Go.Operand.tmp 8), type := 49, pos := _, after := _, guard := some (17, true) }) (v := ?_) rfl (by kernel_rfl) (by kernel_rfl) (by kernel_rfl) (fun _ _ _ h => h) (Or.inl ⟨by rfl, ?_⟩) (by assumption) ?_; rotate_left; (intro w hSw; (try dsimp only at hSw); go_simp; try with_reducible rfl); try simp only [Act.put, List.setIfInBounds_toArray, List.set_cons_zero, List.set_cons_succ])
  (refine wpAnyH_take (i := 20) (oi := { dst := some 57, op := Go.Op.load 53 (Go.Operand.tmp 10), type := 53, pos := _, after := _, guard := some (17, true) }) (v := ?_) rfl (by kernel_rfl) (by kernel_rfl) (by kernel_rfl) (fun _ _ _ h => h) (Or.inl ⟨by rfl, ?_⟩) (by assumption) ?_; rotate_left; (intro w hSw; (try dsimp only at hSw); go_simp; try with_reducible rfl); try simp only [Act.put, List.setIfInBounds_toArray, List.set_cons_zero, List.set_cons_succ])
  refine wpAnyH_ready (rs := [19]) (by kernel_rfl) (by simp) ?_
  refine AllReadyH.cons (o := { dst := some 56, op := Go.Op.call { callee := Go.Callee.value (Go.Operand.func 34), args := #[Go.Operand.tmp 55], argTypes := #[49] }, type := 3, pos := _, after := _, guard := some (17, true) }) rfl (fun K hK => ?_) AllReadyH.nil
  go_simp
  (refine (hc1 _).mono ?_; rintro e w6 ⟨rfl, b6⟩)
  go_wp2_with fail
  refine hK.out _ _ ?_ (fun hHeld2 => ?_)
  · (go_split_ands; exact ⟨Below.trans (by assumption) (b6.mono (Below.size (by assumption))), kc b6 (by assumption), kc b6 (by assumption), kc b6 (by assumption), kc b6 (by assumption)⟩)
  clear hK K hHeld
  have hHeld := hHeld2
  clear hHeld2
  try simp only [Act.put, List.setIfInBounds_toArray, List.set_cons_zero, List.set_cons_succ]
  refine wpAnyH_ready (rs := [21]) (by kernel_rfl) (by simp) ?_
  refine AllReadyH.cons (o := { dst := some 58, op := Go.Op.call { callee := Go.Callee.value (Go.Operand.func 35), args := #[Go.Operand.tmp 57], argTypes := #[53] }, type := 3, pos := _, after := _, guard := some (17, true) }) rfl (fun K hK => ?_) AllReadyH.nil
  go_simp
  (refine (hc2 _).mono ?_; rintro e w7 ⟨rfl, b7⟩)
  go_wp2_with fail
  refine hK.out _ _ ?_ (fun hHeld2 => ?_)
  · (go_split_ands; exact ⟨Below.trans (by assumption) (b7.mono (Below.size (by assumption))), kc b7 (by assumption), kc b7 (by assumption), kc b7 (by assumption), kc b7 (by assumption)⟩)
  clear hK K hHeld
  have hHeld := hHeld2
  clear hHeld2
  try simp only [Act.put, List.setIfInBounds_toArray, List.set_cons_zero, List.set_cons_succ]
  (refine wpAnyH_take (i := 22) (oi := { dst := some 59, op := Go.Op.binOp Go.BinOp.eql 3 (Go.Operand.tmp 56) (Go.Operand.tmp 58) 3, type := 4, pos := _, after := _, guard := some (17, true) }) (v := ?_) rfl (by kernel_rfl) (by kernel_rfl) (by kernel_rfl) (fun _ _ _ h => h) (Or.inl ⟨by rfl, ?_⟩) (by assumption) ?_; rotate_left; (intro w hSw; (try dsimp only at hSw); go_simp; try with_reducible rfl); try simp only [Act.put, List.setIfInBounds_toArray, List.set_cons_zero, List.set_cons_succ])
  (refine wpAnyH_take (i := 23) (oi := { dst := some 60, op := Go.Op.pick (Go.Operand.tmp 54) (Go.Operand.tmp 59) (Go.Operand.const (Go.Value.bool false)), type := 4, pos := _, after := _, guard := none }) (v := ?_) rfl (by kernel_rfl) (by kernel_rfl) (by kernel_rfl) (fun _ _ _ h => h) (Or.inl ⟨by rfl, ?_⟩) (by assumption) ?_; rotate_left; (intro w hSw; (try dsimp only at hSw); go_simp; try with_reducible rfl); try simp only [Act.put, List.setIfInBounds_toArray, List.set_cons_zero, List.set_cons_succ])
  (refine wpAnyH_take (i := 24) (oi := { dst := some 61, op := Go.Op.move (Go.Operand.tmp 60), type := 4, pos := _, after := _, guard := none }) (v := ?_) rfl (by kernel_rfl) (by kernel_rfl) (by kernel_rfl) (fun _ _ _ h => h) (Or.inl ⟨by rfl, ?_⟩) (by assumption) ?_; rotate_left; (intro w hSw; (try dsimp only at hSw); go_simp; try with_reducible rfl); try simp only [Act.put, List.setIfInBounds_toArray, List.set_cons_zero, List.set_cons_succ])
  (refine wpAnyH_take (i := 25) (oi := { dst := some 62, op := Go.Op.move (Go.Operand.tmp 7), type := 46, pos := _, after := _, guard := some (24, true) }) (v := ?_) rfl (by kernel_rfl) (by kernel_rfl) (by kernel_rfl) (fun _ _ _ h => h) (Or.inl ⟨by rfl, ?_⟩) (by assumption) ?_; rotate_left; (intro w hSw; (try dsimp only at hSw); go_simp; try with_reducible rfl); try simp only [Act.put, List.setIfInBounds_toArray, List.set_cons_zero, List.set_cons_succ])
  (refine wpAnyH_take (i := 26) (oi := { dst := some 63, op := Go.Op.move (Go.Operand.tmp 2), type := 46, pos := _, after := _, guard := some (24, true) }) (v := ?_) rfl (by kernel_rfl) (by kernel_rfl) (by kernel_rfl) (fun _ _ _ h => h) (Or.inl ⟨by rfl, ?_⟩) (by assumption) ?_; rotate_left; (intro w hSw; (try dsimp only at hSw); go_simp; try with_reducible rfl); try simp only [Act.put, List.setIfInBounds_toArray, List.set_cons_zero, List.set_cons_succ])
  refine wpAnyH_ready (rs := [27]) (by kernel_rfl) (by simp) ?_
  refine AllReadyH.cons (o := { dst := some 64, op := Go.Op.call { callee := Go.Callee.value (Go.Operand.func 36), args := #[Go.Operand.tmp 62, Go.Operand.tmp 63], argTypes := #[46, 46] }, type := 4, pos := _, after := _, guard := some (24, true) }) rfl (fun K hK => ?_) AllReadyH.nil
  go_simp
  (refine (idxs_same A1 A c1 a l _ (HI6.out.keep (And.left hHeld) (Nat.le_refl _)) (HA6.out.keep (And.left hHeld) (Nat.le_refl _)) (by omega)).mono ?_; rintro e w8 ⟨rfl, b8⟩)
  go_wp2_with fail
  refine hK.out _ _ ?_ (fun hHeld2 => ?_)
  · (go_split_ands; exact ⟨Below.trans (by assumption) (b8.mono (Below.size (by assumption))), kc b8 (by assumption), kc b8 (by assumption), kc b8 (by assumption), kc b8 (by assumption)⟩)
  clear hK K hHeld
  have hHeld := hHeld2
  clear hHeld2
  try simp only [Act.put, List.setIfInBounds_toArray, List.set_cons_zero, List.set_cons_succ]
  (refine wpAnyH_take (i := 28) (oi := { dst := some 65, op := Go.Op.pick (Go.Operand.tmp 61) (Go.Operand.tmp 64) (Go.Operand.const (Go.Value.bool false)), type := 4, pos := _, after := _, guard := none }) (v := ?_) rfl (by kernel_rfl) (by kernel_rfl) (by kernel_rfl) (fun _ _ _ h => h) (Or.inl ⟨by rfl, ?_⟩) (by assumption) ?_; rotate_left; (intro w hSw; (try dsimp only at hSw); go_simp; try with_reducible rfl); try simp only [Act.put, List.setIfInBounds_toArray, List.set_cons_zero, List.set_cons_succ])
  (refine wpAnyH_take (i := 29) (oi := { dst := some 66, op := Go.Op.move (Go.Operand.tmp 65), type := 4, pos := _, after := _, guard := none }) (v := ?_) rfl (by kernel_rfl) (by kernel_rfl) (by kernel_rfl) (fun _ _ _ h => h) (Or.inl ⟨by rfl, ?_⟩) (by assumption) ?_; rotate_left; (intro w hSw; (try dsimp only at hSw); go_simp; try with_reducible rfl); try simp only [Act.put, List.setIfInBounds_toArray, List.set_cons_zero, List.set_cons_succ])
  refine wpAnyH_ready (rs := [30]) (by kernel_rfl) (by simp) ?_
  refine AllReadyH.cons (o := { dst := some 67, op := Go.Op.call { callee := Go.Callee.value (Go.Operand.func 30), args := #[], argTypes := #[] }, type := 4, pos := _, after := _, guard := some (29, true) }) rfl (fun K hK => ?_) AllReadyH.nil
  go_simp
  (refine (plan_wakes _).mono ?_; rintro e w9 ⟨rfl, b9⟩)
  go_wp2_with fail
  refine hK.out _ _ ?_ (fun hHeld2 => ?_)
  · (go_split_ands; exact ⟨Below.trans (by assumption) (b9.mono (Below.size (by assumption))), kc b9 (by assumption), kc b9 (by assumption), kc b9 (by assumption), kc b9 (by assumption)⟩)
  clear hK K hHeld
  have hHeld := hHeld2
  clear hHeld2
  try simp only [Act.put, List.setIfInBounds_toArray, List.set_cons_zero, List.set_cons_succ]
  (refine wpAnyH_take (i := 31) (oi := { dst := some 68, op := Go.Op.pick (Go.Operand.tmp 66) (Go.Operand.tmp 67) (Go.Operand.const (Go.Value.bool false)), type := 4, pos := _, after := _, guard := none }) (v := ?_) rfl (by kernel_rfl) (by kernel_rfl) (by kernel_rfl) (fun _ _ _ h => h) (Or.inl ⟨by rfl, ?_⟩) (by assumption) ?_; rotate_left; (intro w hSw; (try dsimp only at hSw); go_simp; try with_reducible rfl); try simp only [Act.put, List.setIfInBounds_toArray, List.set_cons_zero, List.set_cons_succ])
  (refine wpAnyH_take (i := 32) (oi := { dst := some 6, op := Go.Op.assign (Go.Operand.tmp 68), type := 4, pos := _, after := _, guard := none }) (v := ?_) rfl (by kernel_rfl) (by kernel_rfl) (by kernel_rfl) (fun _ _ _ h => h) (Or.inl ⟨by rfl, ?_⟩) (by assumption) ?_; rotate_left; (intro w hSw; (try dsimp only at hSw); go_simp; try with_reducible rfl); try simp only [Act.put, List.setIfInBounds_toArray, List.set_cons_zero, List.set_cons_succ])
  refine wpAnyH_done (by kernel_rfl) ?_ _
  have hb9 := k7.trans ((And.left hHeld).mono k7.size)
  go_wp2_with fail
  go_ret
  exact ⟨rfl, hb9⟩

set_option maxRecDepth 100000 in
theorem planTells_lifted (os : Os) (started : os.Started) (H : Type) (enc : TypeId × Value → H) :
    ReturnsInHanded {} Try.checked os 7 .any (Rows.planTellsSpec.pre6 enc Try.prog Try.f7 [] false) (Rows.planTellsSpec.post enc Try.prog Try.f7 false true false false) := by
  refine law_lifted (C := Try.checked) own started (by kernel_rfl) Try.func7
    (ChangeSpec.witness6 (enc := enc) (C := Try.checked) false ⟨#[], #[.agg #[.int .i64 0, .string ⟨#[]⟩, .string ⟨#[]⟩, .string ⟨#[]⟩, .string ⟨#[]⟩, .int .i64 0, .int .i64 0, .float .f64 0, .string ⟨#[]⟩, .int .i64 0, .int .i64 0, .float .f64 0, .string ⟨#[]⟩, .slice none 0 0, .slice none 0 0, .bool false], .slice none 0 0, .slice none 0 0], []⟩ 8 (by kernel_rfl) (by kernel_rfl) (by kernel_rfl) (by kernel_rfl))
    rfl (fun ds h => by match ds, h with | [_, _, _], _ => rfl) laid (by kernel_rfl) (tb := 4) rfl Try.underlying4 ?_
  intro W base args ds ps hval hA hsz
  rw [Try.params7] at hA hval hsz
  obtain ⟨v0, v1, v2, d0, d1, d2, q0, q1, q2, rfl, rfl, rfl, h0, h1, h2⟩ := trodAll_three hA
  obtain ⟨s, rl, cl, rfl, hs⟩ := open_stm (hval 0 45 v0 rfl rfl) h0
  obtain ⟨C, c, cols, rfl, hc, _, hnC⟩ := open_cols (hval 1 43 v1 rfl rfl) h1
  obtain ⟨A, a, l, rfl, ha, _, hnA⟩ := open_idxs (hval 2 46 v2 rfl rfl) h2
  exact tells_main s rl cl C c cols A a l W hs hc ha hnC hnA

theorem planTells_holds : Rows.PlanTellsSaid :=
  OpenClaim.holds_of_wide 7 Try.f7 rfl rfl rfl rfl rfl rfl rfl ⟨rfl, rfl, rfl, rfl, rfl⟩ rfl rfl rfl rfl rfl (by kernel_rfl) Try.func7 (by kernel_rfl)
    (of_decide_eq_true (by kernel_rfl)) (by unfold Func.isWrapper; first | (rw [if_pos (by decide +kernel)]; kernel_rfl) | (rw [if_neg (by decide +kernel)]; exact ⟨rfl, rfl⟩))
    (fun os started H enc _ => planTells_lifted os started H enc)
#print axioms planTells_holds
end Go.Proofs.Ytobdooojdadgpaa
