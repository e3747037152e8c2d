/- Contracts: what is large, a statement's copy, lists of indexes alike. -/
import Derived.Test.YtobdooojdadgpaaPlanM
import Derived.Outline
namespace Go.Proofs.Ytobdooojdadgpaa
open Go.RowKit Go.ChangeShapes Go.WideShapes Go.ChangeAt
set_option linter.unusedVariables false
set_option maxRecDepth 100000 in
set_option maxHeartbeats 2000000 in
theorem large_any (s : Stm) (rl : List Val) (cl : List Col) (C : Option Addr) (c : Nat) (cols : List Col) (A : Option Addr) (a : Nat) (l : List Idx) (w : World) (hs : StmIn w s rl cl) (hc : RdC w C cols) (ha : RdI w A l) :
    Calls Try.prog 29 #[sv s, .slice C cols.length c, .slice A l.length a] w (TestS w (cols.length ≤ 50 ∧ l.length ≤ 100 ∧ rl.length ≤ 50 ∧ cl.length ≤ 50)) := by
  have hst := run_sf
  have b0 : Below w.heap.size w (w.alloc (.cells s.a 45)) := (Below.refl _ _).alloc (Nat.le_refl _) _
  have hl := large_stmt s rl cl _ (hs.keep b0)
  have HL := Lib.hid hl
  have HC0 := Lib.hid (hc.keep b0 (Nat.le_refl _))
  have HA0 := Lib.hid (ha.keep b0 (Nat.le_refl _))
  clear hs hc ha hl
  go_enter Try.func29, Try.ntmps29
  go_wp2_with fail
  refine HL.out.mono ?_
  rintro e w1 ⟨b, rfl, hp, b1⟩
  have k1 := b0.trans (b1.mono b0.size)
  have HP := Lib.hid hp
  have HC1 := Lib.hid (HC0.out.keep b1 (Nat.le_refl _))
  have HA1 := Lib.hid (HA0.out.keep b1 (Nat.le_refl _))
  clear hp b1 HL HC0 HA0
  cases b with
  | true =>
    go_wp2_with fail
    go_ret
    exact ⟨true, rfl, (fun h => by cases h), k1⟩
  | false =>
    have h2 := large_cols C c cols w1 HC1.out
    cases hL : largeC cols with
    | true =>
      rw [hL] at h2
      clear hL
      go_wp2_with fail
      refine h2.mono ?_
      rintro e w2 ⟨rfl, b2⟩
      have k2 := k1.trans (b2.mono k1.size)
      go_wp2_with fail
      go_ret
      exact ⟨true, rfl, (fun h => by cases h), k2⟩
    | false =>
      rw [hL] at h2
      have HCL := Lib.hid (largeC_len hL)
      clear hL
      go_wp2_with fail
      refine h2.mono ?_
      rintro e w2 ⟨rfl, b2⟩
      have k2 := k1.trans (b2.mono k1.size)
      have HA2 := Lib.hid (HA1.out.keep b2 (Nat.le_refl _))
      clear h2 b2 k1 HA1
      by_cases hal : 100 < l.length
      · have t1 : decide ((100 : Int) < (l.length : Int)) = true := by rw [decide_eq_true]; omega
        go_wp2_with fail
        go_ret
        exact ⟨true, rfl, (fun h => by cases h), k2⟩
      · have t1 : decide ((100 : Int) < (l.length : Int)) = false := by rw [decide_eq_false]; omega
        go_wp2_with fail
        go_loop [7] (fun i => ∃ k : Nat, k ≤ l.length ∧ i = .int .i64 k) (fun i => l.length - (intOf i).toNat)
        case atStart => exact ⟨0, by omega, rfl⟩
        case round =>
          obtain ⟨k, hk, rfl⟩ := hrel
          by_cases hlt : k < l.length
          · obtain ⟨ad, rfl, q0, q1, q2, q3⟩ := RdI.at HA2.out k hlt
            generalize l[k] = x at *
            go_wp2_with fail
            all_goals first
              | (go_ret; exact ⟨true, rfl, (fun h => by cases h), k2⟩)
              | exact ⟨⟨k + 1, by omega, by go_num⟩, by simp [intOf]; omega⟩
          · obtain rfl : k = l.length := by omega
            go_wp2_with fail
            go_ret
            exact ⟨false, rfl, (fun _ => ⟨HCL.out, by omega, HP.out (by first | rfl | trivial)⟩), k2⟩
theorem index_same (n c : ByteArray) (u : Bool) (s : Int) (w : World) : Calls Try.prog 65 #[iv n c u s, iv n c u s] w fun e w' => e = .returned (.bool true) ∧ Below w.heap.size w w' := by
  have e1 : (n.toList == n.toList) = true := beq_self_eq_true _
  have e2 : (c.toList == c.toList) = true := beq_self_eq_true _
  have e3 : (u == u) = true := beq_self_eq_true _
  have e4 : (s == s) = true := beq_self_eq_true _
  go_enter Try.func65, Try.ntmps65
  go_wp2_with fail
  try go_quiet (fail)
  try go_wp2_with fail
  go_ret
  exact ⟨rfl, by first | exact below_drewN (((Below.refl _ _).alloc (Nat.le_refl _) _).alloc (by simp) _) _ | exact ((Below.refl _ _).alloc (Nat.le_refl _) _).alloc (by simp) _⟩
set_option maxRecDepth 100000 in
set_option maxHeartbeats 2000000 in
theorem idxs_same (A B : Option Addr) (c d : Nat) (l : List Idx) (w : World) (ha : RdI w A l) (hb : RdI w B l) (hlen : l.length ≤ 1000) : Calls Try.prog 36 #[.slice A l.length c, .slice B l.length d] w fun e w' => e = .returned (.bool true) ∧ Below w.heap.size w w' := by
  have HA := Lib.hid ha
  have HB := Lib.hid hb
  have HL := Lib.hid index_same
  have hself : ((l.length : Int) == (l.length : Int)) = true := beq_self_eq_true _
  clear ha hb
  go_enter Try.func36, Try.ntmps36
  go_wp2_with fail
  go_loopw [5] (fun i wr => ∃ k : Nat, k ≤ l.length ∧ i = .int .i64 k ∧ Below w.heap.size w wr) (fun i _ => l.length - (intOf i).toNat)
  case atStart => exact ⟨0, by omega, rfl, Below.refl _ _⟩
  case round =>
    obtain ⟨k, hk, rfl, hbr⟩ := hrel
    by_cases hlt : k < l.length
    · obtain ⟨ad, rfl, q0, q1, q2, q3⟩ := RdI.at (HA.out.keep hbr (Nat.le_refl _)) k hlt
      obtain ⟨bd, rfl, r0, r1, r2, r3⟩ := RdI.at (HB.out.keep hbr (Nat.le_refl _)) k hlt
      have hw1 : IntKind.i64.wrap ((k : Int) + 1) = (k : Int) + 1 := by rw [IntKind.wrap_i64]; omega
      have hcall := HL.out l[k].name l[k].col l[k].uniq l[k].st
      generalize l[k] = x at *
      go_wp2_with fail
      refine wp_region_held_drew (S := (fun w' => Below wr.heap.size wr w' ∧ w'.cell? (ad.add (k * 4)) = some (.string x.name) ∧ w'.cell? ⟨(ad.add (k * 4)).block, (ad.add (k * 4)).off + 1, none⟩ = some (.string x.col) ∧ w'.cell? ⟨(ad.add (k * 4)).block, (ad.add (k * 4)).off + 2, none⟩ = some (.bool x.uniq) ∧ w'.cell? ⟨(ad.add (k * 4)).block, (ad.add (k * 4)).off + 3, none⟩ = some (.int .i64 x.st) ∧ w'.cell? (bd.add (k * 4)) = some (.string x.name) ∧ w'.cell? ⟨(bd.add (k * 4)).block, (bd.add (k * 4)).off + 1, none⟩ = some (.string x.col) ∧ w'.cell? ⟨(bd.add (k * 4)).block, (bd.add (k * 4)).off + 2, none⟩ = some (.bool x.uniq) ∧ w'.cell? ⟨(bd.add (k * 4)).block, (bd.add (k * 4)).off + 3, none⟩ = some (.int .i64 x.st))) (by kernel_rfl) (⟨(Below.refl _ _).drew, q0, q1, q2, q3, r0, r1, r2, r3⟩) (fun hHeld => ?_)
      (refine wpAnyH_take (i := 0) (oi := { dst := some 17, op := Go.Op.move (Go.Operand.tmp 0), type := 46, pos := _, after := _, guard := none }) (v := ?_) rfl (by kernel_rfl) (by kernel_rfl) (by kernel_rfl) (fun _ _ _ h => h) (Or.inl ⟨by rfl, ?_⟩) (by assumption) ?_; rotate_left; (intro w hSw; (try dsimp only at hSw); go_simp; try with_reducible rfl); try simp only [Act.put, List.setIfInBounds_toArray, List.set_cons_zero, List.set_cons_succ])
      (refine wpAnyH_take (i := 1) (oi := { dst := some 18, op := Go.Op.move (Go.Operand.tmp 5), type := 3, pos := _, after := _, guard := none }) (v := ?_) rfl (by kernel_rfl) (by kernel_rfl) (by kernel_rfl) (fun _ _ _ h => h) (Or.inl ⟨by rfl, ?_⟩) (by assumption) ?_; rotate_left; (intro w hSw; (try dsimp only at hSw); go_simp; try with_reducible rfl); try simp only [Act.put, List.setIfInBounds_toArray, List.set_cons_zero, List.set_cons_succ])
      (refine wpAnyH_take (i := 2) (oi := { dst := some 19, op := Go.Op.indexAddr 46 (Go.Operand.tmp 17) (Go.Operand.tmp 18), type := 0, pos := _, after := _, guard := none }) (v := ?_) rfl (by kernel_rfl) (by kernel_rfl) (by kernel_rfl) (fun _ _ _ h => h) (Or.inl ⟨by rfl, ?_⟩) (by assumption) ?_; rotate_left; (intro w hSw; (try dsimp only at hSw); go_simp; try with_reducible rfl); try simp only [Act.put, List.setIfInBounds_toArray, List.set_cons_zero, List.set_cons_succ])
      (refine wpAnyH_take (i := 3) (oi := { dst := some 20, op := Go.Op.load 60 (Go.Operand.tmp 19), type := 60, pos := _, after := _, guard := none }) (v := ?_) rfl (by kernel_rfl) (by kernel_rfl) (by kernel_rfl) (fun _ _ _ h => h) (Or.inl ⟨by rfl, ?_⟩) (by assumption) ?_; rotate_left; (intro w hSw; (try dsimp only at hSw); go_simp; try with_reducible rfl); try simp only [Act.put, List.setIfInBounds_toArray, List.set_cons_zero, List.set_cons_succ])
      (refine wpAnyH_take (i := 4) (oi := { dst := some 21, op := Go.Op.move (Go.Operand.tmp 1), type := 46, pos := _, after := _, guard := none }) (v := ?_) rfl (by kernel_rfl) (by kernel_rfl) (by kernel_rfl) (fun _ _ _ h => h) (Or.inl ⟨by rfl, ?_⟩) (by assumption) ?_; rotate_left; (intro w hSw; (try dsimp only at hSw); go_simp; try with_reducible rfl); try simp only [Act.put, List.setIfInBounds_toArray, List.set_cons_zero, List.set_cons_succ])
      (refine wpAnyH_take (i := 5) (oi := { dst := some 22, op := Go.Op.move (Go.Operand.tmp 5), type := 3, pos := _, after := _, guard := none }) (v := ?_) rfl (by kernel_rfl) (by kernel_rfl) (by kernel_rfl) (fun _ _ _ h => h) (Or.inl ⟨by rfl, ?_⟩) (by assumption) ?_; rotate_left; (intro w hSw; (try dsimp only at hSw); go_simp; try with_reducible rfl); try simp only [Act.put, List.setIfInBounds_toArray, List.set_cons_zero, List.set_cons_succ])
      (refine wpAnyH_take (i := 6) (oi := { dst := some 23, op := Go.Op.indexAddr 46 (Go.Operand.tmp 21) (Go.Operand.tmp 22), type := 0, pos := _, after := _, guard := none }) (v := ?_) rfl (by kernel_rfl) (by kernel_rfl) (by kernel_rfl) (fun _ _ _ h => h) (Or.inl ⟨by rfl, ?_⟩) (by assumption) ?_; rotate_left; (intro w hSw; (try dsimp only at hSw); go_simp; try with_reducible rfl); try simp only [Act.put, List.setIfInBounds_toArray, List.set_cons_zero, List.set_cons_succ])
      (refine wpAnyH_take (i := 7) (oi := { dst := some 24, op := Go.Op.load 60 (Go.Operand.tmp 23), type := 60, pos := _, after := _, guard := none }) (v := ?_) rfl (by kernel_rfl) (by kernel_rfl) (by kernel_rfl) (fun _ _ _ h => h) (Or.inl ⟨by rfl, ?_⟩) (by assumption) ?_; rotate_left; (intro w hSw; (try dsimp only at hSw); go_simp; try with_reducible rfl); try simp only [Act.put, List.setIfInBounds_toArray, List.set_cons_zero, List.set_cons_succ])
      refine wpAnyH_ready (rs := [8]) (by kernel_rfl) (by simp) ?_
      refine AllReadyH.cons (o := { dst := some 25, op := Go.Op.call { callee := Go.Callee.value (Go.Operand.func 65), args := #[Go.Operand.tmp 20, Go.Operand.tmp 24], argTypes := #[60, 60] }, type := 4, pos := _, after := _, guard := none }) rfl (fun K hK => ?_) AllReadyH.nil
      go_simp
      (refine (hcall _).mono ?_; rintro e w6 ⟨rfl, b6⟩)
      go_wp2_with fail
      refine hK.out _ _ ?_ (fun hHeld2 => ?_)
      · (go_split_ands; exact ⟨Below.trans (by assumption) (b6.mono (Below.size (by assumption))), kc b6 (by assumption), kc b6 (by assumption), kc b6 (by assumption), kc b6 (by assumption), kc b6 (by assumption), kc b6 (by assumption), kc b6 (by assumption), kc b6 (by assumption)⟩)
      clear hK K hHeld
      have hHeld := hHeld2
      clear hHeld2
      try simp only [Act.put, List.setIfInBounds_toArray, List.set_cons_zero, List.set_cons_succ]
      (refine wpAnyH_take (i := 9) (oi := { dst := some 26, op := Go.Op.unOp Go.UnOp.not 4 (Go.Operand.tmp 25), type := 4, pos := _, after := _, guard := none }) (v := ?_) rfl (by kernel_rfl) (by kernel_rfl) (by kernel_rfl) (fun _ _ _ h => h) (Or.inl ⟨by rfl, ?_⟩) (by assumption) ?_; rotate_left; (intro w hSw; (try dsimp only at hSw); go_simp; try with_reducible rfl); try simp only [Act.put, List.setIfInBounds_toArray, List.set_cons_zero, List.set_cons_succ])
      refine wpAnyH_done (by kernel_rfl) ?_ _
      have hb3 := hbr.trans ((And.left hHeld).mono hbr.size)
      go_wp2_with fail
      exact ⟨⟨k + 1, by omega, by go_num, hb3⟩, by simp [intOf]; omega⟩
    · obtain rfl : k = l.length := by omega
      go_wp2_with fail
      go_ret
      exact ⟨rfl, hbr⟩
/-- A box's cells, all of them, and that they may be written. -/
def BoxT (w : World) (b : Nat) (cs : Array Value) : Prop := ∀ j v, cs[j]? = some v → w.cell? ⟨b, j, none⟩ = some v ∧ w.frozen? ⟨b, j, none⟩ = false
theorem BoxT.new (w : World) (cs : Array Value) (t : TypeId) : BoxT (w.alloc (.cells cs t)) w.heap.size cs := fun j v h => ⟨by rw [World.cell?_alloc_new]; exact h, World.frozen?_alloc_new _ _ _ _⟩
theorem BoxT.keep {w w' : World} {b : Nat} {cs : Array Value} (h : BoxT w b cs) (hb : Below w.heap.size w w') : BoxT w' b cs := fun j v hj => by
  obtain ⟨a, c⟩ := h j v hj
  exact ⟨kc hb a, (hb.frozen (p := ⟨b, j, none⟩) (World.block_lt_of_cell? _ _ a)).trans c⟩
theorem BoxT.set {w : World} {b : Nat} {cs : Array Value} (h : BoxT w b cs) (i : Nat) (hi : i < cs.size) (v : Value) : BoxT (w.setCell ⟨b, i, none⟩ v) b (cs.set i v) := fun j u hj => by
  refine ⟨?_, ?_⟩
  · by_cases e : i = j
    · subst e
      rw [Array.getElem?_set_self] at hj
      cases hj
      exact World.cell?_setCell_same _ _ _ (h i _ (Array.getElem?_eq_getElem hi)).1
    · rw [Array.getElem?_set_ne _ e] at hj
      exact (World.cell?_setCell_other _ _ _ _ (fun h => by cases h; exact e rfl)).trans (h j u hj).1
  · rw [World.frozen?_setCell]
    have hj' : j < cs.size := by
      have := (Array.getElem?_eq_some_iff.1 hj).1
      simpa using this
    exact (h j _ (Array.getElem?_eq_getElem hj')).2
theorem BoxT.other {w : World} {b : Nat} {cs : Array Value} (h : BoxT w b cs) (a : Addr) (ha : a.block ≠ b) (v : Value) : BoxT (w.setCell a v) b cs := fun j u hj => by
  obtain ⟨x, y⟩ := h j u hj
  refine ⟨(World.cell?_setCell_other _ _ _ _ (fun e => by subst e; exact ha rfl)).trans x, ?_⟩
  rw [World.frozen?_setCell]
  exact y
theorem BoxT.there {w : World} {b : Nat} {cs : Array Value} (h : BoxT w b cs) : w.there b 0 cs.size := fun j hj => by
  obtain ⟨x, y⟩ := h j _ (Array.getElem?_eq_getElem hj)
  rw [Nat.zero_add, x]
  exact ⟨rfl, y⟩
theorem res_cell {P : Program} {fn : Func} {t : Tmp} {ty : TypeId} (h : fn.results = #[.cell t ty]) (tmps : Array Value) (b : Nat) (ht : tmps.getD t undef = .pointer (some ⟨b, 0, none⟩)) (w : World) (v : Value) (hl : (loadVar ty ⟨b, 0, none⟩).run P w = .ok v w) : (results fn tmps).run P w = .ok v w := by
  have ha : asAddr (.pointer (some ⟨b, 0, none⟩)) = pure ⟨b, 0, none⟩ := rfl
  rw [Array.getD_eq_getD_getElem?] at ht
  simp [results, h, ht, ha, hl]
set_option maxRecDepth 100000 in
set_option maxHeartbeats 4000000 in
theorem copy_stmt0 (k : Int) (tb nm co se : ByteArray) (vk vn : Int) (vf : Nat) (vs : ByteArray) (wk wn : Int) (wf : Nat) (ws : ByteArray) (rA : Option Addr) (rc : Nat) (cA : Option Addr) (cc : Nat) (fl : Bool) (rl : List Val) (cl : List Col) (w : World) (hr : RdV w rA rl) (hc : RdC w cA cl) (hnr : rA = none → rc = 0) (hnc : cA = none → cc = 0) (hl1 : rl.length ≤ 50) (hl2 : cl.length ≤ 50) :
    Calls Try.prog 32 #[.agg #[.int .i64 k, .string tb, .string nm, .string co, .string se, .int .i64 vk, .int .i64 vn, .float .f64 vf, .string vs, .int .i64 wk, .int .i64 wn, .float .f64 wf, .string ws, .slice rA rl.length rc, .slice cA cl.length cc, .bool fl]] w fun e w' => ∃ A1 c1 A2 c2, e = .returned (.agg #[.int .i64 k, .string tb, .string nm, .string co, .string se, .int .i64 vk, .int .i64 vn, .float .f64 vf, .string vs, .int .i64 wk, .int .i64 wn, .float .f64 wf, .string ws, .slice A1 rl.length c1, .slice A2 cl.length c2, .bool fl]) ∧ Below w.heap.size w w' := by
  have hst := run_sf
  have b0 : Below w.heap.size w (w.alloc (.cells #[.int .i64 k, .string tb, .string nm, .string co, .string se, .int .i64 vk, .int .i64 vn, .float .f64 vf, .string vs, .int .i64 wk, .int .i64 wn, .float .f64 wf, .string ws, .slice rA rl.length rc, .slice cA cl.length cc, .bool fl] 45)) := (Below.refl _ _).alloc (Nat.le_refl _) _
  have b1 := b0.alloc b0.size (.cells #[.int .i64 0, .string ⟨#[]⟩, .string ⟨#[]⟩, .string ⟨#[]⟩, .string ⟨#[]⟩, .int .i64 0, .int .i64 0, .float .f64 0, .string ⟨#[]⟩, .int .i64 0, .int .i64 0, .float .f64 0, .string ⟨#[]⟩, .slice none 0 0, .slice none 0 0, .bool false] 45)
  have HB0 := Lib.hid ((BoxT.new w #[.int .i64 k, .string tb, .string nm, .string co, .string se, .int .i64 vk, .int .i64 vn, .float .f64 vf, .string vs, .int .i64 wk, .int .i64 wn, .float .f64 wf, .string ws, .slice rA rl.length rc, .slice cA cl.length cc, .bool fl] 45).keep ((Below.refl _ _).alloc (Nat.le_refl _) (.cells #[.int .i64 0, .string ⟨#[]⟩, .string ⟨#[]⟩, .string ⟨#[]⟩, .string ⟨#[]⟩, .int .i64 0, .int .i64 0, .float .f64 0, .string ⟨#[]⟩, .int .i64 0, .int .i64 0, .float .f64 0, .string ⟨#[]⟩, .slice none 0 0, .slice none 0 0, .bool false] 45)))
  have hz := BoxT.new (w.alloc (.cells #[.int .i64 k, .string tb, .string nm, .string co, .string se, .int .i64 vk, .int .i64 vn, .float .f64 vf, .string vs, .int .i64 wk, .int .i64 wn, .float .f64 wf, .string ws, .slice rA rl.length rc, .slice cA cl.length cc, .bool fl] 45)) #[.int .i64 0, .string ⟨#[]⟩, .string ⟨#[]⟩, .string ⟨#[]⟩, .string ⟨#[]⟩, .int .i64 0, .int .i64 0, .float .f64 0, .string ⟨#[]⟩, .int .i64 0, .int .i64 0, .float .f64 0, .string ⟨#[]⟩, .slice none 0 0, .slice none 0 0, .bool false] 45
  have e2 : (w.alloc (.cells #[.int .i64 k, .string tb, .string nm, .string co, .string se, .int .i64 vk, .int .i64 vn, .float .f64 vf, .string vs, .int .i64 wk, .int .i64 wn, .float .f64 wf, .string ws, .slice rA rl.length rc, .slice cA cl.length cc, .bool fl] 45)).heap.size = w.heap.size + 1 := by simp
  rw [e2] at hz
  have HZ0 := Lib.hid hz
  have HR0 := Lib.hid (hr.keep b1 (Nat.le_refl _))
  have HC0 := Lib.hid (hc.keep b1 (Nat.le_refl _))
  have HNR := Lib.hid hnr
  have HNC := Lib.hid hnc
  have HRw := Lib.hid hr
  have HCw := Lib.hid hc
  clear hr hc hz e2 hnr hnc
  go_enter Try.func32, Try.ntmps32
  go_wp2_with (first
    | (at_builtin; refine wl_app_vals rfl _ _ rfl _ _ 0 [] rfl (Fresh.empty _ _ _ _ _) (Nat.le_refl _) rA rc rl rfl HNR.out (HRw.out.keep (b1.alloc b1.size _) (Nat.le_refl _)) (by omega) ?_; intro v3 w3 hF b3' _; rw [Nat.zero_add, List.nil_append] at hF; obtain ⟨A1, c1, rfl, hn1⟩ := hF.slice; have k3 := (b1.alloc b1.size _).trans (b3'.mono (b1.alloc b1.size _).size); have HB3 := Lib.hid ((HB0.out.keep ((Below.refl _ _).alloc (Nat.le_refl _) _)).keep b3'); have HZ3 := Lib.hid ((HZ0.out.keep ((Below.refl _ _).alloc (Nat.le_refl _) _)).keep b3'); obtain ⟨f13, z13⟩ := HB3.out 13 _ rfl; obtain ⟨f14, z14⟩ := HB3.out 14 _ rfl; have hlt3 : w.heap.size < w3.heap.size := World.block_lt_of_cell? _ _ f13; clear hF b3')
    | (at_builtin; refine wl_app_cols rfl _ _ rfl _ _ 0 [] rfl (Fresh.empty _ _ _ _ _) (Nat.le_refl _) cA cc cl rfl HNC.out (HCw.out.keep ((k3.setCell (by show w.heap.size ≤ w.heap.size; omega) _).alloc (k3.setCell (by show w.heap.size ≤ w.heap.size; omega) _).size _) (Nat.le_refl _)) (by omega) ?_; intro v4 w4 hF b4' _; rw [Nat.zero_add, List.nil_append] at hF; obtain ⟨A2, c2, rfl, hn2⟩ := hF.slice; have k4 := ((k3.setCell (p := ⟨w.heap.size, 13, none⟩) (by show w.heap.size ≤ w.heap.size; omega) _).alloc (k3.setCell (by show w.heap.size ≤ w.heap.size; omega) _).size _).trans (b4'.mono ((k3.setCell (p := ⟨w.heap.size, 13, none⟩) (by show w.heap.size ≤ w.heap.size; omega) _).alloc (k3.setCell (by show w.heap.size ≤ w.heap.size; omega) _).size _).size); have HB4 := Lib.hid (((HB3.out.set 13 (by show 13 < 16; decide) (.slice A1 rl.length c1)).keep ((Below.refl _ _).alloc (Nat.le_refl _) _)).keep b4'); have HZ4 := Lib.hid (((HZ3.out.other ⟨w.heap.size, 13, none⟩ (by show w.heap.size ≠ w.heap.size + 1; omega) (.slice A1 rl.length c1)).keep ((Below.refl _ _).alloc (Nat.le_refl _) _)).keep b4'); clear hF b4' f13 f14 z13 z14; obtain ⟨f0, z0⟩ := HB4.out 0 _ rfl; obtain ⟨f1, z1⟩ := HB4.out 1 _ rfl; obtain ⟨f2, z2⟩ := HB4.out 2 _ rfl; obtain ⟨f3, z3⟩ := HB4.out 3 _ rfl; obtain ⟨f4, z4⟩ := HB4.out 4 _ rfl; obtain ⟨f5, z5⟩ := HB4.out 5 _ rfl; obtain ⟨f6, z6⟩ := HB4.out 6 _ rfl; obtain ⟨f7, z7⟩ := HB4.out 7 _ rfl; obtain ⟨f8, z8⟩ := HB4.out 8 _ rfl; obtain ⟨f9, z9⟩ := HB4.out 9 _ rfl; obtain ⟨f10, z10⟩ := HB4.out 10 _ rfl; obtain ⟨f11, z11⟩ := HB4.out 11 _ rfl; obtain ⟨f12, z12⟩ := HB4.out 12 _ rfl; obtain ⟨f13, z13⟩ := HB4.out 13 _ rfl; obtain ⟨f14, z14⟩ := HB4.out 14 _ rfl; obtain ⟨f15, z15⟩ := HB4.out 15 _ rfl; obtain ⟨g0, y0⟩ := HZ4.out 0 _ rfl; obtain ⟨g1, y1⟩ := HZ4.out 1 _ rfl; obtain ⟨g2, y2⟩ := HZ4.out 2 _ rfl; obtain ⟨g3, y3⟩ := HZ4.out 3 _ rfl; obtain ⟨g4, y4⟩ := HZ4.out 4 _ rfl; obtain ⟨g5, y5⟩ := HZ4.out 5 _ rfl; obtain ⟨g6, y6⟩ := HZ4.out 6 _ rfl; obtain ⟨g7, y7⟩ := HZ4.out 7 _ rfl; obtain ⟨g8, y8⟩ := HZ4.out 8 _ rfl; obtain ⟨g9, y9⟩ := HZ4.out 9 _ rfl; obtain ⟨g10, y10⟩ := HZ4.out 10 _ rfl; obtain ⟨g11, y11⟩ := HZ4.out 11 _ rfl; obtain ⟨g12, y12⟩ := HZ4.out 12 _ rfl; obtain ⟨g13, y13⟩ := HZ4.out 13 _ rfl; obtain ⟨g14, y14⟩ := HZ4.out 14 _ rfl; obtain ⟨g15, y15⟩ := HZ4.out 15 _ rfl; have hlt4 : w.heap.size + 1 < w4.heap.size := World.block_lt_of_cell? _ _ g0; clear HB3 HZ3))
  refine bodyPost_ret (v := .agg #[.int .i64 k, .string tb, .string nm, .string co, .string se, .int .i64 vk, .int .i64 vn, .float .f64 vf, .string vs, .int .i64 wk, .int .i64 wn, .float .f64 wf, .string ws, .slice A1 rl.length c1, .slice A2 cl.length c2, .bool fl]) ?res rfl ⟨A1, c1, A2, c2, rfl, ?bel⟩
  case res => exact res_cell (fn := Try.f32) rfl _ (w.heap.size + 1) rfl _ _ (run_loadVar_mid _ (w.heap.size + 1) 0 45 [.int .i64 k, .string tb, .string nm, .string co, .string se, .int .i64 vk, .int .i64 vn, .float .f64 vf, .string vs, .int .i64 wk, .int .i64 wn, .float .f64 wf, .string ws, .slice A1 rl.length c1, .slice A2 cl.length c2, .bool fl] _ (World.rangeAt_setCells_same (w4.setCell ⟨w.heap.size, 14, none⟩ (.slice A2 cl.length c2)) (w.heap.size + 1) 0 [.int .i64 k, .string tb, .string nm, .string co, .string se, .int .i64 vk, .int .i64 vn, .float .f64 vf, .string vs, .int .i64 wk, .int .i64 wn, .float .f64 wf, .string ws, .slice A1 rl.length c1, .slice A2 cl.length c2, .bool fl] ((HZ4.out.other ⟨w.heap.size, 14, none⟩ (by show w.heap.size ≠ w.heap.size + 1; omega) (.slice A2 cl.length c2)).there)) Try.underlying45 rfl (by kernel_rfl))
  case bel => exact (((((((((((((((((k4.setCell (p := ⟨w.heap.size, 14, none⟩) (by show w.heap.size ≤ w.heap.size; omega) (.slice A2 cl.length c2)).setCell (p := ⟨w.heap.size + 1, 0, none⟩) (by show w.heap.size ≤ w.heap.size + 1; omega) (.int .i64 k)).setCell (p := ⟨w.heap.size + 1, 1, none⟩) (by show w.heap.size ≤ w.heap.size + 1; omega) (.string tb)).setCell (p := ⟨w.heap.size + 1, 2, none⟩) (by show w.heap.size ≤ w.heap.size + 1; omega) (.string nm)).setCell (p := ⟨w.heap.size + 1, 3, none⟩) (by show w.heap.size ≤ w.heap.size + 1; omega) (.string co)).setCell (p := ⟨w.heap.size + 1, 4, none⟩) (by show w.heap.size ≤ w.heap.size + 1; omega) (.string se)).setCell (p := ⟨w.heap.size + 1, 5, none⟩) (by show w.heap.size ≤ w.heap.size + 1; omega) (.int .i64 vk)).setCell (p := ⟨w.heap.size + 1, 6, none⟩) (by show w.heap.size ≤ w.heap.size + 1; omega) (.int .i64 vn)).setCell (p := ⟨w.heap.size + 1, 7, none⟩) (by show w.heap.size ≤ w.heap.size + 1; omega) (.float .f64 vf)).setCell (p := ⟨w.heap.size + 1, 8, none⟩) (by show w.heap.size ≤ w.heap.size + 1; omega) (.string vs)).setCell (p := ⟨w.heap.size + 1, 9, none⟩) (by show w.heap.size ≤ w.heap.size + 1; omega) (.int .i64 wk)).setCell (p := ⟨w.heap.size + 1, 10, none⟩) (by show w.heap.size ≤ w.heap.size + 1; omega) (.int .i64 wn)).setCell (p := ⟨w.heap.size + 1, 11, none⟩) (by show w.heap.size ≤ w.heap.size + 1; omega) (.float .f64 wf)).setCell (p := ⟨w.heap.size + 1, 12, none⟩) (by show w.heap.size ≤ w.heap.size + 1; omega) (.string ws)).setCell (p := ⟨w.heap.size + 1, 13, none⟩) (by show w.heap.size ≤ w.heap.size + 1; omega) (.slice A1 rl.length c1)).setCell (p := ⟨w.heap.size + 1, 14, none⟩) (by show w.heap.size ≤ w.heap.size + 1; omega) (.slice A2 cl.length c2)).setCell (p := ⟨w.heap.size + 1, 15, none⟩) (by show w.heap.size ≤ w.heap.size + 1; omega) (.bool fl))
/-- The statement's copy is alike where plans look. -/
def StmLike (s s' : Stm) : Prop := s'.kind = s.kind ∧ s'.col = s.col ∧ s'.set = s.set
theorem copy_stmt (s : Stm) (rl : List Val) (cl : List Col) (w : World) (h : StmIn w s rl cl) (h1 : rl.length ≤ 50) (h2 : cl.length ≤ 50) : Calls Try.prog 32 #[sv s] w fun e w' => ∃ s', e = .returned (sv s') ∧ StmLike s s' ∧ Below w.heap.size w w' := by
  obtain ⟨k, tb, nm, co, se, ⟨vk, vn, vf, vs⟩, ⟨wk, wn, wf, ws⟩, rA, rn, rc, cA, cn, cc, fl⟩ := s
  have hrn : rn = rl.length := h.rn
  have hcn : cn = cl.length := h.cn
  subst hrn hcn
  refine (copy_stmt0 k tb nm co se vk vn vf vs wk wn wf ws rA rc cA cc fl rl cl w h.rr h.rc h.nr h.nc h1 h2).mono ?_
  rintro e w' ⟨A1, c1, A2, c2, rfl, hb⟩
  exact ⟨⟨k, tb, nm, co, se, ⟨vk, vn, vf, vs⟩, ⟨wk, wn, wf, ws⟩, A1, rl.length, c1, A2, cl.length, c2, fl⟩, rfl, ⟨rfl, rfl, rfl⟩, hb⟩
theorem ofE_like {s s' : Stm} (h : StmLike s s') (cols : List Col) : ofE s' cols = ofE s cols := by
  unfold ofE
  rw [h.1, h.2.1, h.2.2]
theorem ofW_like {s s' : Stm} (h : StmLike s s') (cols : List Col) (l : List Idx) : ofW s' cols l = ofW s cols l := by
  unfold ofW
  rw [ofE_like h, h.1, h.2.1]
theorem ofI_like {s s' : Stm} (h : StmLike s s') (cols : List Col) (l : List Idx) : ofI s' cols l = ofI s cols l := by
  unfold ofI
  rw [ofE_like h, h.1, h.2.1]
end Go.Proofs.Ytobdooojdadgpaa
