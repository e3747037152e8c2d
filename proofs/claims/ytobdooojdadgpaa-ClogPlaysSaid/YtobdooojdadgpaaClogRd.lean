/- Contracts of the document's log: Begin; a drawn region whose last operation stores where its others read. -/
import Derived.Test.YtobdooojdadgpaaClogRc
import Derived.Deep.RegionHeld
namespace Go.Proofs.Ytobdooojdadgpaa
open Go.RowKit
set_option linter.unusedVariables false

section
variable {P : Program} {ops : Array Oper} {Q : Exit → Act → World → Prop} {md : Region.Mode} {S : World → Prop} {last : Nat}

/-- As 'wpAnyH', but behind the operation 'last' the condition need not hold. -/
def wpAnyT (P : Program) (md : Region.Mode) (ops : Array Oper) (Q : Exit → Act → World → Prop) (S : World → Prop) (last : Nat) : Nat → Array Bool → Act → World → Prop
  | 0, listed, a, w => Region.ready md ops listed = [] ∧ Q .normal a w
  | fuel + 1, listed, a, w =>
    (Region.ready md ops listed = [] → Q .normal a w) ∧
    ∀ i ∈ Region.ready md ops listed, wpOp P ops Q i (fun a' w' => (i ≠ last → S w') ∧ wpAnyT P md ops Q S last fuel (listed.setIfInBounds i true) a' w') a w
theorem wpAny_of_T : ∀ (fuel : Nat) (listed : Array Bool) (a : Act) (w : World), wpAnyT P md ops Q S last fuel listed a w → wpAny P md ops Q fuel listed a w
  | 0, _, _, _, h => h
  | fuel + 1, _, _, _, h => ⟨h.1, fun i hi => wpOp_mono (fun a' w' h' => wpAny_of_T fuel _ a' w' h'.2) (h.2 i hi)⟩
theorem wpAnyT_first {i : Nat} {oi : Oper} {v : Value} (hi : ops[i]? = some oi) (hsel : ∀ (j : Nat) (o : Oper) cs b, ops[j]? = some o → o.op ≠ .select cs b)
    (hQ : ∀ c a w, Q (.panic c) (a.put oi.dst v) w → Q (.panic c) a w) (hlast : ∀ oj, ops[last]? = some oj → ∃ e ∈ oj.after, Region.binds md e = true ∧ e.on = i) :
    ∀ (fuel : Nat) (listed : Array Bool) (a : Act) (w : World),
      (∀ j oj, ops[j]? = some oj → j ≠ i → listed.getD j true = false → (∀ e ∈ oj.after, Region.binds md e = true → e.on ≠ i) → oi.apart ops oj = true) →
      i ∈ Region.ready md ops listed → YieldsIf P ops S oi v a → S w →
      wpAnyT P md ops Q S last fuel (listed.setIfInBounds i true) (a.put oi.dst v) w → wpAnyT P md ops Q S last (fuel + 1) listed a w := by
  intro fuel
  induction fuel with
  | zero =>
    intro listed a w _ hr hy hS H
    refine ⟨fun h => (by rw [h] at hr; cases hr), fun j hj => ?_⟩
    by_cases hji : j = i
    · subst hji; exact hy.wpOp hi hS ⟨fun _ => hS, H⟩
    · have := ready_mono hj hji
      rw [H.1] at this
      cases this
  | succ fuel ih =>
    intro listed a w hfree hr hy hS H
    refine ⟨fun h => (by rw [h] at hr; cases hr), fun j hj => ?_⟩
    by_cases hji : j = i
    · subst hji; exact hy.wpOp hi hS ⟨fun _ => hS, H⟩
    · have h1 := H.2 j (ready_mono hj hji)
      obtain ⟨hjun, oj, hoj, hall⟩ := mem_ready.1 hj
      have hnot : ∀ e ∈ oj.after, Region.binds md e = true → e.on ≠ i := fun e he hb heq => by
        have h1 := hall e he hb
        have h0 := (mem_ready.1 hr).1
        rw [heq] at h1
        rcases Nat.lt_or_ge i listed.size with h' | h'
        · simp [h'] at h0 h1; rw [h0] at h1; cases h1
        · simp [Array.getElem?_eq_none h'] at h1
      have hjl : j ≠ last := fun e => by
        subst e
        obtain ⟨e, he, hb, ho⟩ := hlast oj hoj
        exact hnot e he hb ho
      have h2 := wpOp_putIf hoj (hfree j oj hoj hji hjun hnot) (fun cs b => hsel i oi cs b hi) (fun cs b => hsel j oj cs b hoj) hQ hy h1
      have hfree' : ∀ k ok, ops[k]? = some ok → k ≠ i → (listed.setIfInBounds j true).getD k true = false →
          (∀ e ∈ ok.after, Region.binds md e = true → e.on ≠ i) → oi.apart ops ok = true := fun k ok hk hki hun hno => by
        refine hfree k ok hk hki ?_ hno
        by_cases hjk : j = k
        · subst hjk; exact hjun
        · rw [getD_set_ne true hjk] at hun; exact hun
      refine wpOp_mono (fun a' w' h3 => ⟨h3.2.1, ih (listed.setIfInBounds j true) a' w' hfree' (ready_mono hr (Ne.symm hji)) h3.1 (h3.2.1 hjl) ?_⟩) h2
      rw [Array.setIfInBounds_comm _ _ hji]
      exact h3.2.2
theorem wpAnyT_take {i : Nat} {oi : Oper} {v : Value} {fuel : Nat} {listed : Array Bool} {a : Act} {w : World} (hi : ops[i]? = some oi)
    (hs : Region.noSelect ops = true) (hf : Region.free md ops listed i = true) (hr : (Region.ready md ops listed).contains i = true)
    (hl : (ops[last]?.map fun o => o.after.any fun e => Region.binds md e && e.on == i) = some true)
    (hQ : ∀ c a w, Q (.panic c) (a.put oi.dst v) w → Q (.panic c) a w) (hy : YieldsIf P ops S oi v a) (hS : S w)
    (h : wpAnyT P md ops Q S last fuel (listed.setIfInBounds i true) (a.put oi.dst v) w) : wpAnyT P md ops Q S last (fuel + 1) listed a w :=
  wpAnyT_first hi (Region.noSelect_spec hs) hQ (fun oj hoj => by
    rw [hoj] at hl
    simp only [Option.map_some, Option.some.injEq, Array.any_eq_true'] at hl
    obtain ⟨e, he, h2⟩ := hl
    rw [Bool.and_eq_true] at h2
    exact ⟨e, he, h2.1, eq_of_beq h2.2⟩) fuel listed a w (Region.free_spec hi hf) (by simpa using hr) hy hS h
theorem wpAnyT_done {listed : Array Bool} {a : Act} {w : World} (hr : Region.ready md ops listed = []) (h : Q .normal a w) : ∀ fuel, wpAnyT P md ops Q S last fuel listed a w
  | 0 => ⟨hr, h⟩
  | _ + 1 => ⟨fun _ => h, by rw [hr]; simp⟩
def AllReadyT (P : Program) (md : Region.Mode) (ops : Array Oper) (Q : Exit → Act → World → Prop) (S : World → Prop) (last : Nat) (fuel : Nat) (listed : Array Bool) (a : Act) (w : World) (rs : List Nat) : Prop :=
  ∀ i ∈ rs, wpOp P ops Q i (fun a' w' => (i ≠ last → S w') ∧ wpAnyT P md ops Q S last fuel (listed.setIfInBounds i true) a' w') a w
theorem AllReadyT.nil {fuel : Nat} {listed : Array Bool} {a : Act} {w : World} : AllReadyT P md ops Q S last fuel listed a w [] := fun _ h => by cases h
theorem AllReadyT.cons {fuel : Nat} {listed : Array Bool} {a : Act} {w : World} {i : Nat} {o : Oper} {rs : List Nat} (ho : ops[i]? = some o)
    (h : ∀ K' : Act → World → Prop, Shut (∀ a w, (i ≠ last → S w) → ((i ≠ last → S w) → wpAnyT P md ops Q S last fuel (listed.setIfInBounds i true) a w) → K' a w) → if Region.wanted o (yielded ops a.tmps) = true then Oper.wp P o a w K' Q else K' (a.put o.dst undef) w)
    (hs : AllReadyT P md ops Q S last fuel listed a w rs) : AllReadyT P md ops Q S last fuel listed a w (i :: rs) := fun j hj => by
  rcases List.mem_cons.1 hj with rfl | hj
  · exact wpOp_step ho (fun K' hK => h K' (fun a w hS hW => hK a w ⟨hS, hW hS⟩))
  · exact hs j hj
theorem wpAnyT_ready {rs : List Nat} {fuel : Nat} {listed : Array Bool} {a : Act} {w : World} (hr : Region.ready md ops listed = rs) (hne : rs ≠ [])
    (h : AllReadyT P md ops Q S last fuel listed a w rs) : wpAnyT P md ops Q S last (fuel + 1) listed a w := ⟨fun h0 => absurd (hr ▸ h0) hne, hr ▸ h⟩
theorem wp_region_t_drew {id : Nat} {a : Act} {w : World} (last : Nat) (hm : P.follows .mixedOrders = true) (hS : S w.drew)
    (h : S w.drew → wpAnyT P .any ops Q S last ops.size (Array.replicate ops.size false) a w.drew) : (Code.region id ops true).wp P Q a w :=
  wp_region_any hm (wpAny_of_T _ _ _ _ (h hS))
end

section
variable {w : World} {o : Oper} {a : Act} {K : Act → World → Prop} {Q : Exit → Act → World → Prop}
theorem wp_build71 (ho : o.op = .buildSlice 71 0 #[]) (h : ∀ w' b, Below w.heap.size w w' → K (a.put o.dst (.slice (some b) 0 0)) w') : o.wp Try.prog a w K Q := by
  have hr : (execOp a.eval o).run Try.prog w = .ok (.value (.slice (some ⟨w.heap.size, 0, none⟩) 0 0)) (w.alloc (.cells #[] 113)) := by
    unfold execOp
    rw [ho]
    go_simp
  unfold Oper.wp
  rw [hr, Oper.upon_value]
  exact (h _ _ ((Below.refl _ _).alloc (Nat.le_refl _) _))
theorem wp_build71x (x : Tmp) (ho : o.op = .buildSlice 71 1 #[(0, .tmp x)]) (t : Tx) (hx : a.eval (.tmp x) = rxV t) (h : ∀ w' ad, RdL Tx.rc 4 w' (some ad) [t] → Below w.heap.size w w' → K (a.put o.dst (.slice (some ad) ([t] : List Tx).length 1)) w') : o.wp Try.prog a w K Q := by
  have hr : (execOp a.eval o).run Try.prog w = .ok (.value (.slice (some ⟨w.heap.size, 0, none⟩) 1 1)) (w.alloc (.cells #[.int .i64 t.state, .int .i64 t.snap, .int .i64 t.csn, .bool t.reads] 113)) := by
    unfold execOp
    rw [ho]
    have hx' : a.tmps[x]?.getD undef = rxV t := by have := hx; simpa [Act.eval] using this
    go_simp
  unfold Oper.wp
  rw [hr, Oper.upon_value]
  exact (h _ _ (RdL.new rc_len w 113 [t]) ((Below.refl _ _).alloc (Nat.le_refl _) _))
theorem info113 : (Try.prog.info? 113).map (fun i => (i.zero, i.size, i.bytes)) = some (some (rxV Tx.zero), 4, 32) := by kernel_rfl
theorem rc_one (t : Tx) : ∀ u ∈ t.rc, u.oneCell' = true := fun u hu => by
  simp [Tx.rc] at hu
  rcases hu with rfl | rfl | rfl | rfl <;> rfl
theorem wp_app_txs (s x : Operand) (ho : o.op = .call { callee := .builtin .append, args := #[s, x], argTypes := #[71, 71] })
    (B : Nat) (v : Value) (n : Nat) (xs : List Value) (hs : a.eval s = v) (hF : Fresh w B 113 4 v n xs) (hB : B ≤ w.heap.size)
    (A : Option Addr) (c : Nat) (l : List Tx) (hx : a.eval x = .slice A l.length c) (hn : A = none → c = 0) (hr : RdL Tx.rc 4 w A l) (hl : n + l.length ≤ 100000)
    (h : ∀ v' w', Fresh w' B 113 4 v' (n + l.length) (xs ++ l.flatMap Tx.rc) → Below B w w' → ((∃ b, v = .slice (some b) 0 0) → Below w.heap.size w w' ∧ v' ≠ .slice none 0 0) → K (a.put o.dst v') w') : o.wp Try.prog a w K Q := by
  obtain ⟨i0, hi, hz0, hz1, hz2⟩ := info_parts info113
  exact wp_append_fresh s x 71 ho 113 i0 _ 4 _ Try.underlying71 hi hz0 hz1 hz2 rfl (by decide) Tx.rc rc_len rc_one B v n xs hs hF hB A c l hx hn hr hl (by decide) h
end
theorem Fresh.kept {w w' : World} {B : Nat} {e : TypeId} {size : Nat} {v : Value} {n : Nat} {xs : List Value} (h : Fresh w B e size v n xs) (hb : Below w.heap.size w w') : Fresh w' B e size v n xs := h.imp (fun h => own_kept h hb) id
theorem Fresh.own {w : World} {B : Nat} {e : TypeId} {size : Nat} {v : Value} {n : Nat} {xs : List Value} (h : Fresh w B e size v n xs) (hn : n ≠ 0) : w.ownsRow B e size v n xs := by
  rcases h with h | ⟨h0, _⟩
  · exact h
  · exact absurd h0 hn

theorem ref_begin_full (q : Nat) (r : Bool) (S : LogS) (w : World) (h : RefAt w q S) (hl : S.l.length = 200) :
    Calls Try.prog 69 #[ptr q, .bool r] w fun e w' => e = .returned (.tuple #[.int .i64 0, .int .i64 74]) ∧ w = w' := by
  obtain ⟨A, c, h0, h1, hn, hr⟩ := h.cells
  rw [hl] at h0
  clear hn hr h hl
  go_enter Try.func69, Try.ntmps69
  go_wp2_with fail
  go_ret2
  exact ⟨rfl, rfl⟩

set_option maxRecDepth 100000 in
set_option maxHeartbeats 4000000 in
theorem ref_begin_yes (q : Nat) (r : Bool) (S : LogS) (w : World) (h : RefAt w q S) (hl : S.l.length < 200) :
    Calls Try.prog 69 #[ptr q, .bool r] w fun e w' => e = .returned (.tuple #[.int .i64 (S.l.length + 1), .int .i64 0]) ∧ RefAt w' q (S.begin' r) ∧ Below q w w' := by
  have hlt := h.lt
  obtain ⟨A, c, r1, r2, hn, hr⟩ := h.opened
  have h0 := r1.cell (i := 0) (by omega)
  have h1 := r1.cell (i := 1) (by omega)
  rw [if_pos rfl] at h0
  rw [if_neg (by omega)] at h1
  have hlen := len_begin S r
  have hbl : (S.begin' r).l.flatMap Tx.rc = S.l.flatMap Tx.rc ++ ([⟨1, 0, S.clock, r⟩] : List Tx).flatMap Tx.rc := by simp [LogS.begin']
  have R1 := Lib.hid r1
  have HN := Lib.hid hn
  have HR := Lib.hid hr
  have HLEN := Lib.hid hlen
  have HBL := Lib.hid hbl
  have HL := Lib.hid hl
  have d2 : decide ((200 : Int) ≤ (S.l.length : Int)) = false := decide_eq_false (by omega)
  clear r1 r2 hn hr hlen hbl h
  go_enter Try.func69, Try.ntmps69
  go_wp2_with fail
  refine wp_region_t_drew (S := (fun w' => Below w.heap.size w w' ∧ w'.cell? ⟨q, 0, none⟩ = some (.slice A S.l.length c) ∧ w'.cell? ⟨q, 1, none⟩ = some (.int .i64 S.clock)) ) 17 (by kernel_rfl) (⟨(Below.refl _ _).drew, h0, h1⟩) (fun hHeld => ?_)
  (refine wpAnyT_take (i := 0) (oi := { dst := some 12, op := Go.Op.move (Go.Operand.tmp 0), type := 70, pos := _, after := _, guard := none }) (v := ?_) rfl (by kernel_rfl) (by kernel_rfl) (by kernel_rfl) (by kernel_rfl) (fun _ _ _ h => h) (Or.inl ⟨by rfl, ?_⟩) (by assumption) ?_; rotate_left; (intro w hSw; (try dsimp only at hSw); go_simp; try with_reducible rfl); try simp only [Act.put, List.setIfInBounds_toArray, List.set_cons_zero, List.set_cons_succ])
  (refine wpAnyT_take (i := 2) (oi := { dst := some 14, op := Go.Op.move (Go.Operand.tmp 0), type := 70, pos := _, after := _, guard := none }) (v := ?_) rfl (by kernel_rfl) (by kernel_rfl) (by kernel_rfl) (by kernel_rfl) (fun _ _ _ h => h) (Or.inl ⟨by rfl, ?_⟩) (by assumption) ?_; rotate_left; (intro w hSw; (try dsimp only at hSw); go_simp; try with_reducible rfl); try simp only [Act.put, List.setIfInBounds_toArray, List.set_cons_zero, List.set_cons_succ])
  (refine wpAnyT_take (i := 3) (oi := { dst := some 15, op := Go.Op.nilCheck (Go.Operand.tmp 14), type := 0, pos := _, after := _, guard := none }) (v := ?_) rfl (by kernel_rfl) (by kernel_rfl) (by kernel_rfl) (by kernel_rfl) (fun _ _ _ h => h) (Or.inl ⟨by rfl, ?_⟩) (by assumption) ?_; rotate_left; (intro w hSw; (try dsimp only at hSw); go_simp; try with_reducible rfl); try simp only [Act.put, List.setIfInBounds_toArray, List.set_cons_zero, List.set_cons_succ])
  (refine wpAnyT_take (i := 4) (oi := { dst := some 16, op := Go.Op.fieldAddr 73 (Go.Operand.tmp 15) 0, type := 0, pos := _, after := _, guard := none }) (v := ?_) rfl (by kernel_rfl) (by kernel_rfl) (by kernel_rfl) (by kernel_rfl) (fun _ _ _ h => h) (Or.inl ⟨by rfl, ?_⟩) (by assumption) ?_; rotate_left; (intro w hSw; (try dsimp only at hSw); go_simp; try with_reducible rfl); try simp only [Act.put, List.setIfInBounds_toArray, List.set_cons_zero, List.set_cons_succ])
  (refine wpAnyT_take (i := 5) (oi := { dst := some 17, op := Go.Op.load 71 (Go.Operand.tmp 16), type := 71, pos := _, after := _, guard := none }) (v := ?_) rfl (by kernel_rfl) (by kernel_rfl) (by kernel_rfl) (by kernel_rfl) (fun _ _ _ h => h) (Or.inl ⟨by rfl, ?_⟩) (by assumption) ?_; rotate_left; (intro w hSw; (try dsimp only at hSw); go_simp; try with_reducible rfl); try simp only [Act.put, List.setIfInBounds_toArray, List.set_cons_zero, List.set_cons_succ])
  (refine wpAnyT_take (i := 7) (oi := { dst := some 19, op := Go.Op.move (Go.Operand.tmp 0), type := 70, pos := _, after := _, guard := none }) (v := ?_) rfl (by kernel_rfl) (by kernel_rfl) (by kernel_rfl) (by kernel_rfl) (fun _ _ _ h => h) (Or.inl ⟨by rfl, ?_⟩) (by assumption) ?_; rotate_left; (intro w hSw; (try dsimp only at hSw); go_simp; try with_reducible rfl); try simp only [Act.put, List.setIfInBounds_toArray, List.set_cons_zero, List.set_cons_succ])
  (refine wpAnyT_take (i := 8) (oi := { dst := some 20, op := Go.Op.nilCheck (Go.Operand.tmp 19), type := 0, pos := _, after := _, guard := none }) (v := ?_) rfl (by kernel_rfl) (by kernel_rfl) (by kernel_rfl) (by kernel_rfl) (fun _ _ _ h => h) (Or.inl ⟨by rfl, ?_⟩) (by assumption) ?_; rotate_left; (intro w hSw; (try dsimp only at hSw); go_simp; try with_reducible rfl); try simp only [Act.put, List.setIfInBounds_toArray, List.set_cons_zero, List.set_cons_succ])
  (refine wpAnyT_take (i := 9) (oi := { dst := some 21, op := Go.Op.fieldAddr 73 (Go.Operand.tmp 20) 1, type := 0, pos := _, after := _, guard := none }) (v := ?_) rfl (by kernel_rfl) (by kernel_rfl) (by kernel_rfl) (by kernel_rfl) (fun _ _ _ h => h) (Or.inl ⟨by rfl, ?_⟩) (by assumption) ?_; rotate_left; (intro w hSw; (try dsimp only at hSw); go_simp; try with_reducible rfl); try simp only [Act.put, List.setIfInBounds_toArray, List.set_cons_zero, List.set_cons_succ])
  (refine wpAnyT_take (i := 10) (oi := { dst := some 22, op := Go.Op.load 3 (Go.Operand.tmp 21), type := 3, pos := _, after := _, guard := none }) (v := ?_) rfl (by kernel_rfl) (by kernel_rfl) (by kernel_rfl) (by kernel_rfl) (fun _ _ _ h => h) (Or.inl ⟨by rfl, ?_⟩) (by assumption) ?_; rotate_left; (intro w hSw; (try dsimp only at hSw); go_simp; try with_reducible rfl); try simp only [Act.put, List.setIfInBounds_toArray, List.set_cons_zero, List.set_cons_succ])
  (refine wpAnyT_take (i := 11) (oi := { dst := some 23, op := Go.Op.move (Go.Operand.tmp 1), type := 4, pos := _, after := _, guard := none }) (v := ?_) rfl (by kernel_rfl) (by kernel_rfl) (by kernel_rfl) (by kernel_rfl) (fun _ _ _ h => h) (Or.inl ⟨by rfl, ?_⟩) (by assumption) ?_; rotate_left; (intro w hSw; (try dsimp only at hSw); go_simp; try with_reducible rfl); try simp only [Act.put, List.setIfInBounds_toArray, List.set_cons_zero, List.set_cons_succ])
  (refine wpAnyT_take (i := 12) (oi := { dst := some 24, op := Go.Op.build 113 #[(0, Go.Operand.const (Go.Value.int Go.IntKind.i64 1)), (1, Go.Operand.tmp 22), (3, Go.Operand.tmp 23)], type := 113, pos := _, after := _, guard := none }) (v := ?_) rfl (by kernel_rfl) (by kernel_rfl) (by kernel_rfl) (by kernel_rfl) (fun _ _ _ h => h) (Or.inl ⟨by rfl, ?_⟩) (by assumption) ?_; rotate_left; (intro w hSw; (try dsimp only at hSw); go_simp; try with_reducible rfl); try simp only [Act.put, List.setIfInBounds_toArray, List.set_cons_zero, List.set_cons_succ])
  refine wpAnyT_ready (rs := [1, 13]) (by kernel_rfl) (by simp) ?_
  refine (AllReadyT.cons (o := { dst := some 13, op := Go.Op.buildSlice 71 0 #[], type := 71, pos := _, after := _, guard := none }) rfl (fun K hK => ?_) (AllReadyT.cons (o := { dst := some 25, op := Go.Op.buildSlice 71 1 #[(0, Go.Operand.tmp 24)], type := 71, pos := _, after := _, guard := none }) rfl (fun K hK => ?_) AllReadyT.nil))
  · rw [if_pos (by rfl)]
    refine wp_build71 rfl ?_
    intro w1x bE b1x
    refine hK.out _ _ ?_ (fun hHeld2 => ?_)
    · (intro _; go_split_ands; exact ⟨Below.trans (by assumption) (b1x.mono (Below.size (by assumption))), kc b1x (by assumption), kc b1x (by assumption)⟩)
    clear hK K hHeld
    have hHeld := hHeld2 (by decide)
    clear hHeld2
    try simp only [Act.put, List.setIfInBounds_toArray, List.set_cons_zero, List.set_cons_succ]
    refine wpAnyT_ready (rs := [6, 13]) (by kernel_rfl) (by simp) ?_
    refine (AllReadyT.cons (o := { dst := some 18, op := Go.Op.call { callee := Go.Callee.builtin Go.Builtin.append, args := #[Go.Operand.tmp 13, Go.Operand.tmp 17], argTypes := #[71, 71] }, type := 71, pos := _, after := _, guard := none }) rfl (fun K hK => ?_) (AllReadyT.cons (o := { dst := some 25, op := Go.Op.buildSlice 71 1 #[(0, Go.Operand.tmp 24)], type := 71, pos := _, after := _, guard := none }) rfl (fun K hK => ?_) AllReadyT.nil))
    · rw [if_pos (by rfl)]
      refine wp_app_txs _ _ rfl w.heap.size _ 0 [] rfl (Fresh.empty _ _ _ _ _) (And.left hHeld).size A c S.l rfl HN.out (HR.out.keep (And.left hHeld) (Nat.le_refl _)) (by have := HL.out; omega) ?_
      intro v6x w6x hF6 b6y hb6
      have b6x := (hb6 ⟨_, rfl⟩).1
      rw [Nat.zero_add, List.nil_append] at hF6
      have HF := Lib.hid hF6
      clear hF6 b6y hb6
      refine hK.out _ _ ?_ (fun hHeld2 => ?_)
      · (intro _; go_split_ands; exact ⟨Below.trans (by assumption) (b6x.mono (Below.size (by assumption))), kc b6x (by assumption), kc b6x (by assumption)⟩)
      clear hK K hHeld
      have hHeld := hHeld2 (by decide)
      clear hHeld2
      try simp only [Act.put, List.setIfInBounds_toArray, List.set_cons_zero, List.set_cons_succ]
      refine wpAnyT_ready (rs := [13]) (by kernel_rfl) (by simp) ?_
      refine AllReadyT.cons (o := { dst := some 25, op := Go.Op.buildSlice 71 1 #[(0, Go.Operand.tmp 24)], type := 71, pos := _, after := _, guard := none }) rfl (fun K hK => ?_) AllReadyT.nil
      rw [if_pos (by rfl)]
      refine wp_build71x _ rfl ⟨1, 0, S.clock, r⟩ (by go_simp) ?_
      intro w13x adx hT b13x
      have HT := Lib.hid hT
      clear hT
      have HF := Lib.hid (HF.out.kept b13x)
      refine hK.out _ _ ?_ (fun hHeld2 => ?_)
      · (intro _; go_split_ands; exact ⟨Below.trans (by assumption) (b13x.mono (Below.size (by assumption))), kc b13x (by assumption), kc b13x (by assumption)⟩)
      clear hK K hHeld
      have hHeld := hHeld2 (by decide)
      clear hHeld2
      try simp only [Act.put, List.setIfInBounds_toArray, List.set_cons_zero, List.set_cons_succ]
      refine wpAnyT_ready (rs := [14]) (by kernel_rfl) (by simp) ?_
      refine AllReadyT.cons (o := { dst := some 26, op := Go.Op.call { callee := Go.Callee.builtin Go.Builtin.append, args := #[Go.Operand.tmp 18, Go.Operand.tmp 25], argTypes := #[71, 71] }, type := 71, pos := _, after := _, guard := none }) rfl (fun K hK => ?_) AllReadyT.nil
      rw [if_pos (by rfl)]
      refine wp_app_txs _ _ rfl w.heap.size _ _ _ rfl HF.out (And.left hHeld).size _ 1 [⟨1, 0, S.clock, r⟩] rfl (fun h => by cases h) HT.out (by have := HL.out; simp; omega) ?_
      intro v14x w14x hF14 b14x _
      rw [show S.l.length + ([⟨1, 0, S.clock, r⟩] : List Tx).length = (S.begin' r).l.length by rw [HLEN.out]; rfl, ← HBL.out] at hF14
      obtain ⟨A14, c14, rfl, _⟩ := hF14.slice
      have HF14 := Lib.hid hF14
      clear hF14
      refine hK.out _ _ ?_ (fun hHeld2 => ?_)
      · (intro _; go_split_ands; exact ⟨Below.trans (by assumption) b14x, kd b14x hlt (by assumption), kd b14x hlt (by assumption)⟩)
      clear hK K hHeld
      have hHeld := hHeld2 (by decide)
      clear hHeld2
      try simp only [Act.put, List.setIfInBounds_toArray, List.set_cons_zero, List.set_cons_succ]
      refine wpAnyT_ready (rs := [15]) (by kernel_rfl) (by simp) ?_
      refine AllReadyT.cons (o := { dst := some 27, op := Go.Op.nilCheck (Go.Operand.tmp 12), type := 0, pos := _, after := _, guard := none }) rfl (fun K hK => ?_) AllReadyT.nil
      go_simp
      refine hK.out _ _ ?_ (fun hHeld2 => ?_)
      · (intro _; go_split_ands; exact ⟨by assumption, by assumption, by assumption⟩)
      clear hK K hHeld
      have hHeld := hHeld2 (by decide)
      clear hHeld2
      try simp only [Act.put, List.setIfInBounds_toArray, List.set_cons_zero, List.set_cons_succ]
      (refine wpAnyT_take (i := 16) (oi := { dst := some 28, op := Go.Op.fieldAddr 73 (Go.Operand.tmp 27) 0, type := 0, pos := _, after := _, guard := none }) (v := ?_) rfl (by kernel_rfl) (by kernel_rfl) (by kernel_rfl) (by kernel_rfl) (fun _ _ _ h => h) (Or.inl ⟨by rfl, ?_⟩) (by assumption) ?_; rotate_left; (intro w hSw; (try dsimp only at hSw); go_simp; try with_reducible rfl); try simp only [Act.put, List.setIfInBounds_toArray, List.set_cons_zero, List.set_cons_succ])
      refine wpAnyT_ready (rs := [17]) (by kernel_rfl) (by simp) ?_
      refine AllReadyT.cons (o := { dst := none, op := Go.Op.store 71 (Go.Operand.tmp 28) (Go.Operand.tmp 26), type := 0, pos := _, after := _, guard := none }) rfl (fun K hK => ?_) AllReadyT.nil
      have hB14 := And.left hHeld
      have r14 := R1.out.of_block (hB14.block q hlt)
      have g0 := r14.cell (i := 0) (by omega)
      have f0 := r14.frozen 0
      clear hHeld
      go_simp
      refine hK.out _ _ ?_ (fun hHeld2 => ?_)
      · exact fun h => absurd rfl h
      clear hK K hHeld2
      try simp only [Act.put]
      refine wpAnyT_done (by kernel_rfl) ?_ _
      have r17 := r14.set 0 (.slice A14 (S.begin' r).l.length c14)
      have g17 : (w14x.setCell ⟨q, 0, none⟩ (.slice A14 (S.begin' r).l.length c14)).cell? ⟨q, 0, none⟩ = some (.slice A14 (S.begin' r).l.length c14) := r17.cell (i := 0) (by omega)
      have o17 := ownsRow_setCell_below (own_mono (HF14.out.own (by rw [HLEN.out]; omega)) hlt) (a := ⟨q, 0, none⟩) (Nat.lt_succ_self q) (.slice A14 (S.begin' r).l.length c14)
      have hR : Hid (RefAt (w14x.setCell ⟨q, 0, none⟩ (.slice A14 (S.begin' r).l.length c14)) q (S.begin' r)) := Lib.hid ⟨_, r17.congr (fun i hi => by (by_cases e : i = 0); (rw [if_pos e, if_pos e]); (rw [if_neg e, if_neg e, if_neg e]; rfl)), o17⟩
      have hBq : Hid (Below q w (w14x.setCell ⟨q, 0, none⟩ (.slice A14 (S.begin' r).l.length c14))) := Lib.hid ((hB14.mono (Nat.le_of_lt hlt)).setCell (p := ⟨q, 0, none⟩) (Nat.le_refl q) _)
      clear r17 o17 r14 g0 f0 hB14
      generalize (w14x.setCell ⟨q, 0, none⟩ (.slice A14 (S.begin' r).l.length c14)) = w17 at *
      go_wp2_with fail
      go_ret2
      exact ⟨by rw [HLEN.out]; rfl, hR.out, hBq.out⟩
    · rw [if_pos (by rfl)]
      refine wp_build71x _ rfl ⟨1, 0, S.clock, r⟩ (by go_simp) ?_
      intro w13x adx hT b13x
      have HT := Lib.hid hT
      clear hT
      refine hK.out _ _ ?_ (fun hHeld2 => ?_)
      · (intro _; go_split_ands; exact ⟨Below.trans (by assumption) (b13x.mono (Below.size (by assumption))), kc b13x (by assumption), kc b13x (by assumption)⟩)
      clear hK K hHeld
      have hHeld := hHeld2 (by decide)
      clear hHeld2
      try simp only [Act.put, List.setIfInBounds_toArray, List.set_cons_zero, List.set_cons_succ]
      refine wpAnyT_ready (rs := [6]) (by kernel_rfl) (by simp) ?_
      refine AllReadyT.cons (o := { dst := some 18, op := Go.Op.call { callee := Go.Callee.builtin Go.Builtin.append, args := #[Go.Operand.tmp 13, Go.Operand.tmp 17], argTypes := #[71, 71] }, type := 71, pos := _, after := _, guard := none }) rfl (fun K hK => ?_) AllReadyT.nil
      rw [if_pos (by rfl)]
      refine wp_app_txs _ _ rfl w.heap.size _ 0 [] rfl (Fresh.empty _ _ _ _ _) (And.left hHeld).size A c S.l rfl HN.out (HR.out.keep (And.left hHeld) (Nat.le_refl _)) (by have := HL.out; omega) ?_
      intro v6x w6x hF6 b6y hb6
      have b6x := (hb6 ⟨_, rfl⟩).1
      rw [Nat.zero_add, List.nil_append] at hF6
      have HF := Lib.hid hF6
      clear hF6 b6y hb6
      have HT := Lib.hid (HT.out.keep b6x (Nat.le_refl _))
      refine hK.out _ _ ?_ (fun hHeld2 => ?_)
      · (intro _; go_split_ands; exact ⟨Below.trans (by assumption) (b6x.mono (Below.size (by assumption))), kc b6x (by assumption), kc b6x (by assumption)⟩)
      clear hK K hHeld
      have hHeld := hHeld2 (by decide)
      clear hHeld2
      try simp only [Act.put, List.setIfInBounds_toArray, List.set_cons_zero, List.set_cons_succ]
      refine wpAnyT_ready (rs := [14]) (by kernel_rfl) (by simp) ?_
      refine AllReadyT.cons (o := { dst := some 26, op := Go.Op.call { callee := Go.Callee.builtin Go.Builtin.append, args := #[Go.Operand.tmp 18, Go.Operand.tmp 25], argTypes := #[71, 71] }, type := 71, pos := _, after := _, guard := none }) rfl (fun K hK => ?_) AllReadyT.nil
      rw [if_pos (by rfl)]
      refine wp_app_txs _ _ rfl w.heap.size _ _ _ rfl HF.out (And.left hHeld).size _ 1 [⟨1, 0, S.clock, r⟩] rfl (fun h => by cases h) HT.out (by have := HL.out; simp; omega) ?_
      intro v14x w14x hF14 b14x _
      rw [show S.l.length + ([⟨1, 0, S.clock, r⟩] : List Tx).length = (S.begin' r).l.length by rw [HLEN.out]; rfl, ← HBL.out] at hF14
      obtain ⟨A14, c14, rfl, _⟩ := hF14.slice
      have HF14 := Lib.hid hF14
      clear hF14
      refine hK.out _ _ ?_ (fun hHeld2 => ?_)
      · (intro _; go_split_ands; exact ⟨Below.trans (by assumption) b14x, kd b14x hlt (by assumption), kd b14x hlt (by assumption)⟩)
      clear hK K hHeld
      have hHeld := hHeld2 (by decide)
      clear hHeld2
      try simp only [Act.put, List.setIfInBounds_toArray, List.set_cons_zero, List.set_cons_succ]
      refine wpAnyT_ready (rs := [15]) (by kernel_rfl) (by simp) ?_
      refine AllReadyT.cons (o := { dst := some 27, op := Go.Op.nilCheck (Go.Operand.tmp 12), type := 0, pos := _, after := _, guard := none }) rfl (fun K hK => ?_) AllReadyT.nil
      go_simp
      refine hK.out _ _ ?_ (fun hHeld2 => ?_)
      · (intro _; go_split_ands; exact ⟨by assumption, by assumption, by assumption⟩)
      clear hK K hHeld
      have hHeld := hHeld2 (by decide)
      clear hHeld2
      try simp only [Act.put, List.setIfInBounds_toArray, List.set_cons_zero, List.set_cons_succ]
      (refine wpAnyT_take (i := 16) (oi := { dst := some 28, op := Go.Op.fieldAddr 73 (Go.Operand.tmp 27) 0, type := 0, pos := _, after := _, guard := none }) (v := ?_) rfl (by kernel_rfl) (by kernel_rfl) (by kernel_rfl) (by kernel_rfl) (fun _ _ _ h => h) (Or.inl ⟨by rfl, ?_⟩) (by assumption) ?_; rotate_left; (intro w hSw; (try dsimp only at hSw); go_simp; try with_reducible rfl); try simp only [Act.put, List.setIfInBounds_toArray, List.set_cons_zero, List.set_cons_succ])
      refine wpAnyT_ready (rs := [17]) (by kernel_rfl) (by simp) ?_
      refine AllReadyT.cons (o := { dst := none, op := Go.Op.store 71 (Go.Operand.tmp 28) (Go.Operand.tmp 26), type := 0, pos := _, after := _, guard := none }) rfl (fun K hK => ?_) AllReadyT.nil
      have hB14 := And.left hHeld
      have r14 := R1.out.of_block (hB14.block q hlt)
      have g0 := r14.cell (i := 0) (by omega)
      have f0 := r14.frozen 0
      clear hHeld
      go_simp
      refine hK.out _ _ ?_ (fun hHeld2 => ?_)
      · exact fun h => absurd rfl h
      clear hK K hHeld2
      try simp only [Act.put]
      refine wpAnyT_done (by kernel_rfl) ?_ _
      have r17 := r14.set 0 (.slice A14 (S.begin' r).l.length c14)
      have g17 : (w14x.setCell ⟨q, 0, none⟩ (.slice A14 (S.begin' r).l.length c14)).cell? ⟨q, 0, none⟩ = some (.slice A14 (S.begin' r).l.length c14) := r17.cell (i := 0) (by omega)
      have o17 := ownsRow_setCell_below (own_mono (HF14.out.own (by rw [HLEN.out]; omega)) hlt) (a := ⟨q, 0, none⟩) (Nat.lt_succ_self q) (.slice A14 (S.begin' r).l.length c14)
      have hR : Hid (RefAt (w14x.setCell ⟨q, 0, none⟩ (.slice A14 (S.begin' r).l.length c14)) q (S.begin' r)) := Lib.hid ⟨_, r17.congr (fun i hi => by (by_cases e : i = 0); (rw [if_pos e, if_pos e]); (rw [if_neg e, if_neg e, if_neg e]; rfl)), o17⟩
      have hBq : Hid (Below q w (w14x.setCell ⟨q, 0, none⟩ (.slice A14 (S.begin' r).l.length c14))) := Lib.hid ((hB14.mono (Nat.le_of_lt hlt)).setCell (p := ⟨q, 0, none⟩) (Nat.le_refl q) _)
      clear r17 o17 r14 g0 f0 hB14
      generalize (w14x.setCell ⟨q, 0, none⟩ (.slice A14 (S.begin' r).l.length c14)) = w17 at *
      go_wp2_with fail
      go_ret2
      exact ⟨by rw [HLEN.out]; rfl, hR.out, hBq.out⟩
  · rw [if_pos (by rfl)]
    refine wp_build71x _ rfl ⟨1, 0, S.clock, r⟩ (by go_simp) ?_
    intro w13x adx hT b13x
    have HT := Lib.hid hT
    clear hT
    refine hK.out _ _ ?_ (fun hHeld2 => ?_)
    · (intro _; go_split_ands; exact ⟨Below.trans (by assumption) (b13x.mono (Below.size (by assumption))), kc b13x (by assumption), kc b13x (by assumption)⟩)
    clear hK K hHeld
    have hHeld := hHeld2 (by decide)
    clear hHeld2
    try simp only [Act.put, List.setIfInBounds_toArray, List.set_cons_zero, List.set_cons_succ]
    refine wpAnyT_ready (rs := [1]) (by kernel_rfl) (by simp) ?_
    refine AllReadyT.cons (o := { dst := some 13, op := Go.Op.buildSlice 71 0 #[], type := 71, pos := _, after := _, guard := none }) rfl (fun K hK => ?_) AllReadyT.nil
    rw [if_pos (by rfl)]
    refine wp_build71 rfl ?_
    intro w1x bE b1x
    have HT := Lib.hid (HT.out.keep b1x (Nat.le_refl _))
    refine hK.out _ _ ?_ (fun hHeld2 => ?_)
    · (intro _; go_split_ands; exact ⟨Below.trans (by assumption) (b1x.mono (Below.size (by assumption))), kc b1x (by assumption), kc b1x (by assumption)⟩)
    clear hK K hHeld
    have hHeld := hHeld2 (by decide)
    clear hHeld2
    try simp only [Act.put, List.setIfInBounds_toArray, List.set_cons_zero, List.set_cons_succ]
    refine wpAnyT_ready (rs := [6]) (by kernel_rfl) (by simp) ?_
    refine AllReadyT.cons (o := { dst := some 18, op := Go.Op.call { callee := Go.Callee.builtin Go.Builtin.append, args := #[Go.Operand.tmp 13, Go.Operand.tmp 17], argTypes := #[71, 71] }, type := 71, pos := _, after := _, guard := none }) rfl (fun K hK => ?_) AllReadyT.nil
    rw [if_pos (by rfl)]
    refine wp_app_txs _ _ rfl w.heap.size _ 0 [] rfl (Fresh.empty _ _ _ _ _) (And.left hHeld).size A c S.l rfl HN.out (HR.out.keep (And.left hHeld) (Nat.le_refl _)) (by have := HL.out; omega) ?_
    intro v6x w6x hF6 b6y hb6
    have b6x := (hb6 ⟨_, rfl⟩).1
    rw [Nat.zero_add, List.nil_append] at hF6
    have HF := Lib.hid hF6
    clear hF6 b6y hb6
    have HT := Lib.hid (HT.out.keep b6x (Nat.le_refl _))
    refine hK.out _ _ ?_ (fun hHeld2 => ?_)
    · (intro _; go_split_ands; exact ⟨Below.trans (by assumption) (b6x.mono (Below.size (by assumption))), kc b6x (by assumption), kc b6x (by assumption)⟩)
    clear hK K hHeld
    have hHeld := hHeld2 (by decide)
    clear hHeld2
    try simp only [Act.put, List.setIfInBounds_toArray, List.set_cons_zero, List.set_cons_succ]
    refine wpAnyT_ready (rs := [14]) (by kernel_rfl) (by simp) ?_
    refine AllReadyT.cons (o := { dst := some 26, op := Go.Op.call { callee := Go.Callee.builtin Go.Builtin.append, args := #[Go.Operand.tmp 18, Go.Operand.tmp 25], argTypes := #[71, 71] }, type := 71, pos := _, after := _, guard := none }) rfl (fun K hK => ?_) AllReadyT.nil
    rw [if_pos (by rfl)]
    refine wp_app_txs _ _ rfl w.heap.size _ _ _ rfl HF.out (And.left hHeld).size _ 1 [⟨1, 0, S.clock, r⟩] rfl (fun h => by cases h) HT.out (by have := HL.out; simp; omega) ?_
    intro v14x w14x hF14 b14x _
    rw [show S.l.length + ([⟨1, 0, S.clock, r⟩] : List Tx).length = (S.begin' r).l.length by rw [HLEN.out]; rfl, ← HBL.out] at hF14
    obtain ⟨A14, c14, rfl, _⟩ := hF14.slice
    have HF14 := Lib.hid hF14
    clear hF14
    refine hK.out _ _ ?_ (fun hHeld2 => ?_)
    · (intro _; go_split_ands; exact ⟨Below.trans (by assumption) b14x, kd b14x hlt (by assumption), kd b14x hlt (by assumption)⟩)
    clear hK K hHeld
    have hHeld := hHeld2 (by decide)
    clear hHeld2
    try simp only [Act.put, List.setIfInBounds_toArray, List.set_cons_zero, List.set_cons_succ]
    refine wpAnyT_ready (rs := [15]) (by kernel_rfl) (by simp) ?_
    refine AllReadyT.cons (o := { dst := some 27, op := Go.Op.nilCheck (Go.Operand.tmp 12), type := 0, pos := _, after := _, guard := none }) rfl (fun K hK => ?_) AllReadyT.nil
    go_simp
    refine hK.out _ _ ?_ (fun hHeld2 => ?_)
    · (intro _; go_split_ands; exact ⟨by assumption, by assumption, by assumption⟩)
    clear hK K hHeld
    have hHeld := hHeld2 (by decide)
    clear hHeld2
    try simp only [Act.put, List.setIfInBounds_toArray, List.set_cons_zero, List.set_cons_succ]
    (refine wpAnyT_take (i := 16) (oi := { dst := some 28, op := Go.Op.fieldAddr 73 (Go.Operand.tmp 27) 0, type := 0, pos := _, after := _, guard := none }) (v := ?_) rfl (by kernel_rfl) (by kernel_rfl) (by kernel_rfl) (by kernel_rfl) (fun _ _ _ h => h) (Or.inl ⟨by rfl, ?_⟩) (by assumption) ?_; rotate_left; (intro w hSw; (try dsimp only at hSw); go_simp; try with_reducible rfl); try simp only [Act.put, List.setIfInBounds_toArray, List.set_cons_zero, List.set_cons_succ])
    refine wpAnyT_ready (rs := [17]) (by kernel_rfl) (by simp) ?_
    refine AllReadyT.cons (o := { dst := none, op := Go.Op.store 71 (Go.Operand.tmp 28) (Go.Operand.tmp 26), type := 0, pos := _, after := _, guard := none }) rfl (fun K hK => ?_) AllReadyT.nil
    have hB14 := And.left hHeld
    have r14 := R1.out.of_block (hB14.block q hlt)
    have g0 := r14.cell (i := 0) (by omega)
    have f0 := r14.frozen 0
    clear hHeld
    go_simp
    refine hK.out _ _ ?_ (fun hHeld2 => ?_)
    · exact fun h => absurd rfl h
    clear hK K hHeld2
    try simp only [Act.put]
    refine wpAnyT_done (by kernel_rfl) ?_ _
    have r17 := r14.set 0 (.slice A14 (S.begin' r).l.length c14)
    have g17 : (w14x.setCell ⟨q, 0, none⟩ (.slice A14 (S.begin' r).l.length c14)).cell? ⟨q, 0, none⟩ = some (.slice A14 (S.begin' r).l.length c14) := r17.cell (i := 0) (by omega)
    have o17 := ownsRow_setCell_below (own_mono (HF14.out.own (by rw [HLEN.out]; omega)) hlt) (a := ⟨q, 0, none⟩) (Nat.lt_succ_self q) (.slice A14 (S.begin' r).l.length c14)
    have hR : Hid (RefAt (w14x.setCell ⟨q, 0, none⟩ (.slice A14 (S.begin' r).l.length c14)) q (S.begin' r)) := Lib.hid ⟨_, r17.congr (fun i hi => by (by_cases e : i = 0); (rw [if_pos e, if_pos e]); (rw [if_neg e, if_neg e, if_neg e]; rfl)), o17⟩
    have hBq : Hid (Below q w (w14x.setCell ⟨q, 0, none⟩ (.slice A14 (S.begin' r).l.length c14))) := Lib.hid ((hB14.mono (Nat.le_of_lt hlt)).setCell (p := ⟨q, 0, none⟩) (Nat.le_refl q) _)
    clear r17 o17 r14 g0 f0 hB14
    generalize (w14x.setCell ⟨q, 0, none⟩ (.slice A14 (S.begin' r).l.length c14)) = w17 at *
    go_wp2_with fail
    go_ret2
    exact ⟨by rw [HLEN.out]; rfl, hR.out, hBq.out⟩

end Go.Proofs.Ytobdooojdadgpaa
