/- Replies: opening arguments; contracts of package keep on rows of rows; copies. -/
import Derived.Test.YtmgpecomgffelaaRepA
import Derived.Deep.RegionWith
namespace Go.Proofs.Ytmgpecomgffelaa
open Go.RowKit Go.ChangeShapes Go.WideShapes Go.ChangeAt
set_option linter.unusedVariables false
theorem c39 : Try.prog.cellsOf 39 = 1 := by kernel_rfl
theorem c94 : Try.prog.cellsOf 94 = 1 := by kernel_rfl
theorem c96 : Try.prog.cellsOf 96 = 3 := by kernel_rfl
abbrev rv (c n : Int) (A : Option Addr) (l k : Nat) : Value := .agg #[.int .i64 c, .int .i64 n, .slice A l k]
abbrev a3 (c n : Int) (A : Option Addr) (l k : Nat) : Array Value := #[.int .i64 c, .int .i64 n, .slice A l k]
section
variable {H : Type} {enc : TypeId × Value → H} {w : World} {base : Nat}
theorem open_cellsW {α : Type} (f : α → List Value) (wf : α → Prop) {P : Program} {t e : TypeId} {fuel : Nat} {cs : List Value} {x : DataW H × List MemPlace} (ht : P.underlying t = some (.slice e))
    (hread : ∀ (fuel : Nat) (cs : List Value) (x : DataW H × List MemPlace), DataW.trod enc P w 0 (fun _ => true) true fuel e cs = some x → ∃ a : α, cs = f a ∧ wf a)
    (hf : DataW.trod enc P w 0 (fun _ => true) true fuel t cs = some x) :
    ∃ (A : Option Addr) (cap : Nat) (l : List α), cs = [.slice A l.length cap] ∧ RdL f (P.cellsOf e) w A l ∧ (∀ a ∈ l, wf a) ∧ (A = none → cap = 0) := by
  rcases Go.Deep.open_slice ht hf with ⟨hcs, hx⟩ | ⟨a, len', cap', m, n, D, Pl, hcs, hb, hl, hm, hmm, hx, hi⟩
  · exact ⟨none, 0, [], hcs, RdL.nil _ _ _ _, by simp, fun _ => rfl⟩
  · rw [if_pos rfl] at hmm
    have each : ∀ i : Fin len', ∃ x : α, wf x ∧ ∀ j (hj : j < (f x).length), w.cell? (a.add (i * P.cellsOf e + j)) = some (f x)[j] := fun i => by
      obtain ⟨cs', hc, ht'⟩ := hi i.1 (by omega)
      obtain ⟨x, rfl, hw⟩ := hread _ _ _ ht'
      obtain ⟨_, hcl, hat⟩ := World.cells?_some hc
      refine ⟨x, hw, fun j hj => ?_⟩
      have := hat j (by omega)
      rw [← add_add', this, List.getElem?_eq_getElem hj]
    refine ⟨some a, cap', List.ofFn fun i : Fin len' => (each i).choose, by rw [hcs]; simp, fun i hi' => ⟨a, rfl, fun j hj => ?_⟩, fun x hx' => ?_, fun h => absurd h (by simp)⟩
    · simp only [List.getElem_ofFn] at hj ⊢
      exact (each ⟨i, by simpa using hi'⟩).choose_spec.2 j hj
    · obtain ⟨i, rfl⟩ := List.mem_ofFn.1 hx'
      exact (each i).choose_spec.1
set_option maxRecDepth 100000 in
theorem read_row {fuel : Nat} {cs : List Value} {x : DataW H × List MemPlace} (h : DataW.trod enc Try.prog w 0 (fun _ => true) true fuel 39 cs = some x) :
    ∃ (s : Sl) (l : List Val), cs = [.slice s.A l.length s.c] ∧ RdV w s.A l ∧ (∀ v ∈ l, v.wf) ∧ (s.A = none → s.c = 0) := by
  obtain ⟨A, c, l, e, hr, hw, hn⟩ := open_cellsW Val.cells Val.wf Try.underlying39 (fun fuel cs x h => read_val h) h
  rw [c24] at hr
  exact ⟨⟨A, c⟩, l, e, hr, hw, hn⟩
set_option maxRecDepth 100000 in
theorem read_rows {fuel : Nat} {cs : List Value} {x : DataW H × List MemPlace} (h : DataW.trod enc Try.prog w 0 (fun _ => true) true fuel 94 cs = some x) :
    ∃ (A : Option Addr) (cap : Nat) (ls : List (List Val)), cs = [.slice A ls.length cap] ∧ RdRows w A ls ∧ (∀ l ∈ ls, ∀ v ∈ l, v.wf) ∧ (A = none → cap = 0) := by
  rcases Go.Deep.open_slice Try.underlying94 h with ⟨hcs, hx⟩ | ⟨a, len', cap', m, n, D, Pl, hcs, hb, hl, hm, hmm, hx, hi⟩
  · exact ⟨none, 0, [], hcs, RdRows.nil _ _, by simp, fun _ => rfl⟩
  · rw [if_pos rfl] at hmm
    have each : ∀ i : Fin len', ∃ p : Sl × List Val, w.cell? (a.add i) = some (.slice p.1.A p.2.length p.1.c) ∧ RdV w p.1.A p.2 ∧ (∀ v ∈ p.2, v.wf) ∧ (p.1.A = none → p.1.c = 0) := fun i => by
      obtain ⟨cs', hc, ht'⟩ := hi i.1 (by omega)
      obtain ⟨s, l, rfl, hr, hw, hn⟩ := read_row ht'
      obtain ⟨_, hcl, hat⟩ := World.cells?_some hc
      have := hat 0 (by rw [c39]; decide)
      rw [c39, Nat.mul_one, add_zero'] at this
      exact ⟨⟨s, l⟩, this, hr, hw, hn⟩
    refine ⟨some a, cap', List.ofFn fun i : Fin len' => (each i).choose.2, by rw [hcs]; simp, fun i hi' => ⟨a, (each ⟨i, by simpa using hi'⟩).choose.1, rfl, ?_⟩, fun l hl' => ?_, fun h => absurd h (by simp)⟩
    · obtain ⟨k1, k2, _, k4⟩ := (each ⟨i, by simpa using hi'⟩).choose_spec
      simp only [List.getElem_ofFn]
      exact ⟨k1, k2, k4⟩
    · obtain ⟨i, rfl⟩ := List.mem_ofFn.1 hl'
      exact (each i).choose_spec.2.2.1
set_option maxRecDepth 100000 in
theorem open_rep {v : Value} {d : DataW H} {ps : List MemPlace} (hval : Value.okWide Try.prog w .any base 96 v) (h : DataW.Trod enc Try.prog w 0 (fun _ => true) true 96 v d ps) :
    ∃ (c n : Int) (A : Option Addr) (k : Nat) (ls : List (List Val)), v = rv c n A ls.length k ∧ RdRows w A ls ∧ (∀ l ∈ ls, ∀ v ∈ l, v.wf) ∧ (A = none → k = 0) := by
  obtain ⟨cs, rfl, _⟩ := okWide_struct Try.underlying96 hval
  obtain ⟨fuel, hf⟩ := h
  obtain ⟨m, y0, y1, y2, hlen, h0, h1, h2⟩ := trod_fields3 Try.underlying96 hf
  obtain ⟨a, b, c, habc⟩ := list3 (hlen.trans c96)
  have hcs : cs.toList = [a, b, c] := habc
  rw [habc] at h0 h1 h2
  rw [c3] at h0 h1
  rw [c94] at h2
  obtain ⟨k, e0, _, _⟩ := DataW.trod_int (cs := [a]) Try.underlying3 h0
  obtain ⟨n, e1, _, _⟩ := DataW.trod_int (cs := [b]) Try.underlying3 h1
  obtain ⟨A, cap, ls, e2, hr, hw, hn⟩ := read_rows (cs := [c]) h2
  cases e0
  cases e1
  cases e2
  refine ⟨k, n, A, cap, ls, ?_, hr, hw, hn⟩
  rw [← Array.toArray_toList (xs := cs), hcs]
set_option maxRecDepth 100000 in
theorem open_str {v : Value} {d : DataW H} {ps : List MemPlace} (hval : Value.okWide Try.prog w .any base 9 v) (h : DataW.Trod enc Try.prog w 0 (fun _ => true) true 9 v d ps) : ∃ s : ByteArray, v = .string s ∧ s.size ≤ maxLen := by
  obtain ⟨s, rfl⟩ := okWide_string Try.underlying9 hval
  obtain ⟨fuel, hf⟩ := h
  obtain ⟨s', e, _, hs⟩ := DataW.trod_string Try.underlying9 hf
  cases e
  exact ⟨s, rfl, hs⟩
end
theorem wf_ok {v : Val} (h : v.wf) : v.ok := by
  refine ⟨?_, h.1⟩
  have h1 : IntKind.i64.min = -9223372036854775808 := rfl
  have h2 : IntKind.i64.max = 9223372036854775807 := rfl
  have h4 : (decide (IntKind.i64.min ≤ v.n) && decide (v.n ≤ IntKind.i64.max)) = true := h.2.2.2
  rw [Bool.and_eq_true, decide_eq_true_eq, decide_eq_true_eq, h1, h2] at h4
  exact ⟨h4.1, by omega⟩
def largeRR (ls : List (List Val)) : Bool := decide (600 < ls.length) || ls.any largeR
theorem largeRR_no {ls : List (List Val)} (h : largeRR ls = false) : ls.length ≤ 600 ∧ ∀ l ∈ ls, l.length ≤ 50 := by
  unfold largeRR at h
  rw [Bool.or_eq_false_iff] at h
  refine ⟨by have := of_decide_eq_false h.1; omega, fun l hl => ?_⟩
  have h2 := List.any_eq_false.1 h.2 l hl
  unfold largeR at h2
  rw [Bool.or_eq_true, decide_eq_true_eq] at h2
  rcases Nat.lt_or_ge 50 l.length with h3 | h3
  · exact absurd (Or.inl h3) h2
  · exact h3
set_option maxRecDepth 100000 in
theorem large_rows (A : Option Addr) (c : Nat) (ls : List (List Val)) (w : World) (h : RdRows w A ls) : Calls Try.prog 76 #[.slice A ls.length c] w fun e w' => e = .returned (.bool (largeRR ls)) ∧ Below w.heap.size w w' := by
  by_cases hlen : 600 < ls.length
  · have e : largeRR ls = true := by unfold largeRR; rw [decide_eq_true hlen]; rfl
    have t1 : decide ((600 : Int) < (ls.length : Int)) = true := by rw [decide_eq_true]; omega
    rw [e]
    go_enter Try.func76, Try.ntmps76
    go_wp2_with fail
    go_ret
    exact ⟨rfl, Below.refl _ _⟩
  · have H := Lib.hid h
    have HL := Lib.hid large_row
    have Hn := Lib.hid hlen
    have hb6 : ls.length ≤ 600 := by omega
    have t1 : decide ((600 : Int) < (ls.length : Int)) = false := by rw [decide_eq_false]; omega
    clear h hlen
    go_enter Try.func76, Try.ntmps76
    go_wp2_with fail
    go_loopw [3] (fun i wr => ∃ k : Nat, k ≤ ls.length ∧ i = .int .i64 k ∧ (ls.take k).any largeR = false ∧ Below w.heap.size w wr) (fun i _ => ls.length - (intOf i).toNat)
    case atStart => exact ⟨0, by omega, rfl, rfl, Below.refl _ _⟩
    case round =>
      obtain ⟨k, hk, rfl, hany, hb⟩ := hrel
      by_cases hlt : k < ls.length
      · obtain ⟨ad, s, rfl, hc, hr, hn⟩ := (H.out.keep hb) k hlt
        have hstep : (ls.take (k + 1)).any largeR = largeR ls[k] := by
          rw [List.take_succ_eq_append_getElem hlt, List.any_append, hany]; simp
        have hall : largeR ls[k] = true → largeRR ls = true := fun g => by
          unfold largeRR
          rw [Bool.or_eq_true, List.any_eq_true]
          exact Or.inr ⟨ls[k], List.getElem_mem hlt, g⟩
        have hcall := HL.out s.A s.c ls[k] wr hr
        generalize ls[k] = x at *
        have Hany := Lib.hid hstep
        cases hx : largeR x with
        | true =>
          rw [hx] at hcall
          have Hall := Lib.hid (hall hx)
          have HC := Lib.hid hcall
          clear hany hstep hall hx hr hn hcall
          go_wp2_with fail
          refine HC.out.mono ?_
          rintro e w1 ⟨rfl, h1⟩
          go_wp2_with fail
          go_ret
          exact ⟨by rw [Hall.out]; rfl, hb.trans (h1.mono hb.size)⟩
        | false =>
          rw [hx] at hcall
          have Hx := Lib.hid hx
          have HC := Lib.hid hcall
          clear hany hstep hall hx hr hn hcall
          go_wp2_with fail
          refine HC.out.mono ?_
          rintro e w1 ⟨rfl, h1⟩
          go_wp2_with fail
          exact ⟨⟨k + 1, by omega, by go_num, by rw [Hany.out]; exact Hx.out, hb.trans (h1.mono hb.size)⟩, by simp [intOf]; omega⟩
      · obtain rfl : k = ls.length := by omega
        rw [List.take_length] at hany
        have Hany := Lib.hid hany
        clear hany
        go_wp2_with fail
        go_ret
        exact ⟨by unfold largeRR; rw [Hany.out, decide_eq_false Hn.out]; rfl, hb⟩
set_option maxRecDepth 100000 in
set_option maxHeartbeats 1000000 in
theorem rows_same (A B : Option Addr) (c d : Nat) (ls : List (List Val)) (w : World) (ha : RdRows w A ls) (hb : RdRows w B ls) (hlen : ls.length ≤ 1000) (hl : ∀ l ∈ ls, l.length ≤ 1000) : Calls Try.prog 119 #[.slice A ls.length c, .slice B ls.length d] w fun e w' => e = .returned (.bool true) ∧ Below w.heap.size w w' := by
  have HA := Lib.hid ha
  have HB := Lib.hid hb
  have HL := Lib.hid hl
  have hself : ((ls.length : Int) == (ls.length : Int)) = true := beq_self_eq_true _
  clear ha hb hl
  go_enter Try.func119, Try.ntmps119
  go_wp2_with fail
  go_loopw [5] (fun i wr => ∃ k : Nat, k ≤ ls.length ∧ i = .int .i64 k ∧ Below w.heap.size w wr) (fun i _ => ls.length - (intOf i).toNat)
  case atStart => exact ⟨0, by omega, rfl, Below.refl _ _⟩
  case round =>
    obtain ⟨k, hk, rfl, hb⟩ := hrel
    by_cases hlt : k < ls.length
    · obtain ⟨ad, s, rfl, q0, hr, _⟩ := (HA.out.keep hb) k hlt
      obtain ⟨bd, u, rfl, r0, hr2, _⟩ := (HB.out.keep hb) k hlt
      have hw1 : IntKind.i64.wrap ((k : Int) + 1) = (k : Int) + 1 := by rw [IntKind.wrap_i64]; omega
      have hll := HL.out _ (List.getElem_mem hlt)
      generalize ls[k] = x at *
      have HC := Lib.hid (fun w' (h : Below wr.heap.size wr w') => values_same s.A u.A s.c u.c x w' (hr.keep h (Nat.le_refl _)) (hr2.keep h (Nat.le_refl _)) hll)
      clear hr hr2 hll
      go_wp2_with fail
      refine wp_region_held_drew (S := (fun w' => Below wr.heap.size wr w' ∧ w'.cell? (ad.add k) = some (.slice s.A x.length s.c) ∧ w'.cell? (bd.add k) = some (.slice u.A x.length u.c))) (by kernel_rfl) (⟨(Below.refl _ _).drew, q0, r0⟩) (fun hHeld => ?_)
      (refine wpAnyH_take (i := 0) (oi := { dst := some 17, op := Go.Op.move (Go.Operand.tmp 0), type := 94, pos := _, after := _, guard := none }) (v := ?_) rfl (by kernel_rfl) (by kernel_rfl) (by kernel_rfl) (fun _ _ _ h => h) (Or.inl ⟨by rfl, ?_⟩) (by assumption) ?_; rotate_left; (intro w hSw; (try dsimp only at hSw); go_simp; try with_reducible rfl); try simp only [Act.put, List.setIfInBounds_toArray, List.set_cons_zero, List.set_cons_succ])
      (refine wpAnyH_take (i := 1) (oi := { dst := some 18, op := Go.Op.move (Go.Operand.tmp 5), type := 3, pos := _, after := _, guard := none }) (v := ?_) rfl (by kernel_rfl) (by kernel_rfl) (by kernel_rfl) (fun _ _ _ h => h) (Or.inl ⟨by rfl, ?_⟩) (by assumption) ?_; rotate_left; (intro w hSw; (try dsimp only at hSw); go_simp; try with_reducible rfl); try simp only [Act.put, List.setIfInBounds_toArray, List.set_cons_zero, List.set_cons_succ])
      (refine wpAnyH_take (i := 2) (oi := { dst := some 19, op := Go.Op.indexAddr 94 (Go.Operand.tmp 17) (Go.Operand.tmp 18), type := 0, pos := _, after := _, guard := none }) (v := ?_) rfl (by kernel_rfl) (by kernel_rfl) (by kernel_rfl) (fun _ _ _ h => h) (Or.inl ⟨by rfl, ?_⟩) (by assumption) ?_; rotate_left; (intro w hSw; (try dsimp only at hSw); go_simp; try with_reducible rfl); try simp only [Act.put, List.setIfInBounds_toArray, List.set_cons_zero, List.set_cons_succ])
      (refine wpAnyH_take (i := 3) (oi := { dst := some 20, op := Go.Op.load 39 (Go.Operand.tmp 19), type := 39, pos := _, after := _, guard := none }) (v := ?_) rfl (by kernel_rfl) (by kernel_rfl) (by kernel_rfl) (fun _ _ _ h => h) (Or.inl ⟨by rfl, ?_⟩) (by assumption) ?_; rotate_left; (intro w hSw; (try dsimp only at hSw); go_simp; try with_reducible rfl); try simp only [Act.put, List.setIfInBounds_toArray, List.set_cons_zero, List.set_cons_succ])
      (refine wpAnyH_take (i := 4) (oi := { dst := some 21, op := Go.Op.move (Go.Operand.tmp 1), type := 94, pos := _, after := _, guard := none }) (v := ?_) rfl (by kernel_rfl) (by kernel_rfl) (by kernel_rfl) (fun _ _ _ h => h) (Or.inl ⟨by rfl, ?_⟩) (by assumption) ?_; rotate_left; (intro w hSw; (try dsimp only at hSw); go_simp; try with_reducible rfl); try simp only [Act.put, List.setIfInBounds_toArray, List.set_cons_zero, List.set_cons_succ])
      (refine wpAnyH_take (i := 5) (oi := { dst := some 22, op := Go.Op.move (Go.Operand.tmp 5), type := 3, pos := _, after := _, guard := none }) (v := ?_) rfl (by kernel_rfl) (by kernel_rfl) (by kernel_rfl) (fun _ _ _ h => h) (Or.inl ⟨by rfl, ?_⟩) (by assumption) ?_; rotate_left; (intro w hSw; (try dsimp only at hSw); go_simp; try with_reducible rfl); try simp only [Act.put, List.setIfInBounds_toArray, List.set_cons_zero, List.set_cons_succ])
      (refine wpAnyH_take (i := 6) (oi := { dst := some 23, op := Go.Op.indexAddr 94 (Go.Operand.tmp 21) (Go.Operand.tmp 22), type := 0, pos := _, after := _, guard := none }) (v := ?_) rfl (by kernel_rfl) (by kernel_rfl) (by kernel_rfl) (fun _ _ _ h => h) (Or.inl ⟨by rfl, ?_⟩) (by assumption) ?_; rotate_left; (intro w hSw; (try dsimp only at hSw); go_simp; try with_reducible rfl); try simp only [Act.put, List.setIfInBounds_toArray, List.set_cons_zero, List.set_cons_succ])
      (refine wpAnyH_take (i := 7) (oi := { dst := some 24, op := Go.Op.load 39 (Go.Operand.tmp 23), type := 39, pos := _, after := _, guard := none }) (v := ?_) rfl (by kernel_rfl) (by kernel_rfl) (by kernel_rfl) (fun _ _ _ h => h) (Or.inl ⟨by rfl, ?_⟩) (by assumption) ?_; rotate_left; (intro w hSw; (try dsimp only at hSw); go_simp; try with_reducible rfl); try simp only [Act.put, List.setIfInBounds_toArray, List.set_cons_zero, List.set_cons_succ])
      refine wpAnyH_ready (rs := [8]) (by kernel_rfl) (by simp) ?_
      refine AllReadyH.cons (o := { dst := some 25, op := Go.Op.call { callee := Go.Callee.value (Go.Operand.func 35), args := #[Go.Operand.tmp 20, Go.Operand.tmp 24], argTypes := #[39, 39] }, type := 4, pos := _, after := _, guard := none }) rfl (fun K hK => ?_) AllReadyH.nil
      go_simp
      refine (HC.out _ (And.left hHeld)).mono ?_
      rintro e w5 ⟨rfl, b5⟩
      go_wp2_with fail
      refine hK.out _ _ ?_ (fun hHeld2 => ?_)
      · (go_split_ands; exact ⟨Below.trans (by assumption) (b5.mono (Below.size (by assumption))), kc b5 (by assumption), kc b5 (by assumption)⟩)
      clear hK K hHeld
      have hHeld := hHeld2
      clear hHeld2
      try simp only [Act.put, List.setIfInBounds_toArray, List.set_cons_zero, List.set_cons_succ]
      (refine wpAnyH_take (i := 9) (oi := { dst := some 26, op := Go.Op.unOp Go.UnOp.not 4 (Go.Operand.tmp 25), type := 4, pos := _, after := _, guard := none }) (v := ?_) rfl (by kernel_rfl) (by kernel_rfl) (by kernel_rfl) (fun _ _ _ h => h) (Or.inl ⟨by rfl, ?_⟩) (by assumption) ?_; rotate_left; (intro w hSw; (try dsimp only at hSw); go_simp; try with_reducible rfl); try simp only [Act.put, List.setIfInBounds_toArray, List.set_cons_zero, List.set_cons_succ])
      refine wpAnyH_done (by kernel_rfl) ?_ _
      have hb2 := hb.trans ((And.left hHeld).mono hb.size)
      go_wp2_with fail
      exact ⟨⟨k + 1, by omega, by go_num, hb2⟩, by simp [intOf]; omega⟩
    · obtain rfl : k = ls.length := by omega
      go_wp2_with fail
      go_ret
      exact ⟨rfl, hb⟩
set_option maxRecDepth 100000 in
set_option maxHeartbeats 1000000 in
theorem copy_rows (A : Option Addr) (c : Nat) (ls : List (List Val)) (w : World) (h : RdRows w A ls) (hlen : ls.length ≤ 1000) (hl : ∀ l ∈ ls, l.length ≤ 1000) :
    Calls Try.prog 116 #[.slice A ls.length c] w fun e w' => ∃ A' c', e = .returned (.slice A' ls.length c') ∧ OwnRows w' w.heap.size (.slice A' ls.length c') ls ∧ (A' = none → c' = 0) ∧ Below w.heap.size w w' := by
  have H := Lib.hid h
  have HL := Lib.hid hl
  clear h hl
  go_enter Try.func116, Try.ntmps116
  go_wp2_with fail
  go_loopw [3, 4] (fun v i wr => ∃ k : Nat, k ≤ ls.length ∧ i = .int .i64 k ∧ OwnRows wr w.heap.size v (ls.take k) ∧ Below w.heap.size w wr) (fun _ i _ => ls.length - (intOf i).toNat)
  case atStart => exact ⟨0, by omega, rfl, by rw [List.take_zero]; exact OwnRows.nil _ _, Below.refl _ _⟩
  case round =>
    obtain ⟨k, hk, rfl, hO, hb⟩ := hrel
    by_cases hlt : k < ls.length
    · obtain ⟨ad, s, rfl, hc, hr, hn⟩ := (H.out.keep hb) k hlt
      have hstep := List.take_succ_eq_append_getElem hlt
      have hlk := HL.out _ (List.getElem_mem hlt)
      have htl : (ls.take k).length = k := by rw [List.length_take]; omega
      have Htl := Lib.hid htl
      obtain ⟨A0, c0, rfl, hn0⟩ := hO.slice' k htl
      have HO := Lib.hid hO
      generalize ls[k] = l at *
      have HR := Lib.hid (hr.keep ((Below.refl _ _).alloc (Nat.le_refl _) (.cells #[] 24)) (Nat.le_refl _))
      have HN := Lib.hid hn
      have Hs := Lib.hid hstep
      have Hlk := Lib.hid hlk
      have hcb := World.block_lt_of_cell? _ _ hc
      have hne1 : (ad.add k).block ≠ wr.heap.size := by omega
      clear hr hn hstep hlk hO hn0 htl
      go_wp2_with (first | (at_builtin; refine wl_app_vals rfl _ _ rfl w.heap.size _ 0 [] rfl (Fresh.empty _ _ _ _ _) (by have := hb.size; simp; omega) _ _ l rfl HN.out HR.out (by have := Hlk.out; omega) ?_; intro v' w1 hF b1 hB1; have HF1 := Lib.hid (show Fresh w1 w.heap.size 24 4 v' l.length (l.flatMap Val.cells) by rw [Nat.zero_add, List.nil_append] at hF; exact hF); have k1 := Lib.hid ((hb.alloc hb.size (.cells #[] 24)).trans b1); have HB1 := Lib.hid (((Below.refl wr.heap.size wr).alloc (Nat.le_refl _) (.cells #[] 24)).trans ((hB1 ⟨_, rfl⟩).1.mono (by simp))); clear hF b1 hB1; obtain ⟨A', c', hv', hn'⟩ := Fresh.slice HF1.out; subst hv') | (at_builtin; refine wl_own_row rfl _ _ rfl w.heap.size _ _ rfl ((HO.out.keep HB1.out).alloc _) (by have := k1.out.size; simp; omega) _ c' A' l _ rfl (by rw [World.cell?_alloc_new]; rfl) (Fresh.alloc HF1.out _) (by rw [Htl.out]; omega) ?_; intro v2 w3' hO3 hg3 b3; have HO3 := Lib.hid (show OwnRows w3' w.heap.size v2 (ls.take (k + 1)) by rw [Hs.out]; exact hO3); have hb3 := Lib.hid ((k1.out.alloc k1.out.size (.cells #[.slice A' l.length c'] 39)).trans b3); clear hO3 hg3 b3))
      exact ⟨⟨k + 1, by omega, by go_num, HO3.out, hb3.out⟩, by simp [intOf]; omega⟩
    · obtain rfl : k = ls.length := by omega
      rw [List.take_length] at hO
      obtain ⟨A', c', rfl, hn'⟩ := hO.slice
      have HO := Lib.hid hO
      have HN := Lib.hid hn'
      clear hO hn'
      go_wp2_with fail
      go_ret
      exact ⟨A', c', rfl, HO.out, HN.out, hb⟩
end Go.Proofs.Ytmgpecomgffelaa
