/- One step on both logs (liverylaw08.Play). -/
import Derived.Test.YtobdooojdadgpaaClogRe
import Derived.Test.YtobdooojdadgpaaClogW
import Derived.Test.YtobdooojdadgpaaClogBg
import Derived.Deep.RegionHeld
namespace Go.Proofs.Ytobdooojdadgpaa
open Go.RowKit
set_option linter.unusedVariables false

structure PInv (S : LogS) (k : Nat) : Prop where
  st : ∀ x, 1 ≤ x → x ≤ S.l.length → (S.tx x).state = 1 ∨ (S.tx x).state = 2 ∨ (S.tx x).state = 3
  c0 : 0 ≤ S.clock
  c1 : S.clock ≤ k
  len : S.l.length ≤ 200
theorem pinv_new : PInv LogS.new 0 := ⟨fun x h1 h2 => by simp [LogS.new] at h2; omega, Int.le_refl _, Int.le_refl _, Nat.zero_le _⟩
section
variable {S : LogS} {k : Nat}
theorem PInv.up (h : PInv S k) : PInv S (k + 1) := ⟨h.st, h.c0, by have := h.c1; omega, h.len⟩
theorem PInv.begin' (h : PInv S k) (r : Bool) (hl : S.l.length < 200) : PInv (S.begin' r) (k + 1) := by
  refine ⟨fun x h1 h2 => ?_, h.c0, by have := h.c1; show S.clock ≤ _; omega, by rw [len_begin]; omega⟩
  rw [len_begin] at h2
  rw [tx_begin]
  by_cases e : x = S.l.length + 1
  · rw [if_pos e]; exact .inl rfl
  · rw [if_neg e]; exact h.st x h1 (by omega)
theorem PInv.put (h : PInv S k) (y : Nat) (t : Tx) (c : Int) (h1 : 1 ≤ y) (h2 : y ≤ S.l.length) (ht : t.state = 1 ∨ t.state = 2 ∨ t.state = 3) (c0 : 0 ≤ c) (c1 : c ≤ k + 1) : PInv (S.put y t c) (k + 1) := by
  refine ⟨fun x h3 h4 => ?_, c0, by show c ≤ _; omega, by rw [len_put]; exact h.len⟩
  rw [len_put] at h4
  rw [tx_put S y t c h1 h2]
  by_cases e : x = y
  · rw [if_pos e]; exact ht
  · rw [if_neg e]; exact h.st x h3 h4
theorem PInv.commit (h : PInv S k) (x : Int) (hr : S.runs x = true) : PInv (S.commit x.toNat) (k + 1) := by
  obtain ⟨h1, h2, h3⟩ := runs_spec hr
  exact h.put _ _ _ (by omega) (by omega) (.inr (.inl rfl)) (by have := h.c0; omega) (by have := h.c1; omega)
theorem PInv.abort (h : PInv S k) (x : Int) (hr : S.runs x = true) : PInv (S.abort x.toNat) (k + 1) := by
  obtain ⟨h1, h2, h3⟩ := runs_spec hr
  exact h.put _ _ _ (by omega) (by omega) (.inr (.inr rfl)) h.c0 (by have := h.c1; omega)
theorem not_runs (S : LogS) (x : Int) (h : S.runs x = false) : ((S.tx x.toNat).state != 1) = true := by
  by_cases hx : 1 ≤ x ∧ x ≤ S.l.length
  · unfold LogS.runs at h
    rw [decide_eq_true hx, Bool.true_and] at h
    simpa using h
  · rw [tx_out S x (by omega)]; rfl
theorem PInv.st0 (h : PInv S k) (x : Int) (hx : S.has x = true) : ((S.tx x.toNat).state == 0) = false := by
  have := has_le hx
  rcases h.st x.toNat (by omega) (by omega) with e | e | e <;> rw [e] <;> rfl
theorem has_zero (S : LogS) (x : Int) (hx : S.has x = false) : S.tx x.toNat = Tx.zero := tx_out S x (by have := of_decide_eq_false hx; omega)
theorem PInv.sees (h : PInv S k) (x o : Int) : rsees x o (S.tx x.toNat) (S.tx o.toNat) = S.sees x o := by
  unfold rsees LogS.sees
  cases hx : S.has x with
  | false => rw [has_zero S x hx]; rfl
  | true =>
    rw [h.st0 x hx]
    cases ho : S.has o with
    | true => rfl
    | false =>
      have : (x == o) = false := by
        rw [beq_eq_false_iff_ne]
        rintro rfl
        rw [hx] at ho; cases ho
      rw [has_zero S o ho, this]; rfl
theorem PInv.beside (h : PInv S k) (x o : Int) : rbeside x o (S.tx x.toNat) (S.tx o.toNat) = S.beside x o := by
  unfold rbeside LogS.beside
  rw [h.sees x o, h.sees o x]
  cases hx : S.has x with
  | false => rw [has_zero S x hx]; cases x == o <;> rfl
  | true =>
    rw [h.st0 x hx]
    cases ho : S.has o with
    | false => rw [has_zero S o ho]; cases x == o <;> rfl
    | true =>
      rw [h.st0 o ho]
      cases x == o <;> cases (S.tx x.toNat).state == 3 <;> cases (S.tx o.toNat).state == 3 <;> simp
end

/-- The block of the row. -/
def RefBlk (w : World) (q b : Nat) : Prop := ∃ n c, w.cell? ⟨q, 0, none⟩ = some (.slice (some ⟨b, 0, none⟩) n c)
theorem RefBlk.back {w w' : World} {q b : Nat} (e : w'.heap[q]? = w.heap[q]?) (h : RefBlk w' q b) : RefBlk w q b := by
  obtain ⟨n, c, h⟩ := h
  exact ⟨n, c, (World.cell?_of_block (w := w) (w' := w') (a := ⟨q, 0, none⟩) e).symm.trans h⟩
theorem RefAt.blk_lt {w : World} {q b : Nat} {S : LogS} (h : RefAt w q S) (hb : RefBlk w q b) : b < w.heap.size := by
  obtain ⟨v, h1, h2⟩ := h
  obtain ⟨n, c, hb⟩ := hb
  have e := (h1.cell (i := 0) (by omega)).symm.trans hb
  rw [if_pos rfl] at e
  have e := Option.some.inj e
  subst e
  exact (h2.lt b rfl).2

theorem ref_abort_yes2 (q : Nat) (x : Int) (S : LogS) (w : World) (h : RefAt w q S) (hl : S.l.length ≤ 200) (hr : S.runs x = true) :
    Calls Try.prog 71 #[ptr q, .int .i64 x] w fun e w' => e = .returned (.int .i64 0) ∧ RefAt w' q (S.abort x.toNat) ∧ Below q w w' ∧ ∀ (a : Addr) v, w.cell? a = some v → (∀ b, RefBlk w q b → a.block ≠ b) → w'.cell? a = some v := by
  obtain ⟨h1, h2, h3⟩ := runs_spec hr
  obtain ⟨k, rfl⟩ : ∃ k : Nat, x = k + 1 := ⟨(x - 1).toNat, by omega⟩
  have hk : k < S.l.length := by omega
  have hx := ref_get q ((k : Int) + 1) S w h hl
  rw [show ((k : Int) + 1).toNat = k + 1 by omega] at *
  rw [tx_in S k hk] at *
  obtain ⟨b, c, r1, r2, hqb⟩ := h.where_ k hk
  have hblk := RefAt.blk r2
  have hqs := h.lt
  have f0 : (S.l.flatMap Tx.rc)[k * 4]? = some (.int .i64 S.l[k].state) := flat_at Tx.rc 4 rc_len S.l k hk 0 (by omega)
  refine (ref_abort_cells q b k S.l.length c S.l[k] w (Lib.hid hx) h3 hk hl ?_).mono ?_
  · intro w1 b1
    have r1' := r1.of_block (b1.block q hqs)
    have r2' := own_kept r2 b1
    exact ⟨r1'.cell (i := 0) (by omega), (r2'.cellAt (k * 4) (by omega)).trans f0, r2'.frozenAt _⟩
  · rintro e w' ⟨rfl, w1, b1, rfl⟩
    have r1' := r1.of_block (b1.block q hqs)
    have r2' := own_kept r2 b1
    have r2b := (r2'.stored (k * 4) (.int .i64 3)).1
    have r1b := r1'.setOther (a := ⟨b, k * 4, none⟩) (by show q ≠ b; omega) (.int .i64 3)
    refine ⟨rfl, ⟨_, r1b, ?_⟩, ?_, fun a v ha hne => ?_⟩
    · rw [rc_set1 3 S.l k hk] at r2b
      have e : S.abort (k + 1) = ⟨S.l.set k ⟨3, S.l[k].csn, S.l[k].snap, S.l[k].reads⟩, S.clock⟩ := by
        unfold LogS.abort LogS.put
        rw [tx_in S k hk]; rfl
      rw [e]
      simpa using r2b
    · exact (b1.mono (Nat.le_of_lt hqs)).setCell (p := ⟨b, k * 4, none⟩) (by show q ≤ b; omega) _
    · have hab := hne b ⟨_, _, r1.cell (i := 0) (by omega)⟩
      exact (World.cell?_setCell_other _ _ _ _ (fun e => by subst e; exact hab rfl)).trans (kc b1 ha)

theorem commit_cells3 (g k : Nat) (c x : Int) (w : World) (hend : Hid (Calls Try.prog 66 #[ptr g, .int .i64 x] w fun e w' => e = .returned (.tuple #[.pointer (some ⟨g, k, none⟩), .int .i64 0]) ∧ w = w'))
    (hc : w.cell? ⟨g, 805, none⟩ = some (.int .i64 c)) (hf : w.frozen? ⟨g, 805, none⟩ = false) (c0 : 0 ≤ c) (c1 : c ≤ 400) (hk : k + 1 < 804)
    (v0 v1 : Value) (q0 : w.cell? ⟨g, k, none⟩ = some v0) (q1 : w.cell? ⟨g, k + 1, none⟩ = some v1)
    (f0 : w.frozen? ⟨g, k, none⟩ = false) (f1 : w.frozen? ⟨g, k + 1, none⟩ = false) :
    Calls Try.prog 37 #[ptr g, .int .i64 x] w fun e w' => e = .returned (.tuple #[.int .i64 (c + 1), .int .i64 0]) ∧
      w' = ((w.setCell ⟨g, 805, none⟩ (.int .i64 (c + 1))).setCell ⟨g, k, none⟩ (.int .i64 2)).setCell ⟨g, k + 1, none⟩ (.int .i64 (c + 1)) := by
  go_enter Try.func37, Try.ntmps37
  go_wp2_with (go_at_call 66; refine hend.out.mono ?_; rintro e w' ⟨rfl, rfl⟩)
  go_ret2
  exact ⟨rfl, rfl⟩

theorem commit_yes3 (g : Nat) (x : Int) (S : LogS) (w : World) (h : LogAt w g S) (hl : S.l.length ≤ 200) (c0 : 0 ≤ S.clock) (c1 : S.clock ≤ 400) (hr : S.runs x = true) :
    Calls Try.prog 37 #[ptr g, .int .i64 x] w fun e w' => e = .returned (.tuple #[.int .i64 (S.clock + 1), .int .i64 0]) ∧ LogAt w' g (S.commit x.toNat) ∧ Kp g w w' := by
  obtain ⟨h1, h2, h3⟩ := runs_spec hr
  refine (commit_cells3 g (x.toNat * 4) S.clock x w (Lib.hid (ends_ok g x S w h hl hr)) h.clk (h.frozen _) c0 c1 (by omega) _ _ (h.state x.toNat (by omega)) (h.csn x.toNat (by omega)) (h.frozen _) (h.frozen _)).mono
    fun e w' ⟨he, hw'⟩ => ⟨he, ?_, ?_⟩
  · subst hw'
    have h6 := ((World.rowIs.set h 805 (.int .i64 (S.clock + 1))).set (x.toNat * 4) (.int .i64 2)).set (x.toNat * 4 + 1) (.int .i64 (S.clock + 1))
    refine World.rowIs.congr h6 fun i hi => ?_
    rw [cell_turned S (S.commit x.toNat) x.toNat ⟨2, S.clock + 1, (S.tx x.toNat).snap, (S.tx x.toNat).reads⟩ S.l.length (S.clock + 1) (by rw [LogS.commit, len_put]) rfl (tx_put S x.toNat _ _ (by omega) (by omega)) i]
    by_cases a1 : i = x.toNat * 4 + 1
    · rw [if_pos a1, if_neg (by omega), if_neg (by omega), if_neg (by omega), if_pos a1]
    rw [if_neg a1]
    by_cases a0 : i = x.toNat * 4
    · rw [if_pos a0, if_neg (by omega), if_neg (by omega), if_pos a0]
    rw [if_neg a0, if_neg a0, if_neg a1]
    by_cases b5 : i = 805
    · rw [if_pos b5, if_neg (by omega), if_pos b5]
    rw [if_neg b5, if_neg b5]
    by_cases b : i = 804
    · rw [if_pos b, b]; rfl
    rw [if_neg b]
    by_cases a2 : i = x.toNat * 4 + 2
    · rw [if_pos a2, a2]
      unfold LogS.cell
      rw [if_neg (by omega), if_neg (by omega), show (x.toNat * 4 + 2) / 4 = x.toNat by omega, show (x.toNat * 4 + 2) % 4 = 2 by omega]
      rfl
    rw [if_neg a2]
    by_cases a3 : i = x.toNat * 4 + 3
    · rw [if_pos a3, a3]
      unfold LogS.cell
      rw [if_neg (by omega), if_neg (by omega), show (x.toNat * 4 + 3) / 4 = x.toNat by omega, show (x.toNat * 4 + 3) % 4 = 3 by omega]
      rfl
    rw [if_neg a3]
  · subst hw'
    exact (((Kp.refl g w).set _ _).set _ _).set _ _

/-- What a step leaves. -/
def PlayP (g q k : Nat) (w : World) (e : Ending) (w' : World) : Prop := e = .returned (.bool true) ∧ ∃ S', LogAt w' g S' ∧ RefAt w' q S' ∧ PInv S' (k + 1) ∧ Below g w w'

section
variable (g q k : Nat) (kind xid : Int) (reads : Bool) (S : LogS) (w : World)

theorem play_begin (hl : LogAt w g S) (hr : RefAt w q S) (hI : PInv S k) (hgq : g < q) (k0 : (kind == 0) = true) :
    Calls Try.prog 44 #[ptr g, ptr q, .agg #[.int .i64 kind, .int .i64 xid, .bool reads]] w (PlayP g q k w) := by
  have hg := hl.lt
  have hq := hr.lt
  have hbW := (Below.refl w.heap.size w).alloc (Nat.le_refl _) (.cells #[.int .i64 kind, .int .i64 xid, .bool reads] 64)
  have HL := Lib.hid (hl.below hbW)
  have HR := Lib.hid (hr.below hbW)
  have HI := Lib.hid hI
  clear hl hr hI
  by_cases hn : S.l.length < 200
  · have HN := Lib.hid hn
    go_enter Try.func44, Try.ntmps44
    go_wp2_with fail
    refine (begin_yes g reads S _ HL.out hn).mono ?_
    rintro e w2 ⟨rfl, l2, p2⟩
    have x2 : w2.cell? ⟨w.heap.size, 2, none⟩ = some (.bool reads) := p2.cell (by simp) (fun e => absurd (Option.some.inj e) (Nat.ne_of_gt hg))
    have r2 := HR.out.kp p2 hgq
    have b2 := Kp.below (hbW.mono (Nat.le_of_lt hg)) p2 (by simp; omega) (Nat.le_refl _)
    go_wp2_with fail
    refine (ref_begin_yes q reads S w2 r2 hn).mono ?_
    rintro e w3 ⟨rfl, r3, b3⟩
    go_wp2_with fail
    go_ret
    exact ⟨rfl, S.begin' reads, l2.belowB b3 hgq, r3, HI.out.begin' reads hn, b2.trans (b3.mono (Nat.le_of_lt hgq))⟩
  · have hn2 : S.l.length = 200 := by have := HI.out.len; omega
    have HN := Lib.hid hn2
    have h804 : LogAt w g S → w.cell? ⟨g, 804, none⟩ = some (.int .i64 200) := fun h => by rw [h.n, hn2]; rfl
    have H804 : Hid ((w.alloc (.cells #[.int .i64 kind, .int .i64 xid, .bool reads] 64)).cell? ⟨g, 804, none⟩ = some (.int .i64 200)) := Lib.hid (by rw [HL.out.n, hn2]; rfl)
    clear hn hn2 h804
    go_enter Try.func44, Try.ntmps44
    go_wp2_with fail
    refine (begin_full g reads _ H804.out).mono ?_
    rintro e w2 ⟨rfl, rfl⟩
    go_wp2_with fail
    refine (ref_begin_full q reads S _ HR.out HN.out).mono ?_
    rintro e w3 ⟨rfl, rfl⟩
    go_wp2_with fail
    go_ret
    exact ⟨rfl, S, HL.out, HR.out, HI.out.up, hbW.mono (Nat.le_of_lt hg)⟩

theorem play_commit (hl : LogAt w g S) (hr : RefAt w q S) (hI : PInv S k) (hk : k ≤ 300) (hgq : g < q) (k0 : (kind == 0) = false) (k1 : (kind == 1) = true) :
    Calls Try.prog 44 #[ptr g, ptr q, .agg #[.int .i64 kind, .int .i64 xid, .bool reads]] w (PlayP g q k w) := by
  have hg := hl.lt
  have hq := hr.lt
  have hbW := (Below.refl w.heap.size w).alloc (Nat.le_refl _) (.cells #[.int .i64 kind, .int .i64 xid, .bool reads] 64)
  have HL := Lib.hid (hl.below hbW)
  have HR := Lib.hid (hr.below hbW)
  have HI := Lib.hid hI
  have hlen := hI.len
  have c0 := hI.c0
  have c1 := hI.c1
  clear hl hr hI
  by_cases hn : S.runs xid = true
  · have HN := Lib.hid hn
    clear hn
    go_enter Try.func44, Try.ntmps44
    go_wp2_with fail
    refine (commit_yes3 g xid S _ HL.out hlen c0 (by omega) HN.out).mono ?_
    rintro e w2 ⟨rfl, l2, p2⟩
    have x2 : w2.cell? ⟨w.heap.size, 1, none⟩ = some (.int .i64 xid) := p2.cell (by simp) (fun e => absurd (Option.some.inj e) (Nat.ne_of_gt hg))
    have r2 := HR.out.kp p2 hgq
    have b2 := Kp.below (hbW.mono (Nat.le_of_lt hg)) p2 (by simp; omega) (Nat.le_refl _)
    go_wp2_with fail
    refine (ref_commit_yes q xid S w2 r2 hlen c0 (by omega) HN.out).mono ?_
    rintro e w3 ⟨rfl, r3, b3⟩
    go_wp2_with fail
    go_ret
    exact ⟨rfl, S.commit xid.toNat, l2.belowB b3 hgq, r3, HI.out.commit xid HN.out, b2.trans (b3.mono (Nat.le_of_lt hgq))⟩
  · have hn : S.runs xid = false := by simpa using hn
    have HN := Lib.hid hn
    clear hn
    go_enter Try.func44, Try.ntmps44
    go_wp2_with fail
    refine (commit_no g xid S _ HL.out hlen HN.out).mono ?_
    rintro e w2 ⟨rfl, rfl⟩
    go_wp2_with fail
    refine (ref_commit_no q xid _ _ (Lib.hid (ref_get q xid S _ HR.out hlen)) (not_runs S xid HN.out)).mono ?_
    rintro e w3 ⟨rfl, b3⟩
    go_wp2_with fail
    go_ret
    exact ⟨rfl, S, HL.out.below b3, HR.out.below b3, HI.out.up, (hbW.mono (Nat.le_of_lt hg)).trans (b3.mono (by simp; omega))⟩

theorem play_none (hl : LogAt w g S) (hr : RefAt w q S) (hI : PInv S k) (k0 : (kind == 0) = false) (k1 : (kind == 1) = false) (k2 : (kind == 2) = false) :
    Calls Try.prog 44 #[ptr g, ptr q, .agg #[.int .i64 kind, .int .i64 xid, .bool reads]] w (PlayP g q k w) := by
  have hg := hl.lt
  have hbW := (Below.refl w.heap.size w).alloc (Nat.le_refl _) (.cells #[.int .i64 kind, .int .i64 xid, .bool reads] 64)
  have HL := Lib.hid (hl.below hbW)
  have HR := Lib.hid (hr.below hbW)
  have HI := Lib.hid hI
  clear hl hr hI
  go_enter Try.func44, Try.ntmps44
  go_wp2_with fail
  go_ret
  exact ⟨rfl, S, HL.out, HR.out, HI.out.up, hbW.mono (Nat.le_of_lt hg)⟩

theorem play_abort_no (hl : LogAt w g S) (hr : RefAt w q S) (hI : PInv S k) (k0 : (kind == 0) = false) (k1 : (kind == 1) = false) (k2 : (kind == 2) = true) (hn : S.runs xid = false) :
    Calls Try.prog 44 #[ptr g, ptr q, .agg #[.int .i64 kind, .int .i64 xid, .bool reads]] w (PlayP g q k w) := by
  have hg := hl.lt
  have hbW := (Below.refl w.heap.size w).alloc (Nat.le_refl _) (.cells #[.int .i64 kind, .int .i64 xid, .bool reads] 64)
  have HL := Lib.hid (hl.below hbW.drew)
  have HR := Lib.hid (hr.below hbW.drew)
  have HI := Lib.hid hI
  have hlen := hI.len
  have HN := Lib.hid hn
  have x1 : (w.alloc (.cells #[.int .i64 kind, .int .i64 xid, .bool reads] 64)).cell? ⟨w.heap.size, 1, none⟩ = some (.int .i64 xid) := by simp
  clear hl hr hI hn
  go_enter Try.func44, Try.ntmps44
  go_wp2_with fail
  refine wp_region_held_drew (S := (fun w' => w'.cell? ⟨w.heap.size, 1, none⟩ = some (.int .i64 xid))) (by kernel_rfl) (x1) (fun hHeld => ?_)
  (refine wpAnyH_take (i := 0) (oi := { dst := some 67, op := Go.Op.move (Go.Operand.tmp 0), type := 31, pos := _, after := _, guard := none }) (v := ?_) rfl (by kernel_rfl) (by kernel_rfl) (by kernel_rfl) (fun _ _ _ h => h) (Or.inl ⟨by rfl, ?_⟩) (by assumption) ?_; rotate_left; (intro w hSw; (try dsimp only at hSw); go_simp; try with_reducible rfl); try simp only [Act.put, List.setIfInBounds_toArray, List.set_cons_zero, List.set_cons_succ])
  (refine wpAnyH_take (i := 1) (oi := { dst := some 68, op := Go.Op.fieldAddr 64 (Go.Operand.tmp 5) 1, type := 0, pos := _, after := _, guard := none }) (v := ?_) rfl (by kernel_rfl) (by kernel_rfl) (by kernel_rfl) (fun _ _ _ h => h) (Or.inl ⟨by rfl, ?_⟩) (by assumption) ?_; rotate_left; (intro w hSw; (try dsimp only at hSw); go_simp; try with_reducible rfl); try simp only [Act.put, List.setIfInBounds_toArray, List.set_cons_zero, List.set_cons_succ])
  (refine wpAnyH_take (i := 2) (oi := { dst := some 69, op := Go.Op.load 3 (Go.Operand.tmp 68), type := 3, pos := _, after := _, guard := none }) (v := ?_) rfl (by kernel_rfl) (by kernel_rfl) (by kernel_rfl) (fun _ _ _ h => h) (Or.inl ⟨by rfl, ?_⟩) (by assumption) ?_; rotate_left; (intro w hSw; (try dsimp only at hSw); go_simp; try with_reducible rfl); try simp only [Act.put, List.setIfInBounds_toArray, List.set_cons_zero, List.set_cons_succ])
  (refine wpAnyH_take (i := 4) (oi := { dst := some 71, op := Go.Op.move (Go.Operand.tmp 1), type := 70, pos := _, after := _, guard := none }) (v := ?_) rfl (by kernel_rfl) (by kernel_rfl) (by kernel_rfl) (fun _ _ _ h => h) (Or.inl ⟨by rfl, ?_⟩) (by assumption) ?_; rotate_left; (intro w hSw; (try dsimp only at hSw); go_simp; try with_reducible rfl); try simp only [Act.put, List.setIfInBounds_toArray, List.set_cons_zero, List.set_cons_succ])
  (refine wpAnyH_take (i := 5) (oi := { dst := some 72, op := Go.Op.fieldAddr 64 (Go.Operand.tmp 5) 1, type := 0, pos := _, after := _, guard := none }) (v := ?_) rfl (by kernel_rfl) (by kernel_rfl) (by kernel_rfl) (fun _ _ _ h => h) (Or.inl ⟨by rfl, ?_⟩) (by assumption) ?_; rotate_left; (intro w hSw; (try dsimp only at hSw); go_simp; try with_reducible rfl); try simp only [Act.put, List.setIfInBounds_toArray, List.set_cons_zero, List.set_cons_succ])
  (refine wpAnyH_take (i := 6) (oi := { dst := some 73, op := Go.Op.load 3 (Go.Operand.tmp 72), type := 3, pos := _, after := _, guard := none }) (v := ?_) rfl (by kernel_rfl) (by kernel_rfl) (by kernel_rfl) (fun _ _ _ h => h) (Or.inl ⟨by rfl, ?_⟩) (by assumption) ?_; rotate_left; (intro w hSw; (try dsimp only at hSw); go_simp; try with_reducible rfl); try simp only [Act.put, List.setIfInBounds_toArray, List.set_cons_zero, List.set_cons_succ])
  refine wpAnyH_ready (rs := [3]) (by kernel_rfl) (by simp) ?_
  refine AllReadyH.cons (o := { dst := some 70, op := Go.Op.call { callee := Go.Callee.value (Go.Operand.func 38), args := #[Go.Operand.tmp 67, Go.Operand.tmp 69], argTypes := #[31, 3] }, type := 33, pos := _, after := _, guard := none }) rfl (fun K hK => ?_) AllReadyH.nil
  go_simp
  (refine (abort_no g xid S _ HL.out hlen HN.out).mono ?_; rintro e w2 ⟨rfl, rfl⟩)
  go_wp2_with fail
  refine hK.out _ _ ?_ (fun hHeld2 => ?_)
  · (exact hHeld)
  clear hK K hHeld
  have hHeld := hHeld2
  clear hHeld2
  try simp only [Act.put, List.setIfInBounds_toArray, List.set_cons_zero, List.set_cons_succ]
  refine wpAnyH_ready (rs := [7]) (by kernel_rfl) (by simp) ?_
  refine AllReadyH.cons (o := { dst := some 74, op := Go.Op.call { callee := Go.Callee.value (Go.Operand.func 71), args := #[Go.Operand.tmp 71, Go.Operand.tmp 73], argTypes := #[70, 3] }, type := 3, pos := _, after := _, guard := none }) rfl (fun K hK => ?_) AllReadyH.nil
  go_simp
  (refine (ref_abort_no q xid _ _ (Lib.hid (ref_get q xid S _ HR.out hlen)) (not_runs S xid HN.out)).mono ?_; rintro e w3 ⟨rfl, b3⟩)
  go_wp2_with fail
  refine hK.out _ _ ?_ (fun hHeld2 => ?_)
  · (exact kc b3 hHeld)
  clear hK K hHeld
  have hHeld := hHeld2
  clear hHeld2
  try simp only [Act.put, List.setIfInBounds_toArray, List.set_cons_zero, List.set_cons_succ]
  (refine wpAnyH_take (i := 8) (oi := { dst := some 75, op := Go.Op.binOp Go.BinOp.eql 3 (Go.Operand.tmp 70) (Go.Operand.tmp 74) 3, type := 4, pos := _, after := _, guard := none }) (v := ?_) rfl (by kernel_rfl) (by kernel_rfl) (by kernel_rfl) (fun _ _ _ h => h) (Or.inl ⟨by rfl, ?_⟩) (by assumption) ?_; rotate_left; (intro w hSw; (try dsimp only at hSw); go_simp; try with_reducible rfl); try simp only [Act.put, List.setIfInBounds_toArray, List.set_cons_zero, List.set_cons_succ])
  (refine wpAnyH_take (i := 9) (oi := { dst := some 6, op := Go.Op.assign (Go.Operand.tmp 75), type := 4, pos := _, after := _, guard := none }) (v := ?_) rfl (by kernel_rfl) (by kernel_rfl) (by kernel_rfl) (fun _ _ _ h => h) (Or.inl ⟨by rfl, ?_⟩) (by assumption) ?_; rotate_left; (intro w hSw; (try dsimp only at hSw); go_simp; try with_reducible rfl); try simp only [Act.put, List.setIfInBounds_toArray, List.set_cons_zero, List.set_cons_succ])
  refine wpAnyH_done (by kernel_rfl) ?_ _
  go_wp2_with fail
  go_ret
  exact ⟨rfl, S, HL.out.below b3, HR.out.below b3, HI.out.up, (hbW.drew.mono (Nat.le_of_lt hg)).trans (b3.mono (by simp; omega))⟩

theorem play_abort_yes (hl : LogAt w g S) (hr : RefAt w q S) (hI : PInv S k) (hgq : g < q) (k0 : (kind == 0) = false) (k1 : (kind == 1) = false) (k2 : (kind == 2) = true) (hn : S.runs xid = true) :
    Calls Try.prog 44 #[ptr g, ptr q, .agg #[.int .i64 kind, .int .i64 xid, .bool reads]] w (PlayP g q k w) := by
  have hg := hl.lt
  have hq := hr.lt
  have hbW := (Below.refl w.heap.size w).alloc (Nat.le_refl _) (.cells #[.int .i64 kind, .int .i64 xid, .bool reads] 64)
  have HL := Lib.hid (hl.below hbW.drew)
  have HR := Lib.hid (hr.below hbW.drew)
  have HI := Lib.hid hI
  have hlen := hI.len
  have HN := Lib.hid hn
  have x1 : (w.alloc (.cells #[.int .i64 kind, .int .i64 xid, .bool reads] 64)).cell? ⟨w.heap.size, 1, none⟩ = some (.int .i64 xid) := by simp
  have HB : Hid (∀ b, RefBlk w q b → b < w.heap.size) := Lib.hid fun b hb => hr.blk_lt hb
  have HB0 := Lib.hid (fun (b : Nat) (h : RefBlk (w.alloc (.cells #[.int .i64 kind, .int .i64 xid, .bool reads] 64)).drew q b) => (RefBlk.back (w := w) (hbW.drew.block q hq) h : RefBlk w q b))
  clear hl hr hI hn
  go_enter Try.func44, Try.ntmps44
  go_wp2_with fail
  refine wp_region_held_drew (S := (fun w' => w'.cell? ⟨w.heap.size, 1, none⟩ = some (.int .i64 xid))) (by kernel_rfl) (x1) (fun hHeld => ?_)
  (refine wpAnyH_take (i := 0) (oi := { dst := some 67, op := Go.Op.move (Go.Operand.tmp 0), type := 31, pos := _, after := _, guard := none }) (v := ?_) rfl (by kernel_rfl) (by kernel_rfl) (by kernel_rfl) (fun _ _ _ h => h) (Or.inl ⟨by rfl, ?_⟩) (by assumption) ?_; rotate_left; (intro w hSw; (try dsimp only at hSw); go_simp; try with_reducible rfl); try simp only [Act.put, List.setIfInBounds_toArray, List.set_cons_zero, List.set_cons_succ])
  (refine wpAnyH_take (i := 1) (oi := { dst := some 68, op := Go.Op.fieldAddr 64 (Go.Operand.tmp 5) 1, type := 0, pos := _, after := _, guard := none }) (v := ?_) rfl (by kernel_rfl) (by kernel_rfl) (by kernel_rfl) (fun _ _ _ h => h) (Or.inl ⟨by rfl, ?_⟩) (by assumption) ?_; rotate_left; (intro w hSw; (try dsimp only at hSw); go_simp; try with_reducible rfl); try simp only [Act.put, List.setIfInBounds_toArray, List.set_cons_zero, List.set_cons_succ])
  (refine wpAnyH_take (i := 2) (oi := { dst := some 69, op := Go.Op.load 3 (Go.Operand.tmp 68), type := 3, pos := _, after := _, guard := none }) (v := ?_) rfl (by kernel_rfl) (by kernel_rfl) (by kernel_rfl) (fun _ _ _ h => h) (Or.inl ⟨by rfl, ?_⟩) (by assumption) ?_; rotate_left; (intro w hSw; (try dsimp only at hSw); go_simp; try with_reducible rfl); try simp only [Act.put, List.setIfInBounds_toArray, List.set_cons_zero, List.set_cons_succ])
  (refine wpAnyH_take (i := 4) (oi := { dst := some 71, op := Go.Op.move (Go.Operand.tmp 1), type := 70, pos := _, after := _, guard := none }) (v := ?_) rfl (by kernel_rfl) (by kernel_rfl) (by kernel_rfl) (fun _ _ _ h => h) (Or.inl ⟨by rfl, ?_⟩) (by assumption) ?_; rotate_left; (intro w hSw; (try dsimp only at hSw); go_simp; try with_reducible rfl); try simp only [Act.put, List.setIfInBounds_toArray, List.set_cons_zero, List.set_cons_succ])
  (refine wpAnyH_take (i := 5) (oi := { dst := some 72, op := Go.Op.fieldAddr 64 (Go.Operand.tmp 5) 1, type := 0, pos := _, after := _, guard := none }) (v := ?_) rfl (by kernel_rfl) (by kernel_rfl) (by kernel_rfl) (fun _ _ _ h => h) (Or.inl ⟨by rfl, ?_⟩) (by assumption) ?_; rotate_left; (intro w hSw; (try dsimp only at hSw); go_simp; try with_reducible rfl); try simp only [Act.put, List.setIfInBounds_toArray, List.set_cons_zero, List.set_cons_succ])
  (refine wpAnyH_take (i := 6) (oi := { dst := some 73, op := Go.Op.load 3 (Go.Operand.tmp 72), type := 3, pos := _, after := _, guard := none }) (v := ?_) rfl (by kernel_rfl) (by kernel_rfl) (by kernel_rfl) (fun _ _ _ h => h) (Or.inl ⟨by rfl, ?_⟩) (by assumption) ?_; rotate_left; (intro w hSw; (try dsimp only at hSw); go_simp; try with_reducible rfl); try simp only [Act.put, List.setIfInBounds_toArray, List.set_cons_zero, List.set_cons_succ])
  refine wpAnyH_ready (rs := [3]) (by kernel_rfl) (by simp) ?_
  refine AllReadyH.cons (o := { dst := some 70, op := Go.Op.call { callee := Go.Callee.value (Go.Operand.func 38), args := #[Go.Operand.tmp 67, Go.Operand.tmp 69], argTypes := #[31, 3] }, type := 33, pos := _, after := _, guard := none }) rfl (fun K hK => ?_) AllReadyH.nil
  go_simp
  (refine (abort_yes g xid S _ HL.out hlen HN.out).mono ?_; rintro e w2 ⟨rfl, l2, p2⟩; have r2 := HR.out.kp p2 hgq; have hb2 := Lib.hid (fun (b : Nat) (h : RefBlk w2 q b) => HB.out b (HB0.out b (RefBlk.back (p2.block q (by simp; omega) (fun e => by cases e; omega)) h))); have b2 := Kp.below (hbW.drew.mono (Nat.le_of_lt hg)) p2 (by simp; omega) (Nat.le_refl _))
  go_wp2_with fail
  refine hK.out _ _ ?_ (fun hHeld2 => ?_)
  · (exact p2.cell hHeld (fun e => absurd (Option.some.inj e) (Nat.ne_of_gt hg)))
  clear hK K hHeld
  have hHeld := hHeld2
  clear hHeld2
  try simp only [Act.put, List.setIfInBounds_toArray, List.set_cons_zero, List.set_cons_succ]
  refine wpAnyH_ready (rs := [7]) (by kernel_rfl) (by simp) ?_
  refine AllReadyH.cons (o := { dst := some 74, op := Go.Op.call { callee := Go.Callee.value (Go.Operand.func 71), args := #[Go.Operand.tmp 71, Go.Operand.tmp 73], argTypes := #[70, 3] }, type := 3, pos := _, after := _, guard := none }) rfl (fun K hK => ?_) AllReadyH.nil
  go_simp
  (refine (ref_abort_yes2 q xid S w2 r2 hlen HN.out).mono ?_; rintro e w3 ⟨rfl, r3, b3, hk3⟩)
  go_wp2_with fail
  refine hK.out _ _ ?_ (fun hHeld2 => ?_)
  · (exact hk3 _ _ hHeld (fun b hb => by have := hb2.out b hb; show w.heap.size ≠ b; omega))
  clear hK K hHeld
  have hHeld := hHeld2
  clear hHeld2
  try simp only [Act.put, List.setIfInBounds_toArray, List.set_cons_zero, List.set_cons_succ]
  (refine wpAnyH_take (i := 8) (oi := { dst := some 75, op := Go.Op.binOp Go.BinOp.eql 3 (Go.Operand.tmp 70) (Go.Operand.tmp 74) 3, type := 4, pos := _, after := _, guard := none }) (v := ?_) rfl (by kernel_rfl) (by kernel_rfl) (by kernel_rfl) (fun _ _ _ h => h) (Or.inl ⟨by rfl, ?_⟩) (by assumption) ?_; rotate_left; (intro w hSw; (try dsimp only at hSw); go_simp; try with_reducible rfl); try simp only [Act.put, List.setIfInBounds_toArray, List.set_cons_zero, List.set_cons_succ])
  (refine wpAnyH_take (i := 9) (oi := { dst := some 6, op := Go.Op.assign (Go.Operand.tmp 75), type := 4, pos := _, after := _, guard := none }) (v := ?_) rfl (by kernel_rfl) (by kernel_rfl) (by kernel_rfl) (fun _ _ _ h => h) (Or.inl ⟨by rfl, ?_⟩) (by assumption) ?_; rotate_left; (intro w hSw; (try dsimp only at hSw); go_simp; try with_reducible rfl); try simp only [Act.put, List.setIfInBounds_toArray, List.set_cons_zero, List.set_cons_succ])
  refine wpAnyH_done (by kernel_rfl) ?_ _
  go_wp2_with fail
  go_ret
  exact ⟨rfl, S.abort xid.toNat, l2.belowB b3 hgq, r3, HI.out.abort xid HN.out, b2.trans (b3.mono (Nat.le_of_lt hgq))⟩

theorem play_any (hl : LogAt w g S) (hr : RefAt w q S) (hI : PInv S k) (hk : k ≤ 300) (hgq : g < q) :
    Calls Try.prog 44 #[ptr g, ptr q, .agg #[.int .i64 kind, .int .i64 xid, .bool reads]] w (PlayP g q k w) := by
  cases k0 : kind == 0
  case true => exact play_begin g q k kind xid reads S w hl hr hI hgq k0
  cases k1 : kind == 1
  case true => exact play_commit g q k kind xid reads S w hl hr hI hk hgq k0 k1
  cases k2 : kind == 2
  case false => exact play_none g q k kind xid reads S w hl hr hI k0 k1 k2
  cases hn : S.runs xid
  case true => exact play_abort_yes g q k kind xid reads S w hl hr hI hgq k0 k1 k2 hn
  case false => exact play_abort_no g q k kind xid reads S w hl hr hI k0 k1 k2 hn
end
end Go.Proofs.Ytobdooojdadgpaa
