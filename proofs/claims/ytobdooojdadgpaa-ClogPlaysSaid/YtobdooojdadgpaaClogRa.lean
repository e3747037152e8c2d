/- The document's log (liveryref08) in memory; the contract of its Get. -/
import Derived.Test.YtobdooojdadgpaaClogF
import Derived.Test.YtobdooojdadgpaaMem
import Derived.Deep.OwnRows
namespace Go.Proofs.Ytobdooojdadgpaa
open Go.RowKit
set_option linter.unusedVariables false

def Tx.rc (t : Tx) : List Value := [.int .i64 t.state, .int .i64 t.snap, .int .i64 t.csn, .bool t.reads]
theorem rc_len (t : Tx) : t.rc.length = 4 := rfl
abbrev rxV (t : Tx) : Value := .agg #[.int .i64 t.state, .int .i64 t.snap, .int .i64 t.csn, .bool t.reads]

theorem own_kept {w w' : World} {B : Nat} {e : TypeId} {size : Nat} {v : Value} {n : Nat} {xs : List Value} (h : w.ownsRow B e size v n xs) (hb : Below w.heap.size w w') : w'.ownsRow B e size v n xs :=
  h.kept (row := none) ⟨hb.os, hb.tape, hb.output, hb.size, fun i hi _ => hb.block i hi⟩ (by cases hv : v.ownBlock <;> simp)

/-- The block q holds the document's log S; its transactions lie behind q. -/
def RefAt (w : World) (q : Nat) (S : LogS) : Prop :=
  ∃ v, w.rowIs q 73 2 (fun i => if i = 0 then v else .int .i64 S.clock) ∧ w.ownsRow (q + 1) 113 4 v S.l.length (S.l.flatMap Tx.rc)

section
variable {w w' : World} {q g : Nat} {S : LogS}
theorem RefAt.lt (h : RefAt w q S) : q < w.heap.size := by obtain ⟨v, h1, _⟩ := h; exact h1.lt
theorem RefAt.below (h : RefAt w q S) (hb : Below w.heap.size w w') : RefAt w' q S := by
  obtain ⟨v, h1, h2⟩ := h
  exact ⟨v, h1.of_block (hb.block q h1.lt), own_kept h2 hb⟩
theorem RefAt.kp (h : RefAt w q S) (k : Kp g w w') (hg : g < q) : RefAt w' q S := by
  obtain ⟨v, h1, h2⟩ := h
  refine ⟨v, h1.of_block (k.block q h1.lt (fun e => by cases e; omega)), h2.kept k ?_⟩
  cases hv : v.ownBlock with
  | none => exact .inl rfl
  | some b => exact .inr (fun e => by have := (h2.lt b hv).1; cases e; omega)
theorem RefAt.opened (h : RefAt w q S) : ∃ A c, w.rowIs q 73 2 (fun i => if i = 0 then .slice A S.l.length c else .int .i64 S.clock) ∧ w.ownsRow (q + 1) 113 4 (.slice A S.l.length c) S.l.length (S.l.flatMap Tx.rc) ∧ (A = none → c = 0) ∧ RdL Tx.rc 4 w A S.l := by
  obtain ⟨v, h1, h2⟩ := h
  obtain ⟨A, c, rfl, hn⟩ := slice_of_own' h2
  exact ⟨A, c, h1, h2, hn, RdL.of_own rc_len (by decide) h2⟩
theorem RefAt.cells (h : RefAt w q S) : ∃ A c, w.cell? ⟨q, 0, none⟩ = some (.slice A S.l.length c) ∧ w.cell? ⟨q, 1, none⟩ = some (.int .i64 S.clock) ∧ (A = none → c = 0) ∧ RdL Tx.rc 4 w A S.l := by
  obtain ⟨A, c, h1, _, h3, h4⟩ := h.opened
  exact ⟨A, c, h1.cell (i := 0) (by omega), h1.cell (i := 1) (by omega), h3, h4⟩
theorem rc_at {w : World} {ad : Addr} {l : List Tx} (h : RdL Tx.rc 4 w (some ad) l) (k : Nat) (hk : k < l.length) :
    w.cell? (ad.add (k * 4)) = some (.int .i64 l[k].state) ∧ w.cell? ⟨(ad.add (k * 4)).block, (ad.add (k * 4)).off + 1, none⟩ = some (.int .i64 l[k].snap) ∧
    w.cell? ⟨(ad.add (k * 4)).block, (ad.add (k * 4)).off + 2, none⟩ = some (.int .i64 l[k].csn) ∧ w.cell? ⟨(ad.add (k * 4)).block, (ad.add (k * 4)).off + 3, none⟩ = some (.bool l[k].reads) :=
  ⟨h.cell0 k hk (by simp [Tx.rc]), h.cell k hk 1 (by simp [Tx.rc]) (by omega), h.cell k hk 2 (by simp [Tx.rc]) (by omega), h.cell k hk 3 (by simp [Tx.rc]) (by omega)⟩
end
theorem tx_in (S : LogS) (k : Nat) (hk : k < S.l.length) : S.tx (k + 1) = S.l[k] := by
  unfold LogS.tx
  rw [if_neg (by omega), List.getD_eq_getElem?_getD, Nat.add_sub_cancel, List.getElem?_eq_getElem hk]; rfl

abbrev GetP (t : Tx) (w : World) (e : Ending) (w' : World) : Prop := e = .returned (rxV t) ∧ Below w.heap.size w w'

theorem ref_get_out (q : Nat) (x : Int) (n : Int) (A : Option Addr) (m c : Nat) (w : World) (h0 : w.cell? ⟨q, 0, none⟩ = some (.slice A m c)) (hx : x < 1 ∨ (m : Int) < x) :
    Calls Try.prog 72 #[ptr q, .int .i64 x] w (GetP Tx.zero w) := by
  have hq := World.block_lt_of_cell? _ _ h0
  have g0 : (w.alloc (.cells #[.int .i64 0, .int .i64 0, .int .i64 0, .bool false] 113)).cell? ⟨q, 0, none⟩ = some (.slice A m c) := (World.cell?_alloc_lt _ _ _ hq).trans h0
  by_cases h1 : x < 1
  · have d1 : decide (x < 1) = true := decide_eq_true h1
    clear hx
    go_enter Try.func72, Try.ntmps72
    go_wp2_with fail
    exact bodyPost_ret (v := rxV Tx.zero) (by simp [results, Try.results72, go_sem, Tx.zero]) rfl ⟨rfl, (Below.refl _ _).alloc (Nat.le_refl _) _⟩
  · have d1 : decide (x < 1) = false := decide_eq_false h1
    have d2 : decide ((m : Int) < x) = true := decide_eq_true (by omega)
    clear hx
    go_enter Try.func72, Try.ntmps72
    go_wp2_with fail
    exact bodyPost_ret (v := rxV Tx.zero) (by simp [results, Try.results72, go_sem, Tx.zero]) rfl ⟨rfl, (Below.refl _ _).alloc (Nat.le_refl _) _⟩

theorem ref_get_in (q : Nat) (k : Nat) (t : Tx) (ad : Addr) (m c : Nat) (w : World) (h0 : w.cell? ⟨q, 0, none⟩ = some (.slice (some ad) m c)) (hk : k < m)
    (q0 : w.cell? (ad.add (k * 4)) = some (.int .i64 t.state)) (q1 : w.cell? ⟨(ad.add (k * 4)).block, (ad.add (k * 4)).off + 1, none⟩ = some (.int .i64 t.snap))
    (q2 : w.cell? ⟨(ad.add (k * 4)).block, (ad.add (k * 4)).off + 2, none⟩ = some (.int .i64 t.csn)) (q3 : w.cell? ⟨(ad.add (k * 4)).block, (ad.add (k * 4)).off + 3, none⟩ = some (.bool t.reads)) (hm : m ≤ 200) :
    Calls Try.prog 72 #[ptr q, .int .i64 ((k : Int) + 1)] w (GetP t w) := by
  have d1 : decide ((k : Int) + 1 < 1) = false := decide_eq_false (by omega)
  have d2 : decide ((m : Int) < (k : Int) + 1) = false := decide_eq_false (by omega)
  have e1 : ((k : Int) + 1) - 1 = k := by omega
  have hq := World.block_lt_of_cell? _ _ h0
  have hb := World.block_lt_of_cell? _ _ q0
  go_enter Try.func72, Try.ntmps72
  go_wp2_with fail
  exact bodyPost_ret (v := rxV t) (by simp [results, Try.results72, go_sem]) rfl ⟨rfl, (Below.refl _ _).alloc (Nat.le_refl _) _⟩

theorem ref_get (q : Nat) (x : Int) (S : LogS) (w : World) (h : RefAt w q S) (hl : S.l.length ≤ 200) :
    Calls Try.prog 72 #[ptr q, .int .i64 x] w (GetP (S.tx x.toNat) w) := by
  obtain ⟨A, c, h0, h1, hn, hr⟩ := h.cells
  by_cases hx : 1 ≤ x ∧ x ≤ S.l.length
  · obtain ⟨k, rfl⟩ : ∃ k : Nat, x = k + 1 := ⟨(x - 1).toNat, by omega⟩
    have hk : k < S.l.length := by omega
    obtain ⟨ad, rfl⟩ := hr.some k hk
    obtain ⟨q0, q1, q2, q3⟩ := rc_at hr k hk
    rw [show ((k : Int) + 1).toNat = k + 1 by omega, tx_in S k hk]
    exact ref_get_in q k _ ad _ c w h0 hk q0 q1 q2 q3 hl
  · rw [tx_out S x (by omega)]
    exact ref_get_out q x S.l.length A _ c w h0 (by omega)
end Go.Proofs.Ytobdooojdadgpaa
