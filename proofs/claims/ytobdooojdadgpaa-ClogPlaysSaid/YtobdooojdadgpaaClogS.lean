/- Plain facts: what package clog's log is, as a list. No Go in sight. -/
import Derived.Deep.OwnRows
import Derived.Test.YtobdooojdadgpaaWords
namespace Go.Proofs.Ytobdooojdadgpaa
open Go.RowKit

structure Tx where
  state : Int
  csn : Int
  snap : Int
  reads : Bool

def Tx.zero : Tx := ⟨0, 0, 0, false⟩

structure LogS where
  l : List Tx
  clock : Int

def LogS.new : LogS := ⟨[], 0⟩
def LogS.tx (S : LogS) (x : Nat) : Tx := if x = 0 then Tx.zero else S.l.getD (x - 1) Tx.zero
def Tx.cell (t : Tx) (j : Nat) : Value := if j = 0 then .int .i64 t.state else if j = 1 then .int .i64 t.csn else if j = 2 then .int .i64 t.snap else .bool t.reads
def LogS.cell (S : LogS) (i : Nat) : Value :=
  if i = 804 then .int .i64 S.l.length else if i = 805 then .int .i64 S.clock else (S.tx (i / 4)).cell (i % 4)

/-- The block g holds the log S. -/
def LogAt (w : World) (g : Nat) (S : LogS) : Prop := w.rowIs g 90 806 S.cell

section
variable {w w' : World} {g : Nat} {S : LogS}
theorem LogAt.n (h : LogAt w g S) : w.cell? ⟨g, 804, none⟩ = some (.int .i64 S.l.length) := h.cell (by omega)
theorem LogAt.clk (h : LogAt w g S) : w.cell? ⟨g, 805, none⟩ = some (.int .i64 S.clock) := h.cell (by omega)
theorem LogAt.at (h : LogAt w g S) (x j : Nat) (hx : x ≤ 200) (hj : j < 4) : w.cell? ⟨g, x * 4 + j, none⟩ = some ((S.tx x).cell j) := by
  rw [h.cell (show x * 4 + j < 806 by omega)]
  unfold LogS.cell
  rw [if_neg (by omega), if_neg (by omega), show (x * 4 + j) / 4 = x by omega, show (x * 4 + j) % 4 = j by omega]
theorem LogAt.state (h : LogAt w g S) (x : Nat) (hx : x ≤ 200) : w.cell? ⟨g, x * 4, none⟩ = some (.int .i64 (S.tx x).state) := h.at x 0 hx (by omega)
theorem LogAt.csn (h : LogAt w g S) (x : Nat) (hx : x ≤ 200) : w.cell? ⟨g, x * 4 + 1, none⟩ = some (.int .i64 (S.tx x).csn) := h.at x 1 hx (by omega)
theorem LogAt.snap (h : LogAt w g S) (x : Nat) (hx : x ≤ 200) : w.cell? ⟨g, x * 4 + 2, none⟩ = some (.int .i64 (S.tx x).snap) := h.at x 2 hx (by omega)
theorem LogAt.reads (h : LogAt w g S) (x : Nat) (hx : x ≤ 200) : w.cell? ⟨g, x * 4 + 3, none⟩ = some (.bool (S.tx x).reads) := h.at x 3 hx (by omega)
theorem LogAt.below (h : LogAt w g S) (hb : Below w.heap.size w w') : LogAt w' g S := World.rowIs.of_block h (hb.block g (World.rowIs.lt h))
theorem LogAt.lt (h : LogAt w g S) : g < w.heap.size := World.rowIs.lt h

/-- What comes of it. -/
def LogS.begin' (S : LogS) (r : Bool) : LogS := ⟨S.l ++ [⟨1, 0, S.clock, r⟩], S.clock⟩
def LogS.put (S : LogS) (x : Nat) (t : Tx) (c : Int) : LogS := ⟨S.l.set (x - 1) t, c⟩
def LogS.commit (S : LogS) (x : Nat) : LogS := S.put x ⟨2, S.clock + 1, (S.tx x).snap, (S.tx x).reads⟩ (S.clock + 1)
def LogS.abort (S : LogS) (x : Nat) : LogS := S.put x ⟨3, (S.tx x).csn, (S.tx x).snap, (S.tx x).reads⟩ S.clock

theorem tx_begin (S : LogS) (r : Bool) (x : Nat) : (S.begin' r).tx x = if x = S.l.length + 1 then ⟨1, 0, S.clock, r⟩ else S.tx x := by
  unfold LogS.tx LogS.begin'
  by_cases h0 : x = 0
  · subst h0; simp
  · by_cases h1 : x = S.l.length + 1
    · subst h1; simp
    · rw [if_neg h0, if_neg h0, if_neg h1]
      simp only [List.getD_eq_getElem?_getD]
      by_cases h2 : x - 1 < S.l.length
      · rw [List.getElem?_append_left h2]
      · rw [List.getElem?_eq_none (by simp; omega), List.getElem?_eq_none (by omega)]

theorem tx_put (S : LogS) (y : Nat) (t : Tx) (c : Int) (h1 : 1 ≤ y) (h2 : y ≤ S.l.length) (x : Nat) : (S.put y t c).tx x = if x = y then t else S.tx x := by
  unfold LogS.tx LogS.put
  by_cases h0 : x = 0
  · subst h0; rw [if_pos rfl, if_neg (by omega), if_pos rfl]
  · rw [if_neg h0, if_neg h0]
    simp only [List.getD_eq_getElem?_getD, List.getElem?_set]
    by_cases h3 : x = y
    · subst h3; rw [if_pos rfl, if_pos rfl, if_pos (by omega)]; rfl
    · rw [if_neg (by omega), if_neg h3]

theorem len_begin (S : LogS) (r : Bool) : (S.begin' r).l.length = S.l.length + 1 := by simp [LogS.begin']
theorem len_put (S : LogS) (x : Nat) (t : Tx) (c : Int) : (S.put x t c).l.length = S.l.length := by simp [LogS.put]

/-- Where transaction y alone has turned to t, the length to n and the clock to c. -/
theorem cell_turned (S S' : LogS) (y : Nat) (t : Tx) (n c : Int) (hn : (S'.l.length : Int) = n) (hc : S'.clock = c) (htx : ∀ x, S'.tx x = if x = y then t else S.tx x) (i : Nat) :
    S'.cell i = if i = 804 then .int .i64 n else if i = 805 then .int .i64 c else if i = y * 4 then .int .i64 t.state else if i = y * 4 + 1 then .int .i64 t.csn else if i = y * 4 + 2 then .int .i64 t.snap else if i = y * 4 + 3 then .bool t.reads else S.cell i := by
  unfold LogS.cell
  by_cases h1 : i = 804
  · rw [if_pos h1, if_pos h1, hn]
  · rw [if_neg h1, if_neg h1]
    by_cases h2 : i = 805
    · rw [if_pos h2, if_pos h2, hc]
    · rw [if_neg h2, if_neg h2, htx]
      by_cases h3 : i / 4 = y
      · rw [if_pos h3]
        have hi4 : i = y * 4 + i % 4 := by omega
        have hlt : i % 4 < 4 := by omega
        unfold Tx.cell
        generalize i % 4 = j at *
        match j, hlt with
        | 0, _ => simp [hi4]
        | 1, _ => simp [hi4]
        | 2, _ => simp [hi4]
        | 3, _ => simp [hi4]
      · rw [if_neg h3, if_neg (by omega), if_neg (by omega), if_neg (by omega), if_neg (by omega), if_neg h1, if_neg h2]

end

/-- The block g alone has turned, and new blocks may have come. -/
abbrev Kp (g : Nat) (a w : World) : Prop := a.grownBy w (some g)
section
variable {a b c w : World} {g : Nat}
theorem Kp.refl (g : Nat) (w : World) : Kp g w w := ⟨rfl, rfl, rfl, Nat.le_refl _, fun _ _ _ => rfl⟩
theorem Kp.drew (h : Kp g a w) : Kp g a w.drew := ⟨h.os, h.tape, h.output, h.size, h.block⟩
theorem Kp.drewN (h : Kp g a w) (n : Nat) : Kp g a (w.drewN n) := ⟨h.os, h.tape, h.output, h.size, h.block⟩
theorem Kp.set (h : Kp g a w) (i : Nat) (u : Value) : Kp g a (w.setCell ⟨g, i, none⟩ u) :=
  ⟨h.os, h.tape, h.output, by simpa [World.setCell] using h.size, fun k hk hne => (Below.heap_setCell w ⟨g, i, none⟩ u k (fun e => hne (by rw [e]))).trans (h.block k hk hne)⟩
theorem Kp.trans (h : Kp g a b) (k : Kp g b c) : Kp g a c :=
  ⟨k.os.trans h.os, k.tape.trans h.tape, k.output.trans h.output, Nat.le_trans h.size k.size, fun i hi hne => (k.block i (Nat.lt_of_lt_of_le hi h.size) hne).trans (h.block i hi hne)⟩
theorem Kp.of_below (h : Below a.heap.size a b) (g : Nat) : Kp g a b := ⟨h.os, h.tape, h.output, h.size, fun k hk _ => h.block k hk⟩
theorem Kp.below {B : Nat} {z : World} (h : Below B z a) (k : Kp g a b) (hB : B ≤ a.heap.size) (hg : B ≤ g) : Below B z b :=
  h.grown k hB (fun i hi => by cases hi; exact hg)
end
end Go.Proofs.Ytobdooojdadgpaa
