/- Contracts of the document's log: Sees, Beside. -/
import Derived.Test.YtobdooojdadgpaaClogRa
namespace Go.Proofs.Ytobdooojdadgpaa
open Go.RowKit
set_option linter.unusedVariables false

def rsees (x o : Int) (t u : Tx) : Bool := !(t.state == 0) && (x == o || (u.state == 2 && decide (u.csn ≤ t.snap)))
def rbeside (x o : Int) (t u : Tx) : Bool := !(x == o || t.state == 0 || u.state == 0 || t.state == 3 || u.state == 3) && !rsees x o t u && !rsees o x u t

abbrev BoolP (b : Bool) (w : World) (e : Ending) (w' : World) : Prop := e = .returned (.bool b) ∧ Below w.heap.size w w'

theorem ref_sees_raw (l : Value) (x o : Int) (t u : Tx) (w : World) (hx : Hid (Calls Try.prog 72 #[l, .int .i64 x] w (GetP t w))) (ho : Hid (∀ W : World, Below w.heap.size w W → Calls Try.prog 72 #[l, .int .i64 o] W (GetP u W))) :
    Calls Try.prog 46 #[l, .int .i64 x, .int .i64 o] w (BoolP (rsees x o t u) w) := by
  unfold rsees
  have key : ∀ b : Bool, ((t.state == 0) = true ∧ b = false ∨ (t.state == 0) = false ∧ (x == o) = true ∧ b = true ∨ (t.state == 0) = false ∧ (x == o) = false ∧ (u.state == 2) = false ∧ b = false ∨ (t.state == 0) = false ∧ (x == o) = false ∧ (u.state == 2) = true ∧ b = decide (u.csn ≤ t.snap)) →
      Calls Try.prog 46 #[l, .int .i64 x, .int .i64 o] w (BoolP b w) := by
    intro b hb
    rcases hb with ⟨h0, rfl⟩ | ⟨h0, h1, rfl⟩ | ⟨h0, h1, h2, rfl⟩ | ⟨h0, h1, h2, rfl⟩
    all_goals
      go_enter Try.func46, Try.ntmps46
      go_wp2_with fail
      refine hx.out.mono ?_
      rintro e w1 ⟨rfl, b1⟩
      go_wp2_with fail
      refine (ho.out _ b1).mono ?_
      rintro e w2 ⟨rfl, b2⟩
      go_wp2_with fail
      go_ret
      exact ⟨rfl, ((below_trans b1 b2).alloc (below_trans b1 b2).size _).alloc (by have := (below_trans b1 b2).size; simp; omega) _⟩
  refine key _ ?_
  cases t.state == 0 <;> cases x == o <;> cases u.state == 2 <;> simp

theorem ref_sees (q : Nat) (x o : Int) (S : LogS) (w : World) (h : RefAt w q S) (hl : S.l.length ≤ 200) :
    Calls Try.prog 46 #[ptr q, .int .i64 x, .int .i64 o] w (BoolP (rsees x o (S.tx x.toNat) (S.tx o.toNat)) w) :=
  ref_sees_raw _ x o _ _ w (Lib.hid (ref_get q x S w h hl)) (Lib.hid fun W hW => ref_get q o S W (h.below hW) hl)

theorem ref_beside_raw (l : Value) (x o : Int) (t u : Tx) (w : World) (hx : Hid (Calls Try.prog 72 #[l, .int .i64 x] w (GetP t w))) (ho : Hid (∀ W : World, Below w.heap.size w W → Calls Try.prog 72 #[l, .int .i64 o] W (GetP u W)))
    (hs : Hid (∀ W : World, Below w.heap.size w W → Calls Try.prog 46 #[l, .int .i64 x, .int .i64 o] W (BoolP (rsees x o t u) W))) (hs' : Hid (∀ W : World, Below w.heap.size w W → Calls Try.prog 46 #[l, .int .i64 o, .int .i64 x] W (BoolP (rsees o x u t) W))) :
    Calls Try.prog 47 #[l, .int .i64 x, .int .i64 o] w (BoolP (rbeside x o t u) w) := by
  unfold rbeside
  generalize rsees x o t u = s1 at *
  generalize rsees o x u t = s2 at *
  have key : ∀ b : Bool, ((x == o) = true ∧ b = false ∨ (x == o) = false ∧ (t.state == 0) = true ∧ b = false ∨ (x == o) = false ∧ (t.state == 0) = false ∧ (u.state == 0) = true ∧ b = false ∨ (x == o) = false ∧ (t.state == 0) = false ∧ (u.state == 0) = false ∧ (t.state == 3) = true ∧ b = false ∨ (x == o) = false ∧ (t.state == 0) = false ∧ (u.state == 0) = false ∧ (t.state == 3) = false ∧ (u.state == 3) = true ∧ b = false) →
      Calls Try.prog 47 #[l, .int .i64 x, .int .i64 o] w (BoolP b w) := by
    intro b hb
    rcases hb with ⟨h0, rfl⟩ | ⟨h0, h1, rfl⟩ | ⟨h0, h1, h2, rfl⟩ | ⟨h0, h1, h2, h3, rfl⟩ | ⟨h0, h1, h2, h3, h4, rfl⟩
    all_goals
      go_enter Try.func47, Try.ntmps47
      go_wp2_with fail
      refine hx.out.mono ?_
      rintro e w1 ⟨rfl, b1⟩
      go_wp2_with fail
      refine (ho.out _ b1).mono ?_
      rintro e w2 ⟨rfl, b2⟩
      go_wp2_with fail
      go_ret
      exact ⟨rfl, ((below_trans b1 b2).alloc (below_trans b1 b2).size _).alloc (by have := (below_trans b1 b2).size; simp; omega) _⟩
  have key2 : (x == o) = false → (t.state == 0) = false → (u.state == 0) = false → (t.state == 3) = false → (u.state == 3) = false → Calls Try.prog 47 #[l, .int .i64 x, .int .i64 o] w (BoolP (!s1 && !s2) w) := by
    intro h0 h1 h2 h3 h4
    cases s1
    all_goals
      go_enter Try.func47, Try.ntmps47
      go_wp2_with fail
      refine hx.out.mono ?_
      rintro e w1 ⟨rfl, b1⟩
      go_wp2_with fail
      refine (ho.out _ b1).mono ?_
      rintro e w2 ⟨rfl, b2⟩
      go_wp2_with fail
      have b3 := ((below_trans b1 b2).alloc (below_trans b1 b2).size (.cells #[.int .i64 t.state, .int .i64 t.snap, .int .i64 t.csn, .bool t.reads] 113)).alloc (by have := (below_trans b1 b2).size; simp; omega) (.cells #[.int .i64 u.state, .int .i64 u.snap, .int .i64 u.csn, .bool u.reads] 113)
      refine (hs.out _ b3).mono ?_
      rintro e w4 ⟨rfl, b4⟩
      have b5 := below_trans b3 b4
      go_wp2_with fail
      first
        | (refine (hs'.out _ b5).mono ?_
           rintro e w6 ⟨rfl, b6⟩
           go_wp2_with fail
           go_ret
           exact ⟨rfl, below_trans b5 b6⟩)
        | (go_ret
           exact ⟨rfl, b5⟩)
  cases h0 : x == o
  case true => exact key _ (.inl ⟨h0, by simp⟩)
  cases h1 : t.state == 0
  case true => exact key _ (.inr (.inl ⟨h0, h1, by simp⟩))
  cases h2 : u.state == 0
  case true => exact key _ (.inr (.inr (.inl ⟨h0, h1, h2, by simp⟩)))
  cases h3 : t.state == 3
  case true => exact key _ (.inr (.inr (.inr (.inl ⟨h0, h1, h2, h3, by simp⟩))))
  cases h4 : u.state == 3
  case true => exact key _ (.inr (.inr (.inr (.inr ⟨h0, h1, h2, h3, h4, by simp⟩))))
  simpa using key2 h0 h1 h2 h3 h4

theorem ref_beside (q : Nat) (x o : Int) (S : LogS) (w : World) (h : RefAt w q S) (hl : S.l.length ≤ 200) :
    Calls Try.prog 47 #[ptr q, .int .i64 x, .int .i64 o] w (BoolP (rbeside x o (S.tx x.toNat) (S.tx o.toNat)) w) :=
  ref_beside_raw _ x o _ _ w (Lib.hid (ref_get q x S w h hl)) (Lib.hid fun W hW => ref_get q o S W (h.below hW) hl)
    (Lib.hid fun W hW => ref_sees q x o S W (h.below hW) hl) (Lib.hid fun W hW => ref_sees q o x S W (h.below hW) hl)
end Go.Proofs.Ytobdooojdadgpaa
