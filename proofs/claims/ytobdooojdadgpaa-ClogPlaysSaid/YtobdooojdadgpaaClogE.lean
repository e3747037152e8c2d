/- Contracts of package clog: Beside, Running, Horizon. -/
import Derived.Test.YtobdooojdadgpaaClogD
namespace Go.Proofs.Ytobdooojdadgpaa
open Go.RowKit
set_option linter.unusedVariables false

def LogS.beside (S : LogS) (a b : Int) : Bool :=
  S.has a && S.has b && !(a == b) && !((S.tx a.toNat).state == 3) && !((S.tx b.toNat).state == 3) && !S.sees a b && !S.sees b a

theorem beside_x (l : Value) (x o : Int) (w : World) (hx : Hid (Calls Try.prog 67 #[l, .int .i64 x] w fun e w' => e = .returned (.pointer none) ∧ w = w'))
    (v : Value) (ho : Hid (Calls Try.prog 67 #[l, .int .i64 o] w fun e w' => e = .returned v ∧ w = w')) :
    Calls Try.prog 42 #[l, .int .i64 x, .int .i64 o] w fun e w' => e = .returned (.bool false) ∧ w = w' := by
  go_enter Try.func42, Try.ntmps42
  go_wp2_with fail
  refine hx.out.mono ?_
  rintro e w' ⟨rfl, rfl⟩
  go_wp2_with fail
  refine ho.out.mono ?_
  rintro e w' ⟨rfl, rfl⟩
  go_wp2_with fail
  go_ret
  exact ⟨rfl, rfl⟩

theorem beside_o (l : Value) (ad : Addr) (x o : Int) (w : World) (hx : Hid (Calls Try.prog 67 #[l, .int .i64 x] w fun e w' => e = .returned (.pointer (some ad)) ∧ w = w'))
    (ho : Hid (Calls Try.prog 67 #[l, .int .i64 o] w fun e w' => e = .returned (.pointer none) ∧ w = w')) :
    Calls Try.prog 42 #[l, .int .i64 x, .int .i64 o] w fun e w' => e = .returned (.bool false) ∧ w = w' := by
  go_enter Try.func42, Try.ntmps42
  go_wp2_with fail
  refine hx.out.mono ?_
  rintro e w' ⟨rfl, rfl⟩
  go_wp2_with fail
  refine ho.out.mono ?_
  rintro e w' ⟨rfl, rfl⟩
  go_wp2_with fail
  go_ret
  exact ⟨rfl, rfl⟩

theorem beside_no (l : Value) (g kx ky : Nat) (x o : Int) (t u : Tx) (w : World) (hx : Hid (Calls Try.prog 67 #[l, .int .i64 x] w fun e w' => e = .returned (.pointer (some ⟨g, kx, none⟩)) ∧ w = w'))
    (ho : Hid (Calls Try.prog 67 #[l, .int .i64 o] w fun e w' => e = .returned (.pointer (some ⟨g, ky, none⟩)) ∧ w = w'))
    (q0 : w.cell? ⟨g, kx, none⟩ = some (.int .i64 t.state)) (q1 : w.cell? ⟨g, ky, none⟩ = some (.int .i64 u.state))
    (h : (x == o) = true ∨ (x == o) = false ∧ (t.state == 3) = true ∨ (x == o) = false ∧ (t.state == 3) = false ∧ (u.state == 3) = true) :
    Calls Try.prog 42 #[l, .int .i64 x, .int .i64 o] w fun e w' => e = .returned (.bool false) ∧ w = w' := by
  rcases h with h1 | ⟨h1, h2⟩ | ⟨h1, h2, h3⟩
  all_goals
    go_enter Try.func42, Try.ntmps42
    go_wp2_with fail
    refine hx.out.mono ?_
    rintro e w' ⟨rfl, rfl⟩
    go_wp2_with fail
    refine ho.out.mono ?_
    rintro e w' ⟨rfl, rfl⟩
    go_wp2_with fail
    go_ret
    exact ⟨rfl, rfl⟩

theorem beside_yes (l : Value) (g kx ky : Nat) (x o : Int) (t u : Tx) (w : World) (hx : Hid (Calls Try.prog 67 #[l, .int .i64 x] w fun e w' => e = .returned (.pointer (some ⟨g, kx, none⟩)) ∧ w = w'))
    (ho : Hid (Calls Try.prog 67 #[l, .int .i64 o] w fun e w' => e = .returned (.pointer (some ⟨g, ky, none⟩)) ∧ w = w'))
    (q0 : w.cell? ⟨g, kx, none⟩ = some (.int .i64 t.state)) (q1 : w.cell? ⟨g, ky, none⟩ = some (.int .i64 u.state)) (b1 b2 : Bool)
    (hs : Hid (∀ W : World, Dr w W → Calls Try.prog 39 #[l, .int .i64 x, .int .i64 o] W fun e w' => e = .returned (.bool b1) ∧ Dr W w'))
    (hs' : Hid (∀ W : World, Dr w W → Calls Try.prog 39 #[l, .int .i64 o, .int .i64 x] W fun e w' => e = .returned (.bool b2) ∧ Dr W w'))
    (h1 : (x == o) = false) (h2 : (t.state == 3) = false) (h3 : (u.state == 3) = false) :
    Calls Try.prog 42 #[l, .int .i64 x, .int .i64 o] w fun e w' => e = .returned (.bool (!b1 && !b2)) ∧ Dr w w' := by
  cases b1
  all_goals
    go_enter Try.func42, Try.ntmps42
    go_wp2_with fail
    refine hx.out.mono ?_
    rintro e w' ⟨rfl, rfl⟩
    go_wp2_with fail
    refine ho.out.mono ?_
    rintro e w' ⟨rfl, rfl⟩
    go_wp2_with fail
    refine (hs.out _ (Dr.refl _)).mono ?_
    rintro e w1 ⟨rfl, hb1⟩
    go_wp2_with fail
    first
      | (refine (hs'.out _ hb1).mono ?_
         rintro e w2 ⟨rfl, hb2⟩
         go_wp2_with fail
         go_ret
         exact ⟨rfl, hb1.trans hb2⟩)
      | (go_ret
         exact ⟨rfl, hb1⟩)

theorem beside_dr (g : Nat) (x o : Int) (S : LogS) (w : World) (h : LogAt w g S) (hl : S.l.length ≤ 200) :
    Calls Try.prog 42 #[ptr g, .int .i64 x, .int .i64 o] w fun e w' => e = .returned (.bool (S.beside x o)) ∧ Dr w w' := by
  unfold LogS.beside
  cases hx : S.has x with
  | false =>
    have c := get_hasnt g x S w h hx
    cases ho : S.has o with
    | false => exact (beside_x _ x o w c _ (get_hasnt g o S w h ho)).mono fun _ _ ⟨a, b⟩ => ⟨a, b ▸ Dr.refl _⟩
    | true => exact (beside_x _ x o w c _ (get_has g o S w h hl ho)).mono fun _ _ ⟨a, b⟩ => ⟨a, b ▸ Dr.refl _⟩
  | true =>
    have c := get_has g x S w h hl hx
    cases ho : S.has o with
    | false => exact (beside_o _ _ x o w c (get_hasnt g o S w h ho)).mono fun _ _ ⟨a, b⟩ => ⟨a, b ▸ Dr.refl _⟩
    | true =>
      have d := get_has g o S w h hl ho
      have := has_le hx
      have := has_le ho
      have q0 := h.state x.toNat (by omega)
      have q1 := h.state o.toNat (by omega)
      cases h1 : x == o with
      | true => exact (beside_no _ g _ _ x o _ _ w c d q0 q1 (.inl h1)).mono fun _ _ ⟨a, b⟩ => ⟨by simpa using a, b ▸ Dr.refl _⟩
      | false =>
        cases h2 : (S.tx x.toNat).state == 3 with
        | true => exact (beside_no _ g _ _ x o _ _ w c d q0 q1 (.inr (.inl ⟨h1, h2⟩))).mono fun _ _ ⟨a, b⟩ => ⟨by simpa using a, b ▸ Dr.refl _⟩
        | false =>
          cases h3 : (S.tx o.toNat).state == 3 with
          | true => exact (beside_no _ g _ _ x o _ _ w c d q0 q1 (.inr (.inr ⟨h1, h2, h3⟩))).mono fun _ _ ⟨a, b⟩ => ⟨by simpa using a, b ▸ Dr.refl _⟩
          | false =>
            exact beside_yes _ g _ _ x o _ _ w c d q0 q1 (S.sees x o) (S.sees o x) (Lib.hid fun W hW => sees_dr g x o S W (h.below hW.below) hl) (Lib.hid fun W hW => sees_dr g o x S W (h.below hW.below) hl) h1 h2 h3

theorem beside_any (g : Nat) (x o : Int) (S : LogS) (w : World) (h : LogAt w g S) (hl : S.l.length ≤ 200) :
    Calls Try.prog 42 #[ptr g, .int .i64 x, .int .i64 o] w fun e w' => e = .returned (.bool (S.beside x o)) ∧ Below w.heap.size w w' :=
  (beside_dr g x o S w h hl).mono fun _ _ ⟨a, b⟩ => ⟨a, b.below⟩

theorem beside_nil (x o : Int) (w : World) : Calls Try.prog 42 #[.pointer none, .int .i64 x, .int .i64 o] w fun e w' => e = .returned (.bool false) ∧ w = w' :=
  beside_x _ x o w (Lib.hid (get_nil x w)) _ (Lib.hid (get_nil o w))

theorem LogAt.drewN {w : World} {g : Nat} {S : LogS} (h : LogAt w g S) (n : Nat) : LogAt (w.drewN n) g S := h.below (below_drewN (Below.refl _ _) n)

/-- In a region that draws its order. -/
theorem sees_q (g : Nat) (x o : Int) (S : LogS) (w : World) (n : Nat) (b : Bool) (h : LogAt w g S) (hl : S.l.length ≤ 200) (he : S.sees x o = b) :
    Calls Try.prog 39 #[ptr g, .int .i64 x, .int .i64 o] (w.drewN n) fun e w' => e = .returned (.bool b) ∧ ∃ m, w' = w.drewN m :=
  Calls.quiet_of (he ▸ sees_dr g x o S _ (h.drewN n) hl)
theorem beside_q (g : Nat) (x o : Int) (S : LogS) (w : World) (n : Nat) (b : Bool) (h : LogAt w g S) (hl : S.l.length ≤ 200) (he : S.beside x o = b) :
    Calls Try.prog 42 #[ptr g, .int .i64 x, .int .i64 o] (w.drewN n) fun e w' => e = .returned (.bool b) ∧ ∃ m, w' = w.drewN m :=
  Calls.quiet_of (he ▸ beside_dr g x o S _ (h.drewN n) hl)
end Go.Proofs.Ytobdooojdadgpaa
