/- Contracts of package clog: Sees, Beside. -/
import Derived.Test.YtobdooojdadgpaaClogC
import Derived.Deep.QuietTactic
namespace Go.Proofs.Ytobdooojdadgpaa
open Go.RowKit
set_option linter.unusedVariables false

def LogS.has (S : LogS) (x : Int) : Bool := decide (1 ≤ x ∧ x ≤ S.l.length)
def LogS.sees (S : LogS) (x o : Int) : Bool :=
  S.has x && S.has o && (x == o || ((S.tx o.toNat).state == 2 && decide ((S.tx o.toNat).csn ≤ (S.tx x.toNat).snap)))

/-- Nothing but draws. -/
def Dr (w w' : World) : Prop := ∃ n, w' = w.drewN n
theorem Dr.refl (w : World) : Dr w w := ⟨0, rfl⟩
theorem Dr.below {w w' : World} (h : Dr w w') : Below w.heap.size w w' := by obtain ⟨n, rfl⟩ := h; exact below_drewN (Below.refl _ _) _
theorem Dr.trans {a b c : World} (h : Dr a b) (k : Dr b c) : Dr a c := by
  obtain ⟨n, rfl⟩ := h
  obtain ⟨m, rfl⟩ := k
  exact ⟨n + m, by rw [World.drewN_drewN]⟩

theorem sees_x (l : Value) (x o : Int) (w : World) (hx : Hid (Calls Try.prog 67 #[l, .int .i64 x] w fun e w' => e = .returned (.pointer none) ∧ w = w'))
    (v : Value) (ho : Hid (Calls Try.prog 67 #[l, .int .i64 o] w fun e w' => e = .returned v ∧ w = w')) :
    Calls Try.prog 39 #[l, .int .i64 x, .int .i64 o] w fun e w' => e = .returned (.bool false) ∧ w = w' := by
  go_enter Try.func39, Try.ntmps39
  go_wp2_with fail
  refine hx.out.mono ?_
  rintro e w' ⟨rfl, rfl⟩
  go_wp2_with fail
  refine ho.out.mono ?_
  rintro e w' ⟨rfl, rfl⟩
  go_wp2_with fail
  go_ret
  exact ⟨rfl, rfl⟩

theorem sees_o (l : Value) (ad : Addr) (x o : Int) (w : World) (hx : Hid (Calls Try.prog 67 #[l, .int .i64 x] w fun e w' => e = .returned (.pointer (some ad)) ∧ w = w'))
    (ho : Hid (Calls Try.prog 67 #[l, .int .i64 o] w fun e w' => e = .returned (.pointer none) ∧ w = w')) :
    Calls Try.prog 39 #[l, .int .i64 x, .int .i64 o] w fun e w' => e = .returned (.bool false) ∧ w = w' := by
  go_enter Try.func39, Try.ntmps39
  go_wp2_with fail
  refine hx.out.mono ?_
  rintro e w' ⟨rfl, rfl⟩
  go_wp2_with fail
  refine ho.out.mono ?_
  rintro e w' ⟨rfl, rfl⟩
  go_wp2_with fail
  go_ret
  exact ⟨rfl, rfl⟩

theorem sees_cells (l : Value) (g kx ky : Nat) (x o : Int) (t u : Tx) (w : World) (hx : Hid (Calls Try.prog 67 #[l, .int .i64 x] w fun e w' => e = .returned (.pointer (some ⟨g, kx, none⟩)) ∧ w = w'))
    (ho : Hid (Calls Try.prog 67 #[l, .int .i64 o] w fun e w' => e = .returned (.pointer (some ⟨g, ky, none⟩)) ∧ w = w'))
    (q0 : w.cell? ⟨g, ky, none⟩ = some (.int .i64 u.state)) (q1 : w.cell? ⟨g, ky + 1, none⟩ = some (.int .i64 u.csn)) (q2 : w.cell? ⟨g, kx + 2, none⟩ = some (.int .i64 t.snap)) :
    Calls Try.prog 39 #[l, .int .i64 x, .int .i64 o] w fun e w' => e = .returned (.bool (x == o || (u.state == 2 && decide (u.csn ≤ t.snap)))) ∧ Dr w w' := by
  by_cases h1 : (x == o) = true
  · rw [h1, Bool.true_or]
    go_enter Try.func39, Try.ntmps39
    go_wp2_with fail
    refine hx.out.mono ?_
    rintro e w' ⟨rfl, rfl⟩
    go_wp2_with fail
    refine ho.out.mono ?_
    rintro e w' ⟨rfl, rfl⟩
    go_wp2_with fail
    go_quiet (fail)
    go_wp2
    go_ret
    exact ⟨rfl, _, rfl⟩
  · have h1 : (x == o) = false := by simpa using h1
    rw [h1, Bool.false_or]
    by_cases h2 : (u.state == 2) = true
    · rw [h2, Bool.true_and]
      go_enter Try.func39, Try.ntmps39
      go_wp2_with fail
      refine hx.out.mono ?_
      rintro e w' ⟨rfl, rfl⟩
      go_wp2_with fail
      refine ho.out.mono ?_
      rintro e w' ⟨rfl, rfl⟩
      go_wp2_with fail
      go_quiet (fail)
      go_wp2
      go_ret
      exact ⟨rfl, _, rfl⟩
    · have h2 : (u.state == 2) = false := by simpa using h2
      rw [h2, Bool.false_and]
      go_enter Try.func39, Try.ntmps39
      go_wp2_with fail
      refine hx.out.mono ?_
      rintro e w' ⟨rfl, rfl⟩
      go_wp2_with fail
      refine ho.out.mono ?_
      rintro e w' ⟨rfl, rfl⟩
      go_wp2_with fail
      go_quiet (fail)
      go_wp2
      go_ret
      exact ⟨rfl, _, rfl⟩

theorem get_has (g : Nat) (x : Int) (S : LogS) (w : World) (h : LogAt w g S) (hl : S.l.length ≤ 200) (hx : S.has x = true) :
    Hid (Calls Try.prog 67 #[ptr g, .int .i64 x] w fun e w' => e = .returned (.pointer (some ⟨g, x.toNat * 4, none⟩)) ∧ w = w') := by
  have := of_decide_eq_true hx
  exact Lib.hid (get_yes g x S.l.length w h.n this.1 this.2 (by omega))
theorem get_hasnt (g : Nat) (x : Int) (S : LogS) (w : World) (h : LogAt w g S) (hx : S.has x = false) :
    Hid (Calls Try.prog 67 #[ptr g, .int .i64 x] w fun e w' => e = .returned (.pointer none) ∧ w = w') := by
  have := of_decide_eq_false hx
  exact Lib.hid (get_no g x S.l.length w h.n (by omega))

theorem has_le {S : LogS} {x : Int} (hx : S.has x = true) : 1 ≤ x ∧ x ≤ S.l.length := of_decide_eq_true hx

theorem sees_dr (g : Nat) (x o : Int) (S : LogS) (w : World) (h : LogAt w g S) (hl : S.l.length ≤ 200) :
    Calls Try.prog 39 #[ptr g, .int .i64 x, .int .i64 o] w fun e w' => e = .returned (.bool (S.sees x o)) ∧ Dr w w' := by
  unfold LogS.sees
  cases hx : S.has x with
  | false =>
    have c := get_hasnt g x S w h hx
    cases ho : S.has o with
    | false => exact (sees_x _ x o w c _ (get_hasnt g o S w h ho)).mono fun _ _ ⟨a, b⟩ => ⟨a, b ▸ Dr.refl _⟩
    | true => exact (sees_x _ x o w c _ (get_has g o S w h hl ho)).mono fun _ _ ⟨a, b⟩ => ⟨a, b ▸ Dr.refl _⟩
  | true =>
    have c := get_has g x S w h hl hx
    cases ho : S.has o with
    | false => exact (sees_o _ _ x o w c (get_hasnt g o S w h ho)).mono fun _ _ ⟨a, b⟩ => ⟨a, b ▸ Dr.refl _⟩
    | true =>
      have d := get_has g o S w h hl ho
      have := has_le hx
      have := has_le ho
      exact sees_cells _ g _ _ x o (S.tx x.toNat) (S.tx o.toNat) w c d (h.state _ (by omega)) (h.csn _ (by omega)) (h.snap _ (by omega))

theorem sees_any (g : Nat) (x o : Int) (S : LogS) (w : World) (h : LogAt w g S) (hl : S.l.length ≤ 200) :
    Calls Try.prog 39 #[ptr g, .int .i64 x, .int .i64 o] w fun e w' => e = .returned (.bool (S.sees x o)) ∧ Below w.heap.size w w' :=
  (sees_dr g x o S w h hl).mono fun _ _ ⟨a, b⟩ => ⟨a, b.below⟩

theorem sees_nil (x o : Int) (w : World) : Calls Try.prog 39 #[.pointer none, .int .i64 x, .int .i64 o] w fun e w' => e = .returned (.bool false) ∧ w = w' :=
  sees_x _ x o w (Lib.hid (get_nil x w)) _ (Lib.hid (get_nil o w))
end Go.Proofs.Ytobdooojdadgpaa
