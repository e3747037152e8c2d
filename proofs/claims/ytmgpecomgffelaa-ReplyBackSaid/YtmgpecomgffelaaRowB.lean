/- Contract of row.Pad. -/
import Derived.Test.YtmgpecomgffelaaRowA
namespace Go.Proofs.Ytmgpecomgffelaa
open Go.RowKit
set_option linter.unusedVariables false
theorem flat_at {α β : Type} (f : α → List β) (n : Nat) (hn : ∀ a, (f a).length = n) : ∀ (l : List α) (i : Nat) (hi : i < l.length) (j : Nat), j < n → (l.flatMap f)[i * n + j]? = (f l[i])[j]?
  | [], i, hi, _, _ => by simp at hi
  | a :: l, 0, _, j, hj => by
    rw [List.flatMap_cons, Nat.zero_mul, Nat.zero_add, List.getElem?_append_left (by rw [hn]; exact hj)]
    rfl
  | a :: l, i + 1, hi, j, hj => by
    rw [List.flatMap_cons, List.getElem?_append_right (by rw [hn, Nat.add_mul]; omega), hn]
    have e : (i + 1) * n + j - n = i * n + j := by rw [Nat.add_mul]; omega
    rw [e, flat_at f n hn l i (by simpa using hi) j hj]
    rfl
theorem flat_len {α β : Type} (f : α → List β) (n : Nat) (hn : ∀ a, (f a).length = n) (l : List α) : (l.flatMap f).length = l.length * n := by
  induction l with
  | nil => simp
  | cons a l ih => rw [List.flatMap_cons, List.length_append, ih, hn, List.length_cons, Nat.add_mul]; omega
theorem RdL.of_own {α : Type} {f : α → List Value} {n : Nat} (hn : ∀ a, (f a).length = n) (h0 : 0 < n) {w : World} {base : Nat} {e : TypeId} {A : Option Addr} {c : Nat} {l : List α} (h : w.ownsRow base e n (.slice A l.length c) l.length (l.flatMap f)) : RdL f n w A l := by
  intro i hi
  rcases h.2 with ⟨hv, h0⟩ | ⟨g, cap, cur, hv, _⟩
  · omega
  · have hA : A = Option.some ⟨g, 0, none⟩ := by injection hv
    subst hA
    refine ⟨_, rfl, fun j hj => h.cells (g := g) rfl (i * n + j) _ ?_⟩
    rw [flat_at f n hn l i hi j (by rw [← hn l[i]]; exact hj), List.getElem?_eq_getElem hj]
theorem Val.cells_len (v : Val) : v.cells.length = 4 := rfl
theorem Col.cells_len (v : Col) : v.cells.length = 7 := rfl
theorem cell_new_at {W : World} {cs : Array Value} {ty : TypeId} {n : Nat} (h : n = W.heap.size) (j : Nat) : (W.alloc (.cells cs ty)).cell? ((⟨n, 0, none⟩ : Addr).add j) = cs[j]? := by
  subst h
  have e : (⟨W.heap.size, 0, none⟩ : Addr).add j = ⟨W.heap.size, j, none⟩ := by unfold Addr.add; split <;> simp_all
  rw [e, World.cell?_alloc_new]
theorem slice_of_own' {w : World} {base : Nat} {e : TypeId} {v : Value} {n : Nat} {xs : List Value} {size : Nat} (h : w.ownsRow base e size v n xs) : ∃ A c, v = .slice A n c ∧ (A = none → c = 0) := by
  rcases h.2 with ⟨hv, h0⟩ | ⟨g, cap, cur, hv, _⟩
  · exact ⟨none, 0, by rw [hv, h0], fun _ => rfl⟩
  · exact ⟨_, _, hv, fun h => absurd h (by simp)⟩
theorem padV_len (l : List Col) (r : List Val) : (padV l r).length = l.length := by unfold padV; simp
theorem padV_at (l : List Col) (r : List Val) (k : Nat) (h : k < l.length) : (padV l r)[k]'(by rw [padV_len]; exact h) = r.getD k l[k].d := by unfold padV; simp

theorem pad_step (l : List Col) (r : List Val) (k : Nat) (h : k < l.length) : ((padV l r).take (k + 1)).flatMap Val.cells = ((padV l r).take k).flatMap Val.cells ++ (r.getD k l[k].d).cells := by
  rw [List.take_succ_eq_append_getElem (by rw [padV_len]; exact h), List.flatMap_append, padV_at l r k h]
  simp
set_option maxRecDepth 100000 in
theorem pad_any (A B : Option Addr) (c d : Nat) (l : List Col) (r : List Val) (w : World) (ha : RdC w A l) (hb : RdV w B r) (hl : l.length ≤ 1000) :
    Calls Try.prog 38 #[.slice A l.length c, .slice B r.length d] w fun e w' => ∃ A' c', e = .returned (.slice A' l.length c') ∧ RdV w' A' (padV l r) ∧ (A' = none → c' = 0) ∧ Below w.heap.size w w' := by
  have hst := run_sf
  have HA := Lib.hid ha
  have HB := Lib.hid hb
  obtain ⟨i0, hi, hz0, hz1, hz2⟩ := info_parts info24
  clear ha hb
  go_enter Try.func38, Try.ntmps38
  go_wp2_with fail
  go_loopw [5, 11] (fun v i wr => ∃ k : Nat, k ≤ l.length ∧ i = .int .i64 k ∧ wr.ownsRow w.heap.size 24 4 v k (((padV l r).take k).flatMap Val.cells) ∧ Below w.heap.size w wr) (fun _ i _ => l.length - (intOf i).toNat)
  case atStart => exact ⟨0, by omega, rfl, World.ownsRow_nil _ _ _ _, Below.refl _ _⟩
  case round =>
    obtain ⟨k, hk, rfl, hown, hb⟩ := hrel
    by_cases hlt : k < l.length
    · obtain ⟨ad, rfl, q0, q1, q2, q3, q4, q5, q6⟩ := RdC.at (HA.out.keep hb (Nat.le_refl _)) k hlt
      have hp := pad_step l r k hlt
      by_cases hr : k < r.length
      · obtain ⟨ad2, rfl, r0, r1, r2, r3⟩ := RdV.at (HB.out.keep hb (Nat.le_refl _)) k hr
        have ht : decide ((k : Int) < (r.length : Int)) = true := by rw [decide_eq_true]; omega
        have hg : r.getD k l[k].d = r[k] := by simp [List.getD, hr]
        rw [hg] at hp
        have Hp := Lib.hid hp
        have hblk : (ad2.add (k * 4)).block < wr.heap.size := World.block_lt_of_cell? _ _ r0
        clear hp hg
        generalize l[k] = x at *
        generalize r[k] = y at *
        go_wp2_with (at_builtin; refine wpList_append_own _ rfl _ _ 39 rfl w.heap.size 24 i0 (.agg #[.int .i64 0, .int .i64 0, .float .f64 0, .string ⟨#[]⟩]) 4 40 Try.underlying39 hi hz0 hz1 hz2 rfl (by decide) _ _ _ rfl (((hown.alloc _).alloc _).alloc _) ⟨wr.heap.size + 2, 0, none⟩ 1 1 y.cells rfl rfl ?c1 ?c2 ?c3 ?c4 ?c5 ?_)
        case c1 =>
          intro j u hj
          rw [cell_new_at (by simp)]
          simpa [Val.cells] using hj
        case c2 => simp [Value.oneCell', Val.cells]
        case c3 => unfold maxLen; omega
        case c4 => omega
        case c5 => have := hb.size; simp; omega
        intro v' w1 hown' hgrow _
        have hb1 : Below w.heap.size w w1 := (((hb.alloc hb.size _).alloc (by have := hb.size; simp; omega) _).alloc (by have := hb.size; simp; omega) _).grown hgrow (by have := hb.size; simp; omega) (fun j hj => (hown.lt j hj).1)
        go_wp2_with fail
        exact ⟨⟨k + 1, by omega, by go_num, by rw [Hp.out]; exact hown', hb1⟩, by simp [intOf]; omega⟩
      · have ht : decide ((k : Int) < (r.length : Int)) = false := by rw [decide_eq_false]; omega
        have hg : r.getD k l[k].d = l[k].d := by simp [List.getD, List.getElem?_eq_none (Nat.le_of_not_lt hr)]
        rw [hg] at hp
        have Hp := Lib.hid hp
        clear hp hg
        generalize l[k] = x at *
        go_wp2_with (at_builtin; refine wpList_append_own _ rfl _ _ 39 rfl w.heap.size 24 i0 (.agg #[.int .i64 0, .int .i64 0, .float .f64 0, .string ⟨#[]⟩]) 4 40 Try.underlying39 hi hz0 hz1 hz2 rfl (by decide) _ _ _ rfl (((hown.alloc _).alloc _).alloc _) ⟨wr.heap.size + 2, 0, none⟩ 1 1 x.d.cells rfl rfl ?c1 ?c2 ?c3 ?c4 ?c5 ?_)
        case c1 =>
          intro j u hj
          rw [cell_new_at (by simp)]
          simpa [Val.cells] using hj
        case c2 => simp [Value.oneCell', Val.cells]
        case c3 => unfold maxLen; omega
        case c4 => omega
        case c5 => have := hb.size; simp; omega
        intro v' w1 hown' hgrow _
        have hb1 : Below w.heap.size w w1 := (((hb.alloc hb.size _).alloc (by have := hb.size; simp; omega) _).alloc (by have := hb.size; simp; omega) _).grown hgrow (by have := hb.size; simp; omega) (fun j hj => (hown.lt j hj).1)
        go_wp2_with fail
        exact ⟨⟨k + 1, by omega, by go_num, by rw [Hp.out]; exact hown', hb1⟩, by simp [intOf]; omega⟩
    · obtain rfl : k = l.length := by omega
      obtain ⟨A', c', rfl, hn0⟩ := slice_of_own' hown
      have hl2 : (padV l r).take l.length = padV l r := List.take_of_length_le (by rw [padV_len]; exact Nat.le_refl _)
      rw [hl2] at hown
      have hrd : RdV wr A' (padV l r) := RdL.of_own Val.cells_len (by omega) (c := c') (e := 24) (base := w.heap.size) (by rw [padV_len]; exact hown)
      clear hown hl2
      go_wp2_with fail
      go_ret
      exact ⟨A', c', rfl, hrd, hn0, hb⟩
end Go.Proofs.Ytmgpecomgffelaa
