/- Appends to a row that the call made, in whatever world: as one operation and at a plain region's list. -/
import Derived.Test.YtmgpecomgffelaaCopy
namespace Go.Proofs.Ytmgpecomgffelaa
open Go.RowKit Go.ChangeShapes Go.WideShapes Go.ChangeAt
set_option linter.unusedVariables false
/-- A row that the call made: it owns its cells; or it is '[]E{}'. -/
def Fresh (w : World) (B : Nat) (e : TypeId) (size : Nat) (v : Value) (n : Nat) (xs : List Value) : Prop :=
  w.ownsRow B e size v n xs ∨ (n = 0 ∧ xs = [] ∧ ∃ b, v = .slice (some b) 0 0)
theorem Fresh.empty (w : World) (B : Nat) (e : TypeId) (size : Nat) (b : Addr) : Fresh w B e size (.slice (some b) 0 0) 0 [] := Or.inr ⟨rfl, rfl, b, rfl⟩
theorem Fresh.alloc {w : World} {B : Nat} {e : TypeId} {size : Nat} {v : Value} {n : Nat} {xs : List Value} (h : Fresh w B e size v n xs) (o : Obj) : Fresh (w.alloc o) B e size v n xs := h.imp (fun h => h.alloc o) id
theorem Fresh.slice {w : World} {B : Nat} {e : TypeId} {size : Nat} {v : Value} {n : Nat} {xs : List Value} (h : Fresh w B e size v n xs) : ∃ A c, v = .slice A n c ∧ (A = none → c = 0) := by
  rcases h with h | ⟨rfl, rfl, b, rfl⟩
  · exact slice_of_own' h
  · exact ⟨some b, 0, rfl, fun h => by cases h⟩
theorem Fresh.rd {α : Type} {f : α → List Value} {size : Nat} (hf : ∀ a, (f a).length = size) (h0 : 0 < size) {w : World} {B : Nat} {e : TypeId} {A : Option Addr} {c : Nat} {l : List α} (h : Fresh w B e size (.slice A l.length c) l.length (l.flatMap f)) : RdL f size w A l := by
  rcases h with h | ⟨hn, _, _⟩
  · exact RdL.of_own hf h0 h
  · have : l = [] := List.eq_nil_of_length_eq_zero hn
    subst this
    exact RdL.nil _ _ _ _
theorem own_mono {w : World} {B B' : Nat} {e : TypeId} {size : Nat} {v : Value} {n : Nat} {xs : List Value} (h : w.ownsRow B e size v n xs) (hb : B' ≤ B) : w.ownsRow B' e size v n xs := by
  refine ⟨h.1, ?_⟩
  rcases h.2 with h | ⟨g, cap, cur, hv, hg, rest⟩
  · exact Or.inl h
  · exact Or.inr ⟨g, cap, cur, hv, Nat.le_trans hb hg, rest⟩
theorem rdl_none {α : Type} {f : α → List Value} {size : Nat} {w : World} {l : List α} (h : RdL f size w none l) : l = [] := by
  cases l with
  | nil => rfl
  | cons a l => obtain ⟨ad, e, _⟩ := h 0 (by simp); cases e

section
variable {P : Program} {w : World} {o : Oper} {a : Act} {K : Act → World → Prop} {Q : Exit → Act → World → Prop}
theorem wp_append_fresh (s x : Operand) (t : TypeId)
    (ho : o.op = .call { callee := .builtin .append, args := #[s, x], argTypes := #[t, t] })
    (e : TypeId) (i : TypeInfo) (z : Value) (size bytes : Nat) (ht : P.underlying t = some (.slice e)) (hi : P.info? e = some i) (hz : i.zero = some z)
    (hsize : i.size = size) (hby : i.bytes = bytes) (hzs : z.cells.size = size) (hsz : 0 < size)
    {α : Type} (f : α → List Value) (hf : ∀ a, (f a).length = size) (h1 : ∀ a, ∀ u ∈ f a, u.oneCell' = true)
    (B : Nat) (v : Value) (n : Nat) (xs : List Value) (hs : a.eval s = v) (hF : Fresh w B e size v n xs) (hB : B ≤ w.heap.size)
    (A : Option Addr) (c : Nat) (l : List α) (hx : a.eval x = .slice A l.length c) (hn : A = none → c = 0) (hr : RdL f size w A l) (hl : n + l.length ≤ 100000) (hb : bytes ≤ 1000)
    (h : ∀ v' w', Fresh w' B e size v' (n + l.length) (xs ++ l.flatMap f) → Below B w w' → ((∃ b, v = .slice (some b) 0 0) → Below w.heap.size w w' ∧ v' ≠ .slice none 0 0) → K (a.put o.dst v') w') : o.wp P a w K Q := by
  have hbytes : (n + l.length) * bytes ≤ 140737488355328 := by
    have : (n + l.length) * bytes ≤ 100000 * 1000 := Nat.mul_le_mul hl hb
    omega
  have h63 : n + l.length ≤ maxLen := by unfold maxLen; omega
  have hnews : ∀ ad, A = some ad → ∀ j u, (l.flatMap f)[j]? = some u → w.cell? (ad.add j) = some u := fun ad e => by
    subst e
    exact rdl_flat hf hsz hr
  cases A with
  | none =>
    have hc := hn rfl
    subst hc
    have hnil := rdl_none hr
    subst hnil
    have hrun : (Builtin.append_ #[t, t] o.type #[v, .slice none 0 0]).run P w = .ok v w := by
      rcases hF with hF | ⟨rfl, rfl, b, rfl⟩
      · exact run_append_owned_none (P := P) (w := w) B t o.type e i size ht hi _ n xs hF
      · simp [Builtin.append_, run_underlying ht, sizeOf, typeInfo, hi, Builtin.lenOf, Builtin.firstCells, loadCells, loadCellsFrom, storeCells]
    have hx' : a.eval x = .slice none 0 0 := hx
    unfold Oper.wp
    simp [execOp, ho, resolve, invoke, builtin, hs, hx', hrun, Result.andThen]
    refine h v w (by simpa using hF) (Below.refl _ _) (fun ⟨b, hv⟩ => ⟨Below.refl _ _, by rw [hv]; simp⟩)
  | some ad =>
    have hlen := flat_len f size hf l
    by_cases hz0 : ∃ b, v = .slice (some b) 0 0
    rotate_left
    · rcases hF with hF | ⟨_, _, hb0⟩
      · refine wp_append_own w s x t ho B e i z size bytes ht hi hz hsize hby hzs hsz v n xs hs hF ad l.length c (l.flatMap f) hx hlen (hnews ad rfl) (flat_one' h1 l) h63 hbytes hB ?_
        intro v' w' hown hgrow hiff
        exact h v' w' (Or.inl hown) ((Below.refl _ _).grown hgrow hB (fun j hj => (hF.lt j hj).1)) (fun h0 => absurd h0 hz0)
      · exact absurd hb0 hz0
    · obtain ⟨b, rfl⟩ := hz0
      obtain ⟨rfl, rfl⟩ : n = 0 ∧ xs = [] := by
        rcases hF with hF | ⟨a, b, _⟩
        · have hl1 := hF.1
          rcases hF.2 with ⟨hv, h0⟩ | ⟨g, cap, cur, hv, _⟩
          · cases hv
          · have : n = 0 := by cases hv; rfl
            subst this
            exact ⟨rfl, List.eq_nil_of_length_eq_zero (by simpa using hl1)⟩
        · exact ⟨a, b⟩
      by_cases hl0 : l.length = 0
      · have hnil : l = [] := List.eq_nil_of_length_eq_zero hl0
        subst hnil
        have hrun : (Builtin.append_ #[t, t] o.type #[.slice (some b) 0 0, .slice (some ad) 0 c]).run P w = .ok (.slice (some b) 0 0) w := by
          simp [Builtin.append_, run_underlying ht, sizeOf, typeInfo, hi, Builtin.lenOf, Builtin.firstCells, loadCells, loadCellsFrom, storeCells]
        have hx' : a.eval x = .slice (some ad) 0 c := hx
        unfold Oper.wp
        simp [execOp, ho, resolve, invoke, builtin, hs, hx', hrun, Result.andThen]
        exact h _ w (Or.inr ⟨rfl, by simp, b, rfl⟩) (Below.refl _ _) (fun _ => ⟨Below.refl _ _, by simp⟩)
      · obtain ⟨v', w', hrun, r1, r2⟩ := run_append_arg_grows (P := P) w t o.type e i z size bytes ht hi hz hsize hby hzs hsz b 0 0 [] (by simp) (by simp) ad l.length c (l.flatMap f) hlen (hnews ad rfl) (by omega) h63 hbytes
        unfold Oper.wp
        simp [execOp, ho, resolve, invoke, builtin, hs, hx, hrun, Result.andThen]
        have hbl : Below w.heap.size w w' := (Below.refl _ _).grown r2 (Nat.le_refl _) (fun j hj => by cases hj)
        refine h v' w' (Or.inl (own_mono r1 hB)) (hbl.mono hB) (fun _ => ⟨hbl, ?_⟩)
        rintro rfl
        rcases r1.2 with ⟨hv, h0⟩ | ⟨g, cap, cur, hv, _⟩
        · omega
        · cases hv
end

theorem wp_app_vals {w : World} {o : Oper} {a : Act} {K : Act → World → Prop} {Q : Exit → Act → World → Prop} (s x : Operand) (ho : o.op = .call { callee := .builtin .append, args := #[s, x], argTypes := #[39, 39] })
    (B : Nat) (v : Value) (n : Nat) (xs : List Value) (hs : a.eval s = v) (hF : Fresh w B 24 4 v n xs) (hB : B ≤ w.heap.size)
    (A : Option Addr) (c : Nat) (l : List Val) (hx : a.eval x = .slice A l.length c) (hn : A = none → c = 0) (hr : RdV w A l) (hl : n + l.length ≤ 100000)
    (h : ∀ v' w', Fresh w' B 24 4 v' (n + l.length) (xs ++ l.flatMap Val.cells) → Below B w w' → ((∃ b, v = .slice (some b) 0 0) → Below w.heap.size w w' ∧ v' ≠ .slice none 0 0) → K (a.put o.dst v') w') : o.wp Try.prog a w K Q := by
  obtain ⟨i0, hi, hz0, hz1, hz2⟩ := info_parts info24
  exact wp_append_fresh s x 39 ho 24 i0 _ 4 _ Try.underlying39 hi hz0 hz1 hz2 rfl (by decide) Val.cells Val.cells_len Val.one B v n xs hs hF hB A c l hx hn hr hl (by decide) h
theorem wl_app_vals {w : World} {ops : Array Oper} {rest : List Oper} {o : Oper} {a : Act} {Q : Exit → Act → World → Prop} (hw : Region.wanted o (yielded ops a.tmps) = true) (s x : Operand) (ho : o.op = .call { callee := .builtin .append, args := #[s, x], argTypes := #[39, 39] })
    (B : Nat) (v : Value) (n : Nat) (xs : List Value) (hs : a.eval s = v) (hF : Fresh w B 24 4 v n xs) (hB : B ≤ w.heap.size)
    (A : Option Addr) (c : Nat) (l : List Val) (hx : a.eval x = .slice A l.length c) (hn : A = none → c = 0) (hr : RdV w A l) (hl : n + l.length ≤ 100000)
    (h : ∀ v' w', Fresh w' B 24 4 v' (n + l.length) (xs ++ l.flatMap Val.cells) → Below B w w' → ((∃ b, v = .slice (some b) 0 0) → Below w.heap.size w w' ∧ v' ≠ .slice none 0 0) → wpList Try.prog ops Q rest (a.put o.dst v') w') : wpList Try.prog ops Q (o :: rest) a w :=
  wpList_step fun K hK => by
    rw [if_pos hw]
    exact wp_app_vals s x ho B v n xs hs hF hB A c l hx hn hr hl fun v' w' h1 h2 h3 => hK _ _ (h v' w' h1 h2 h3)

theorem wp_app_cols {w : World} {o : Oper} {a : Act} {K : Act → World → Prop} {Q : Exit → Act → World → Prop} (s x : Operand) (ho : o.op = .call { callee := .builtin .append, args := #[s, x], argTypes := #[49, 49] })
    (B : Nat) (v : Value) (n : Nat) (xs : List Value) (hs : a.eval s = v) (hF : Fresh w B 53 7 v n xs) (hB : B ≤ w.heap.size)
    (A : Option Addr) (c : Nat) (l : List Col) (hx : a.eval x = .slice A l.length c) (hn : A = none → c = 0) (hr : RdC w A l) (hl : n + l.length ≤ 100000)
    (h : ∀ v' w', Fresh w' B 53 7 v' (n + l.length) (xs ++ l.flatMap Col.cells) → Below B w w' → ((∃ b, v = .slice (some b) 0 0) → Below w.heap.size w w' ∧ v' ≠ .slice none 0 0) → K (a.put o.dst v') w') : o.wp Try.prog a w K Q := by
  obtain ⟨i0, hi, hz0, hz1, hz2⟩ := info_parts info53
  exact wp_append_fresh s x 49 ho 53 i0 _ 7 _ Try.underlying49 hi hz0 hz1 hz2 rfl (by decide) Col.cells Col.cells_len Col.one B v n xs hs hF hB A c l hx hn hr hl (by decide) h
theorem wl_app_cols {w : World} {ops : Array Oper} {rest : List Oper} {o : Oper} {a : Act} {Q : Exit → Act → World → Prop} (hw : Region.wanted o (yielded ops a.tmps) = true) (s x : Operand) (ho : o.op = .call { callee := .builtin .append, args := #[s, x], argTypes := #[49, 49] })
    (B : Nat) (v : Value) (n : Nat) (xs : List Value) (hs : a.eval s = v) (hF : Fresh w B 53 7 v n xs) (hB : B ≤ w.heap.size)
    (A : Option Addr) (c : Nat) (l : List Col) (hx : a.eval x = .slice A l.length c) (hn : A = none → c = 0) (hr : RdC w A l) (hl : n + l.length ≤ 100000)
    (h : ∀ v' w', Fresh w' B 53 7 v' (n + l.length) (xs ++ l.flatMap Col.cells) → Below B w w' → ((∃ b, v = .slice (some b) 0 0) → Below w.heap.size w w' ∧ v' ≠ .slice none 0 0) → wpList Try.prog ops Q rest (a.put o.dst v') w') : wpList Try.prog ops Q (o :: rest) a w :=
  wpList_step fun K hK => by
    rw [if_pos hw]
    exact wp_app_cols s x ho B v n xs hs hF hB A c l hx hn hr hl fun v' w' h1 h2 h3 => hK _ _ (h v' w' h1 h2 h3)

theorem RdC.uno (w : World) (x : Col) : RdC (w.alloc (.cells #[.string x.name, .int .i64 x.kind, .bool x.nn, .int .i64 x.d.kind, .int .i64 x.d.n, .float .f64 x.d.f, .string x.d.s] 53)) (some ⟨w.heap.size, 0, none⟩) [x] := RdL.new Col.cells_len w 53 [x]
theorem RdC.box {w : World} {b : Nat} {x : Col} (h : RdC w (some ⟨b, 0, none⟩) [x]) : w.cell? ⟨b, 0, none⟩ = some (.string x.name) ∧ w.cell? ⟨b, 1, none⟩ = some (.int .i64 x.kind) ∧ w.cell? ⟨b, 2, none⟩ = some (.bool x.nn) ∧
    w.cell? ⟨b, 3, none⟩ = some (.int .i64 x.d.kind) ∧ w.cell? ⟨b, 4, none⟩ = some (.int .i64 x.d.n) ∧ w.cell? ⟨b, 5, none⟩ = some (.float .f64 x.d.f) ∧ w.cell? ⟨b, 6, none⟩ = some (.string x.d.s) := by
  obtain ⟨ad, e1, q0, q1, q2, q3, q4, q5, q6⟩ := RdC.at h 0 (by simp)
  cases e1
  simp [Addr.add] at q0 q1 q2 q3 q4 q5 q6
  exact ⟨q0, q1, q2, q3, q4, q5, q6⟩
theorem RdV.one (w : World) (x : Val) : RdV (w.alloc (.cells #[.int .i64 x.kind, .int .i64 x.n, .float .f64 x.f, .string x.s] 24)) (some ⟨w.heap.size, 0, none⟩) [x] := RdL.new Val.cells_len w 24 [x]
theorem RdV.box {w : World} {b : Nat} {x : Val} (h : RdV w (some ⟨b, 0, none⟩) [x]) : w.cell? ⟨b, 0, none⟩ = some (.int .i64 x.kind) ∧ w.cell? ⟨b, 1, none⟩ = some (.int .i64 x.n) ∧ w.cell? ⟨b, 2, none⟩ = some (.float .f64 x.f) ∧
    w.cell? ⟨b, 3, none⟩ = some (.string x.s) := by
  obtain ⟨ad, e1, q0, q1, q2, q3⟩ := RdV.at h 0 (by simp)
  cases e1
  simp [Addr.add] at q0 q1 q2 q3
  exact ⟨q0, q1, q2, q3⟩
end Go.Proofs.Ytmgpecomgffelaa
