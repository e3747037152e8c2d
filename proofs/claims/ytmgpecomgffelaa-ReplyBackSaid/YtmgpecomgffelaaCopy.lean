/- Copies of rows and columns: 'append([]E{}, x...)', x nil or not, under a guard or not. -/
import Derived.Test.YtmgpecomgffelaaRowH
namespace Go.Proofs.Ytmgpecomgffelaa
open Go.RowKit Go.ChangeShapes Go.WideShapes Go.ChangeAt
set_option linter.unusedVariables false
theorem rdl_flat {α : Type} {f : α → List Value} {n : Nat} (hn : ∀ a, (f a).length = n) (h0 : 0 < n) {w : World} {ad : Addr} {l : List α} (h : RdL f n w (some ad) l) (j : Nat) (u : Value) (hj : (l.flatMap f)[j]? = some u) : w.cell? (ad.add j) = some u := by
  have hlt : j < l.length * n := by
    have := (List.getElem?_eq_some_iff.1 hj).1
    rwa [flat_len f n hn] at this
  have hq : j / n < l.length := (Nat.div_lt_iff_lt_mul h0).2 hlt
  have hm := Nat.mod_lt j h0
  have e : j / n * n + j % n = j := by rw [Nat.mul_comm]; exact Nat.div_add_mod j n
  rw [← e, flat_at f n hn l _ hq _ hm] at hj
  obtain ⟨ad', e1, hc⟩ := h (j / n) hq
  cases e1
  have hm' : j % n < (f l[j / n]).length := by rw [hn]; exact hm
  have := hc (j % n) hm'
  rw [e] at this
  rw [this, ← hj, List.getElem?_eq_getElem hm']
theorem wpList_append_wanted {P : Program} {w : World} {ops : Array Oper} {rest : List Oper} {o : Oper} {a : Act} {Q : Exit → Act → World → Prop} (hw : Region.wanted o (yielded ops a.tmps) = true) (s x : Operand) (t : TypeId)
    (ho : o.op = .call { callee := .builtin .append, args := #[s, x], argTypes := #[t, t] })
    (base : Nat) (e : TypeId) (i : TypeInfo) (z : Value) (size bytes : Nat) (ht : P.underlying t = some (.slice e)) (hi : P.info? e = some i) (hz : i.zero = some z)
    (hsize : i.size = size) (hby : i.bytes = bytes) (hzs : z.cells.size = size) (hsz : 0 < size)
    (v : Value) (n : Nat) (xs : List Value) (hs : a.eval s = v) (hown : w.ownsRow base e size v n xs)
    (ad : Addr) (m c : Nat) (news : List Value) (hx : a.eval x = .slice (some ad) m c) (hl : news.length = m * size) (hnews : ∀ j u, news[j]? = some u → w.cell? (ad.add j) = some u) (h1 : ∀ u ∈ news, u.oneCell' = true)
    (h63 : n + m ≤ maxLen) (hbytes : (n + m) * bytes ≤ 140737488355328) (hbase : base ≤ w.heap.size)
    (h : ∀ v' w', w'.ownsRow base e size v' (n + m) (xs ++ news) → w.grownBy w' v.ownBlock → (v' = .slice none 0 0 ↔ v = .slice none 0 0 ∧ m = 0) → wpList P ops Q rest (a.put o.dst v') w') : wpList P ops Q (o :: rest) a w :=
  wpList_step fun K hK => by
    rw [if_pos hw]
    exact wp_append_own w s x t ho base e i z size bytes ht hi hz hsize hby hzs hsz v n xs hs hown ad m c news hx hl hnews h1 h63 hbytes hbase fun v' w' h2 h3 h4 => hK _ _ (h v' w' h2 h3 h4)
theorem flat_one' {α : Type} {f : α → List Value} (h : ∀ a, ∀ u ∈ f a, u.oneCell' = true) (l : List α) : ∀ u ∈ l.flatMap f, u.oneCell' = true := fun u hu => by
  obtain ⟨v, _, hv⟩ := List.mem_flatMap.1 hu
  exact h v u hv
theorem wpList_copy {P : Program} {w : World} {ops : Array Oper} {rest : List Oper} {o : Oper} {a : Act} {Q : Exit → Act → World → Prop} (hw : Region.wanted o (yielded ops a.tmps) = true) (s x : Operand) (t : TypeId)
    (ho : o.op = .call { callee := .builtin .append, args := #[s, x], argTypes := #[t, t] })
    (e : TypeId) (i : TypeInfo) (z : Value) (size bytes : Nat) (ht : P.underlying t = some (.slice e)) (hi : P.info? e = some i) (hz : i.zero = some z)
    (hsize : i.size = size) (hby : i.bytes = bytes) (hzs : z.cells.size = size) (hsz : 0 < size)
    {α : Type} (f : α → List Value) (hf : ∀ a, (f a).length = size) (h1 : ∀ a, ∀ u ∈ f a, u.oneCell' = true)
    (A : Option Addr) (c : Nat) (l : List α) (hx : a.eval x = .slice A l.length c) (hn : A = none → c = 0) (hr : RdL f size w A l) (hl : l.length ≤ 1000) (hb : bytes ≤ 1000)
    (hs : a.eval s = .slice (some ⟨w.heap.size, 0, none⟩) 0 0)
    (h : ∀ A' c' w', RdL f size w' A' l → Below w.heap.size w w' → A' ≠ none → wpList P ops Q rest (a.put o.dst (.slice A' l.length c')) w') : wpList P ops Q (o :: rest) a (w.alloc (.cells #[] e)) := by
  have hown0 : (w.alloc (.cells #[] e)).ownsRow w.heap.size e size (.slice (some ⟨w.heap.size, 0, none⟩) 0 0) 0 [] := ⟨by simp, Or.inr ⟨w.heap.size, 0, #[], rfl, Nat.le_refl _, Array.getElem?_push_size, Nat.le_refl _, by simp, by simp, by simp⟩⟩
  have hb0 : Below w.heap.size w (w.alloc (.cells #[] e)) := (Below.refl _ _).alloc (Nat.le_refl _) _
  cases A with
  | none =>
    have hc := hn rfl
    subst hc
    have hnil : l = [] := by
      cases l with
      | nil => rfl
      | cons a l => obtain ⟨ad, e, _⟩ := hr 0 (by simp); cases e
    subst hnil
    refine wpList_step fun K hK => ?_
    rw [if_pos hw]
    have hrun := run_append_owned_none (P := P) (w := w.alloc (.cells #[] e)) w.heap.size t o.type e i size ht hi _ 0 [] hown0
    unfold Oper.wp
    have hx' : a.eval x = .slice none 0 0 := hx
    simp [execOp, ho, resolve, invoke, builtin, hs, hx', hrun, Result.andThen]
    exact hK _ _ (h _ 0 _ (RdL.nil _ _ _ _) hb0 (by simp))
  | some ad =>
    refine wpList_append_wanted hw s x t ho w.heap.size e i z size bytes ht hi hz hsize hby hzs hsz _ 0 [] hs hown0 ad l.length c (l.flatMap f) hx ?_ ?_ (flat_one' h1 l) (by unfold maxLen; omega) ?_ (by simp) ?_
    · rw [flat_len f size hf]
    · exact rdl_flat hf hsz (hr.keep hb0 (Nat.le_refl _))
    · rw [Nat.zero_add]; have : l.length * bytes ≤ 1000 * 1000 := Nat.mul_le_mul hl hb
      omega
    intro v' w' hown hgrow hiff
    rw [Nat.zero_add, List.nil_append] at hown
    have hb2 : Below w.heap.size w w' := hb0.grown hgrow (by simp) (fun j hj => (hown0.lt j hj).1)
    obtain ⟨A', c', rfl, hn'⟩ := slice_of_own' hown
    refine h A' c' w' (RdL.of_own hf hsz hown) hb2 ?_
    intro h0
    subst h0
    rcases hown.2 with ⟨hv, h0⟩ | ⟨g, cap, cur, hv, _⟩
    · have := hn' rfl
      subst this
      have := hiff.1 (by rw [h0])
      simp at this
    · cases hv
theorem Val.one (v : Val) : ∀ u ∈ v.cells, u.oneCell' = true := fun u hu => by
  simp only [Val.cells, List.mem_cons, List.not_mem_nil, or_false] at hu
  rcases hu with rfl | rfl | rfl | rfl <;> rfl
theorem Col.one (v : Col) : ∀ u ∈ v.cells, u.oneCell' = true := fun u hu => by
  simp only [Col.cells, List.mem_cons, List.not_mem_nil, or_false] at hu
  rcases hu with rfl | rfl | rfl | rfl | rfl | rfl | rfl <;> rfl
theorem info53 : (Try.prog.info? 53).map (fun i => (i.zero, i.size, i.bytes)) = some (some (.agg #[.string ⟨#[]⟩, .int .i64 0, .bool false, .int .i64 0, .int .i64 0, .float .f64 0, .string ⟨#[]⟩]), 7, 72) := by kernel_rfl
section
variable {w : World} {ops : Array Oper} {rest : List Oper} {o : Oper} {a : Act} {Q : Exit → Act → World → Prop}
theorem copy_vals (hw : Region.wanted o (yielded ops a.tmps) = true) (s x : Operand) (ho : o.op = .call { callee := .builtin .append, args := #[s, x], argTypes := #[39, 39] })
    (A : Option Addr) (c : Nat) (l : List Val) (hx : a.eval x = .slice A l.length c) (hn : A = none → c = 0) (hr : RdV w A l) (hl : l.length ≤ 1000)
    (hs : a.eval s = .slice (some ⟨w.heap.size, 0, none⟩) 0 0)
    (h : ∀ A' c' w', RdV w' A' l → Below w.heap.size w w' → A' ≠ none → wpList Try.prog ops Q rest (a.put o.dst (.slice A' l.length c')) w') : wpList Try.prog ops Q (o :: rest) a (w.alloc (.cells #[] 24)) := by
  obtain ⟨i0, hi, hz0, hz1, hz2⟩ := info_parts info24
  exact wpList_copy hw s x 39 ho 24 i0 _ 4 40 Try.underlying39 hi hz0 hz1 hz2 rfl (by decide) Val.cells Val.cells_len Val.one A c l hx hn hr hl (by decide) hs h
theorem copy_cols (hw : Region.wanted o (yielded ops a.tmps) = true) (s x : Operand) (ho : o.op = .call { callee := .builtin .append, args := #[s, x], argTypes := #[49, 49] })
    (A : Option Addr) (c : Nat) (l : List Col) (hx : a.eval x = .slice A l.length c) (hn : A = none → c = 0) (hr : RdC w A l) (hl : l.length ≤ 1000)
    (hs : a.eval s = .slice (some ⟨w.heap.size, 0, none⟩) 0 0)
    (h : ∀ A' c' w', RdC w' A' l → Below w.heap.size w w' → A' ≠ none → wpList Try.prog ops Q rest (a.put o.dst (.slice A' l.length c')) w') : wpList Try.prog ops Q (o :: rest) a (w.alloc (.cells #[] 53)) := by
  obtain ⟨i0, hi, hz0, hz1, hz2⟩ := info_parts info53
  exact wpList_copy hw s x 49 ho 53 i0 _ 7 72 Try.underlying49 hi hz0 hz1 hz2 rfl (by decide) Col.cells Col.cells_len Col.one A c l hx hn hr hl (by decide) hs h
end
theorem kc {w w' : World} (b : Below w.heap.size w w') {a : Addr} {v : Value} (h : w.cell? a = some v) : w'.cell? a = some v := (b.cell (p := a) (World.block_lt_of_cell? _ _ h)).trans h
end Go.Proofs.Ytmgpecomgffelaa
