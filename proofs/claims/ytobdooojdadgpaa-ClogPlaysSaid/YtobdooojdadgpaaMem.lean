/- Words for memory, second part: rows of aggregates, rows that the call made, appends to them. No program in sight. -/
import Derived.Test.YtobdooojdadgpaaOpen
import Derived.Laws.AppendOwnNone
import Derived.ArgAppend
import Derived.Deep.MidRow
namespace Go.Proofs.Ytobdooojdadgpaa
open Go.RowKit Go.ChangeShapes Go.WideShapes Go.ChangeAt
set_option linter.unusedVariables false
section
variable {H : Type} {enc : TypeId × Value → H} {P : Program} {w : World} {base : Nat}
theorem open_rdl' {α : Type} (f : α → List Value) (wf : α → Prop) {t e : TypeId} {v : Value} {d : DataW H} {ps : List MemPlace} (ht : P.underlying t = some (.slice e))
    (hread : ∀ (fuel : Nat) (cs : List Value) (x : DataW H × List MemPlace), DataW.trod enc P w 0 (fun _ => true) true fuel e cs = some x → ∃ a : α, cs = f a ∧ wf a)
    (hval : Value.okWide P w .any base t v) (h : DataW.Trod enc P w 0 (fun _ => true) true t v d ps) :
    ∃ (A : Option Addr) (cap : Nat) (l : List α), v = .slice A l.length cap ∧ RdL f (P.cellsOf e) w A l ∧ l.length ≤ cap ∧ cap ≤ maxLen ∧ (∀ a ∈ l, wf a) ∧ (A = none → cap = 0) := by
  obtain ⟨a0, len, cap, rfl⟩ := okWide_slice ht hval
  obtain ⟨fuel, hf⟩ := h
  rcases Go.Deep.open_slice ht hf with ⟨hcs, hx⟩ | ⟨a, len', cap', m, n, D, Pl, hcs, hb, hl, hm, hmm, hx, hi⟩
  · simp only [Value.cells, List.cons.injEq, and_true, Value.slice.injEq] at hcs
    obtain ⟨rfl, rfl, rfl⟩ := hcs
    exact ⟨none, 0, [], rfl, RdL.nil _ _ _ _, Nat.le_refl _, Nat.zero_le _, by simp, fun _ => rfl⟩
  · simp only [Value.cells, List.cons.injEq, and_true, Value.slice.injEq] at hcs
    obtain ⟨rfl, rfl, rfl⟩ := hcs
    rw [if_pos rfl] at hmm
    have each : ∀ i : Fin len, ∃ x : α, wf x ∧ ∀ j (hj : j < (f x).length), w.cell? (a.add (i * P.cellsOf e + j)) = some (f x)[j] := fun i => by
      obtain ⟨cs', hc, ht'⟩ := hi i.1 (by omega)
      obtain ⟨x, rfl, hwf⟩ := hread _ _ _ ht'
      obtain ⟨_, hcl, hat⟩ := World.cells?_some hc
      refine ⟨x, hwf, fun j hj => ?_⟩
      have := hat j (by omega)
      rw [← add_add', this, List.getElem?_eq_getElem hj]
    refine ⟨some a, cap, List.ofFn fun i : Fin len => (each i).choose, by simp, fun i hi' => ⟨a, rfl, fun j hj => ?_⟩, by simpa using hl, hm, fun x hx' => ?_, fun h => absurd h (by simp)⟩
    · simp only [List.getElem_ofFn] at hj ⊢
      exact (each ⟨i, by simpa using hi'⟩).choose_spec.2 j hj
    · obtain ⟨i, rfl⟩ := List.mem_ofFn.1 hx'
      exact (each i).choose_spec.1
theorem trod_float {t : TypeId} {k : FloatKind} {fuel : Nat} {cs : List Value} {x : DataW H × List MemPlace} {spare : Nat → Bool} {held : Bool} {b : Nat} (ht : P.underlying t = some (.float k)) (h : DataW.trod enc P w b spare held fuel t cs = some x) :
    ∃ n, cs = [.float k n] ∧ (Lit.float k n).wf = true := by
  cases fuel with
  | zero => simp [DataW.trod] at h
  | succ m =>
    unfold DataW.trod at h
    rw [ht] at h
    split at h <;> simp_all
end
theorem flat_at {α β : Type} (f : α → List β) (n : Nat) (hn : ∀ a, (f a).length = n) : ∀ (l : List α) (i : Nat) (hi : i < l.length) (j : Nat), j < n → (l.flatMap f)[i * n + j]? = (f l[i])[j]?
  | [], i, hi, _, _ => by simp at hi
  | a :: l, 0, _, j, hj => by
    rw [List.flatMap_cons, Nat.zero_mul, Nat.zero_add, List.getElem?_append_left (by rw [hn]; exact hj)]
    rfl
  | a :: l, i + 1, hi, j, hj => by
    rw [List.flatMap_cons, List.getElem?_append_right (by rw [hn, Nat.add_mul]; omega), hn]
    have e : (i + 1) * n + j - n = i * n + j := by rw [Nat.add_mul]; omega
    rw [e, flat_at f n hn l i (by simpa using hi) j hj]
    rfl
theorem flat_len {α β : Type} (f : α → List β) (n : Nat) (hn : ∀ a, (f a).length = n) (l : List α) : (l.flatMap f).length = l.length * n := by
  induction l with
  | nil => simp
  | cons a l ih => rw [List.flatMap_cons, List.length_append, ih, hn, List.length_cons, Nat.add_mul]; omega
theorem RdL.of_own {α : Type} {f : α → List Value} {n : Nat} (hn : ∀ a, (f a).length = n) (h0 : 0 < n) {w : World} {base : Nat} {e : TypeId} {A : Option Addr} {c : Nat} {l : List α} (h : w.ownsRow base e n (.slice A l.length c) l.length (l.flatMap f)) : RdL f n w A l := by
  intro i hi
  rcases h.2 with ⟨hv, h0⟩ | ⟨g, cap, cur, hv, _⟩
  · omega
  · have hA : A = Option.some ⟨g, 0, none⟩ := by injection hv
    subst hA
    refine ⟨_, rfl, fun j hj => h.cells (g := g) rfl (i * n + j) _ ?_⟩
    rw [flat_at f n hn l i hi j (by rw [← hn l[i]]; exact hj), List.getElem?_eq_getElem hj]
theorem cell_new_at {W : World} {cs : Array Value} {ty : TypeId} {n : Nat} (h : n = W.heap.size) (j : Nat) : (W.alloc (.cells cs ty)).cell? ((⟨n, 0, none⟩ : Addr).add j) = cs[j]? := by
  subst h
  have e : (⟨W.heap.size, 0, none⟩ : Addr).add j = ⟨W.heap.size, j, none⟩ := by unfold Addr.add; split <;> simp_all
  rw [e, World.cell?_alloc_new]
theorem slice_of_own' {w : World} {base : Nat} {e : TypeId} {v : Value} {n : Nat} {xs : List Value} {size : Nat} (h : w.ownsRow base e size v n xs) : ∃ A c, v = .slice A n c ∧ (A = none → c = 0) := by
  rcases h.2 with ⟨hv, h0⟩ | ⟨g, cap, cur, hv, _⟩
  · exact ⟨none, 0, by rw [hv, h0], fun _ => rfl⟩
  · exact ⟨_, _, hv, fun h => absurd h (by simp)⟩
theorem RdL.new {α : Type} {f : α → List Value} {n : Nat} (hn : ∀ a, (f a).length = n) (w : World) (ty : TypeId) (l : List α) : RdL f n (w.alloc (.cells (l.flatMap f).toArray ty)) (Option.some ⟨w.heap.size, 0, none⟩) l := fun i hi => by
  refine ⟨_, rfl, fun j hj => ?_⟩
  rw [cell_new_at rfl, List.getElem?_toArray, flat_at f n hn l i hi j (by rw [← hn l[i]]; exact hj), List.getElem?_eq_getElem hj]
theorem rdl_flat {α : Type} {f : α → List Value} {n : Nat} (hn : ∀ a, (f a).length = n) (h0 : 0 < n) {w : World} {ad : Addr} {l : List α} (h : RdL f n w (some ad) l) (j : Nat) (u : Value) (hj : (l.flatMap f)[j]? = some u) : w.cell? (ad.add j) = some u := by
  have hlt : j < l.length * n := by
    have := (List.getElem?_eq_some_iff.1 hj).1
    rwa [flat_len f n hn] at this
  have hq : j / n < l.length := (Nat.div_lt_iff_lt_mul h0).2 hlt
  have hm := Nat.mod_lt j h0
  have e : j / n * n + j % n = j := by rw [Nat.mul_comm]; exact Nat.div_add_mod j n
  rw [← e, flat_at f n hn l _ hq _ hm] at hj
  obtain ⟨ad', e1, hc⟩ := h (j / n) hq
  cases e1
  have hm' : j % n < (f l[j / n]).length := by rw [hn]; exact hm
  have := hc (j % n) hm'
  rw [e] at this
  rw [this, ← hj, List.getElem?_eq_getElem hm']
theorem flat_one' {α : Type} {f : α → List Value} (h : ∀ a, ∀ u ∈ f a, u.oneCell' = true) (l : List α) : ∀ u ∈ l.flatMap f, u.oneCell' = true := fun u hu => by
  obtain ⟨v, _, hv⟩ := List.mem_flatMap.1 hu
  exact h v u hv
theorem kc {w w' : World} (b : Below w.heap.size w w') {a : Addr} {v : Value} (h : w.cell? a = some v) : w'.cell? a = some v := (b.cell (p := a) (World.block_lt_of_cell? _ _ h)).trans h
theorem kd {B : Nat} {w w' : World} (b : Below B w w') {a : Addr} {v : Value} (hlt : a.block < B) (h : w.cell? a = some v) : w'.cell? a = some v := (b.cell (p := a) hlt).trans h
theorem RdL.drewN {α : Type} {e : α → List Value} {n : Nat} {w : World} {A : Option Addr} {l : List α} (h : RdL e n w A l) (m : Nat) : RdL e n (w.drewN m) A l := h
/-- A row that the call made: it owns its cells; or it is '[]E{}'. -/
def Fresh (w : World) (B : Nat) (e : TypeId) (size : Nat) (v : Value) (n : Nat) (xs : List Value) : Prop :=
  w.ownsRow B e size v n xs ∨ (n = 0 ∧ xs = [] ∧ ∃ b, v = .slice (some b) 0 0)
theorem Fresh.empty (w : World) (B : Nat) (e : TypeId) (size : Nat) (b : Addr) : Fresh w B e size (.slice (some b) 0 0) 0 [] := Or.inr ⟨rfl, rfl, b, rfl⟩
theorem Fresh.alloc {w : World} {B : Nat} {e : TypeId} {size : Nat} {v : Value} {n : Nat} {xs : List Value} (h : Fresh w B e size v n xs) (o : Obj) : Fresh (w.alloc o) B e size v n xs := h.imp (fun h => h.alloc o) id
theorem Fresh.slice {w : World} {B : Nat} {e : TypeId} {size : Nat} {v : Value} {n : Nat} {xs : List Value} (h : Fresh w B e size v n xs) : ∃ A c, v = .slice A n c ∧ (A = none → c = 0) := by
  rcases h with h | ⟨rfl, rfl, b, rfl⟩
  · exact slice_of_own' h
  · exact ⟨some b, 0, rfl, fun h => by cases h⟩
theorem Fresh.rd {α : Type} {f : α → List Value} {size : Nat} (hf : ∀ a, (f a).length = size) (h0 : 0 < size) {w : World} {B : Nat} {e : TypeId} {A : Option Addr} {c : Nat} {l : List α} (h : Fresh w B e size (.slice A l.length c) l.length (l.flatMap f)) : RdL f size w A l := by
  rcases h with h | ⟨hn, _, _⟩
  · exact RdL.of_own hf h0 h
  · have : l = [] := List.eq_nil_of_length_eq_zero hn
    subst this
    exact RdL.nil _ _ _ _
theorem own_mono {w : World} {B B' : Nat} {e : TypeId} {size : Nat} {v : Value} {n : Nat} {xs : List Value} (h : w.ownsRow B e size v n xs) (hb : B' ≤ B) : w.ownsRow B' e size v n xs := by
  refine ⟨h.1, ?_⟩
  rcases h.2 with h | ⟨g, cap, cur, hv, hg, rest⟩
  · exact Or.inl h
  · exact Or.inr ⟨g, cap, cur, hv, Nat.le_trans hb hg, rest⟩
theorem rdl_none {α : Type} {f : α → List Value} {size : Nat} {w : World} {l : List α} (h : RdL f size w none l) : l = [] := by
  cases l with
  | nil => rfl
  | cons a l => obtain ⟨ad, e, _⟩ := h 0 (by simp); cases e

section
variable {P : Program} {w : World} {o : Oper} {a : Act} {K : Act → World → Prop} {Q : Exit → Act → World → Prop}
theorem wp_append_fresh (s x : Operand) (t : TypeId)
    (ho : o.op = .call { callee := .builtin .append, args := #[s, x], argTypes := #[t, t] })
    (e : TypeId) (i : TypeInfo) (z : Value) (size bytes : Nat) (ht : P.underlying t = some (.slice e)) (hi : P.info? e = some i) (hz : i.zero = some z)
    (hsize : i.size = size) (hby : i.bytes = bytes) (hzs : z.cells.size = size) (hsz : 0 < size)
    {α : Type} (f : α → List Value) (hf : ∀ a, (f a).length = size) (h1 : ∀ a, ∀ u ∈ f a, u.oneCell' = true)
    (B : Nat) (v : Value) (n : Nat) (xs : List Value) (hs : a.eval s = v) (hF : Fresh w B e size v n xs) (hB : B ≤ w.heap.size)
    (A : Option Addr) (c : Nat) (l : List α) (hx : a.eval x = .slice A l.length c) (hn : A = none → c = 0) (hr : RdL f size w A l) (hl : n + l.length ≤ 100000) (hb : bytes ≤ 1000)
    (h : ∀ v' w', Fresh w' B e size v' (n + l.length) (xs ++ l.flatMap f) → Below B w w' → ((∃ b, v = .slice (some b) 0 0) → Below w.heap.size w w' ∧ v' ≠ .slice none 0 0) → K (a.put o.dst v') w') : o.wp P a w K Q := by
  have hbytes : (n + l.length) * bytes ≤ 140737488355328 := by
    have : (n + l.length) * bytes ≤ 100000 * 1000 := Nat.mul_le_mul hl hb
    omega
  have h63 : n + l.length ≤ maxLen := by unfold maxLen; omega
  have hnews : ∀ ad, A = some ad → ∀ j u, (l.flatMap f)[j]? = some u → w.cell? (ad.add j) = some u := fun ad e => by
    subst e
    exact rdl_flat hf hsz hr
  cases A with
  | none =>
    have hc := hn rfl
    subst hc
    have hnil := rdl_none hr
    subst hnil
    have hrun : (Builtin.append_ #[t, t] o.type #[v, .slice none 0 0]).run P w = .ok v w := by
      rcases hF with hF | ⟨rfl, rfl, b, rfl⟩
      · exact run_append_owned_none (P := P) (w := w) B t o.type e i size ht hi _ n xs hF
      · simp [Builtin.append_, run_underlying ht, sizeOf, typeInfo, hi, Builtin.lenOf, Builtin.firstCells, loadCells, loadCellsFrom, storeCells]
    have hx' : a.eval x = .slice none 0 0 := hx
    unfold Oper.wp
    simp [execOp, ho, resolve, invoke, builtin, hs, hx', hrun, Result.andThen]
    refine h v w (by simpa using hF) (Below.refl _ _) (fun ⟨b, hv⟩ => ⟨Below.refl _ _, by rw [hv]; simp⟩)
  | some ad =>
    have hlen := flat_len f size hf l
    by_cases hz0 : ∃ b, v = .slice (some b) 0 0
    rotate_left
    · rcases hF with hF | ⟨_, _, hb0⟩
      · refine wp_append_own w s x t ho B e i z size bytes ht hi hz hsize hby hzs hsz v n xs hs hF ad l.length c (l.flatMap f) hx hlen (hnews ad rfl) (flat_one' h1 l) h63 hbytes hB ?_
        intro v' w' hown hgrow hiff
        exact h v' w' (Or.inl hown) ((Below.refl _ _).grown hgrow hB (fun j hj => (hF.lt j hj).1)) (fun h0 => absurd h0 hz0)
      · exact absurd hb0 hz0
    · obtain ⟨b, rfl⟩ := hz0
      obtain ⟨rfl, rfl⟩ : n = 0 ∧ xs = [] := by
        rcases hF with hF | ⟨a, b, _⟩
        · have hl1 := hF.1
          rcases hF.2 with ⟨hv, h0⟩ | ⟨g, cap, cur, hv, _⟩
          · cases hv
          · have : n = 0 := by cases hv; rfl
            subst this
            exact ⟨rfl, List.eq_nil_of_length_eq_zero (by simpa using hl1)⟩
        · exact ⟨a, b⟩
      by_cases hl0 : l.length = 0
      · have hnil : l = [] := List.eq_nil_of_length_eq_zero hl0
        subst hnil
        have hrun : (Builtin.append_ #[t, t] o.type #[.slice (some b) 0 0, .slice (some ad) 0 c]).run P w = .ok (.slice (some b) 0 0) w := by
          simp [Builtin.append_, run_underlying ht, sizeOf, typeInfo, hi, Builtin.lenOf, Builtin.firstCells, loadCells, loadCellsFrom, storeCells]
        have hx' : a.eval x = .slice (some ad) 0 c := hx
        unfold Oper.wp
        simp [execOp, ho, resolve, invoke, builtin, hs, hx', hrun, Result.andThen]
        exact h _ w (Or.inr ⟨rfl, by simp, b, rfl⟩) (Below.refl _ _) (fun _ => ⟨Below.refl _ _, by simp⟩)
      · obtain ⟨v', w', hrun, r1, r2⟩ := run_append_arg_grows (P := P) w t o.type e i z size bytes ht hi hz hsize hby hzs hsz b 0 0 [] (by simp) (by simp) ad l.length c (l.flatMap f) hlen (hnews ad rfl) (by omega) h63 hbytes
        unfold Oper.wp
        simp [execOp, ho, resolve, invoke, builtin, hs, hx, hrun, Result.andThen]
        have hbl : Below w.heap.size w w' := (Below.refl _ _).grown r2 (Nat.le_refl _) (fun j hj => by cases hj)
        refine h v' w' (Or.inl (own_mono r1 hB)) (hbl.mono hB) (fun _ => ⟨hbl, ?_⟩)
        rintro rfl
        rcases r1.2 with ⟨hv, h0⟩ | ⟨g, cap, cur, hv, _⟩
        · omega
        · cases hv
end
end Go.Proofs.Ytobdooojdadgpaa
