/- Opening statements, columns and indexes. -/
import Derived.Test.YtobdooojdadgpaaPlanN
import Derived.ChangeMaps5
namespace Go.Proofs.Ytobdooojdadgpaa
open Go.RowKit Go.ChangeShapes Go.WideShapes Go.ChangeAt
set_option linter.unusedVariables false
theorem c3 : Try.prog.cellsOf 3 = 1 := by kernel_rfl
theorem c2 : Try.prog.cellsOf 2 = 1 := by kernel_rfl
theorem c4 : Try.prog.cellsOf 4 = 1 := by kernel_rfl
theorem c9 : Try.prog.cellsOf 9 = 1 := by kernel_rfl
theorem c39 : Try.prog.cellsOf 39 = 1 := by kernel_rfl
theorem c41 : Try.prog.cellsOf 41 = 4 := by kernel_rfl
theorem c42 : Try.prog.cellsOf 42 = 1 := by kernel_rfl
theorem c43 : Try.prog.cellsOf 43 = 1 := by kernel_rfl
theorem c45 : Try.prog.cellsOf 45 = 16 := by kernel_rfl
theorem c60 : Try.prog.cellsOf 60 = 4 := by kernel_rfl
theorem c94 : Try.prog.cellsOf 94 = 7 := by kernel_rfl
theorem list7 {α : Type} {l : List α} (h : l.length = 7) : ∃ a b c d e f g, l = [a, b, c, d, e, f, g] := by match l, h with | [a, b, c, d, e, f, g], _ => exact ⟨a, b, c, d, e, f, g, rfl⟩
theorem list16 {α : Type} {l : List α} (h : l.length = 16) : ∃ a b c d e f g h i j k m n o p q, l = [a, b, c, d, e, f, g, h, i, j, k, m, n, o, p, q] := by
  match l, h with | [a, b, c, d, e, f, g, h, i, j, k, m, n, o, p, q], _ => exact ⟨a, b, c, d, e, f, g, h, i, j, k, m, n, o, p, q, rfl⟩
section
variable {H : Type} {enc : TypeId × Value → H} {w : World} {base : Nat}
theorem open_cells {α : Type} (f : α → List Value) {P : Program} {t e : TypeId} {fuel : Nat} {cs : List Value} {x : DataW H × List MemPlace} (ht : P.underlying t = some (.slice e))
    (hread : ∀ (fuel : Nat) (cs : List Value) (x : DataW H × List MemPlace), DataW.trod enc P w 0 (fun _ => true) true fuel e cs = some x → ∃ a : α, cs = f a)
    (hf : DataW.trod enc P w 0 (fun _ => true) true fuel t cs = some x) :
    ∃ (A : Option Addr) (cap : Nat) (l : List α), cs = [.slice A l.length cap] ∧ RdL f (P.cellsOf e) w A l ∧ l.length ≤ cap ∧ (A = none → cap = 0) := by
  rcases Go.Deep.open_slice ht hf with ⟨hcs, hx⟩ | ⟨a, len', cap', m, n, D, Pl, hcs, hb, hl, hm, hmm, hx, hi⟩
  · exact ⟨none, 0, [], hcs, RdL.nil _ _ _ _, Nat.zero_le _, fun _ => rfl⟩
  · rw [if_pos rfl] at hmm
    have each : ∀ i : Fin len', ∃ x : α, ∀ j (hj : j < (f x).length), w.cell? (a.add (i * P.cellsOf e + j)) = some (f x)[j] := fun i => by
      obtain ⟨cs', hc, ht'⟩ := hi i.1 (by omega)
      obtain ⟨x, rfl⟩ := hread _ _ _ ht'
      obtain ⟨_, hcl, hat⟩ := World.cells?_some hc
      refine ⟨x, fun j hj => ?_⟩
      have := hat j (by omega)
      rw [← add_add', this, List.getElem?_eq_getElem hj]
    refine ⟨some a, cap', List.ofFn fun i : Fin len' => (each i).choose, by rw [hcs]; simp, fun i hi' => ⟨a, rfl, fun j hj => ?_⟩, by simpa using hl, fun h => absurd h (by simp)⟩
    simp only [List.getElem_ofFn] at hj ⊢
    exact (each ⟨i, by simpa using hi'⟩).choose_spec j hj
theorem read_val {fuel : Nat} {cs : List Value} {x : DataW H × List MemPlace} (h : DataW.trod enc Try.prog w 0 (fun _ => true) true fuel 41 cs = some x) : ∃ v : Val, cs = v.cells := by
  obtain ⟨m, y0, y1, y2, y3, hlen, h0, h1, h2, h3⟩ := trod_fields4 Try.underlying41 h
  obtain ⟨a, b, c, d, rfl⟩ := list4 (hlen.trans c41)
  rw [c3] at h0
  rw [c2] at h1
  rw [c39] at h2
  rw [c9] at h3
  obtain ⟨k, e0, _, w0⟩ := DataW.trod_int (cs := [a]) Try.underlying3 h0
  obtain ⟨n, e1, _, w1⟩ := DataW.trod_int (cs := [b]) Try.underlying2 h1
  obtain ⟨f, e2, w2⟩ := trod_float (cs := [c]) Try.underlying39 h2
  obtain ⟨s, e3, _, w3⟩ := DataW.trod_string (cs := [d]) Try.underlying9 h3
  cases e0
  cases e1
  cases e2
  cases e3
  exact ⟨⟨k, n, f, s⟩, rfl⟩
theorem read_col {fuel : Nat} {cs : List Value} {x : DataW H × List MemPlace} (h : DataW.trod enc Try.prog w 0 (fun _ => true) true fuel 94 cs = some x) : ∃ v : Col, cs = v.cells := by
  obtain ⟨m, y0, y1, y2, y3, hlen, h0, h1, h2, h3⟩ := trod_fields4 Try.underlying94 h
  obtain ⟨a, b, c, d, e, f, g, rfl⟩ := list7 (hlen.trans c94)
  rw [c9] at h0
  rw [c3] at h1
  rw [c4] at h2
  rw [c41] at h3
  obtain ⟨s, e0, _, w0⟩ := DataW.trod_string (cs := [a]) Try.underlying9 h0
  obtain ⟨k, e1, _, w1⟩ := DataW.trod_int (cs := [b]) Try.underlying3 h1
  obtain ⟨n, e2, _⟩ := DataW.trod_bool (cs := [c]) Try.underlying4 h2
  obtain ⟨v, e3⟩ := read_val (cs := [d, e, f, g]) h3
  cases e0
  cases e1
  cases e2
  obtain ⟨vk, vn, vf, vs⟩ := v
  simp only [Val.cells, List.cons.injEq, and_true] at e3
  obtain ⟨rfl, rfl, rfl, rfl⟩ := e3
  exact ⟨⟨s, k, n, ⟨vk, vn, vf, vs⟩⟩, rfl⟩
theorem read_idx {fuel : Nat} {cs : List Value} {x : DataW H × List MemPlace} (h : DataW.trod enc Try.prog w 0 (fun _ => true) true fuel 60 cs = some x) : ∃ v : Idx, cs = v.cells := by
  obtain ⟨m, y0, y1, y2, y3, hlen, h0, h1, h2, h3⟩ := trod_fields4 Try.underlying60 h
  obtain ⟨a, b, c, d, rfl⟩ := list4 (hlen.trans c60)
  rw [c9] at h0
  rw [c9] at h1
  rw [c4] at h2
  rw [c3] at h3
  obtain ⟨s, e0, _, w0⟩ := DataW.trod_string (cs := [a]) Try.underlying9 h0
  obtain ⟨k, e1, _, w1⟩ := DataW.trod_string (cs := [b]) Try.underlying9 h1
  obtain ⟨n, e2, _⟩ := DataW.trod_bool (cs := [c]) Try.underlying4 h2
  obtain ⟨v, e3, _, _⟩ := DataW.trod_int (cs := [d]) Try.underlying3 h3
  cases e0
  cases e1
  cases e2
  cases e3
  exact ⟨⟨s, k, n, v⟩, rfl⟩
set_option maxRecDepth 100000 in
theorem read_stm {fuel : Nat} {cs : List Value} {x : DataW H × List MemPlace} (h : DataW.trod enc Try.prog w 0 (fun _ => true) true fuel 45 cs = some x) : ∃ (s : Stm) (rl : List Val) (cl : List Col), cs = s.a.toList ∧ StmIn w s rl cl := by
  obtain ⟨m, y0, y1, y2, y3, y4, y5, y6, y7, y8, y9, hlen, h0, h1, h2, h3, h4, h5, h6, h7, h8, h9⟩ := trod_fields10 Try.underlying45 h
  obtain ⟨a0, a1, a2, a3, a4, a5, a6, a7, a8, a9, a10, a11, a12, a13, a14, a15, rfl⟩ := list16 (hlen.trans c45)
  rw [c3] at h0
  rw [c9] at h1 h2 h3 h4
  rw [c41] at h5 h6
  rw [c42] at h7
  rw [c43] at h8
  rw [c4] at h9
  obtain ⟨k, e0, _, _⟩ := DataW.trod_int (cs := [a0]) Try.underlying3 h0
  obtain ⟨s1, e1, _, _⟩ := DataW.trod_string (cs := [a1]) Try.underlying9 h1
  obtain ⟨s2, e2, _, _⟩ := DataW.trod_string (cs := [a2]) Try.underlying9 h2
  obtain ⟨s3, e3, _, _⟩ := DataW.trod_string (cs := [a3]) Try.underlying9 h3
  obtain ⟨s4, e4, _, _⟩ := DataW.trod_string (cs := [a4]) Try.underlying9 h4
  obtain ⟨v, e5⟩ := read_val (cs := [a5, a6, a7, a8]) h5
  obtain ⟨v', e6⟩ := read_val (cs := [a9, a10, a11, a12]) h6
  obtain ⟨rA, rc, rl, e7, hr7, _, hn7⟩ := open_cells (cs := [a13]) Val.cells Try.underlying42 (fun fuel cs x h => read_val h) h7
  obtain ⟨cA, cc, cl, e8, hr8, _, hn8⟩ := open_cells (cs := [a14]) Col.cells Try.underlying43 (fun fuel cs x h => read_col h) h8
  obtain ⟨b, e9, _⟩ := DataW.trod_bool (cs := [a15]) Try.underlying4 h9
  cases e0
  cases e1
  cases e2
  cases e3
  cases e4
  cases e7
  cases e8
  cases e9
  obtain ⟨vk, vn, vf, vs⟩ := v
  obtain ⟨wk, wn, wf, ws⟩ := v'
  simp only [Val.cells, List.cons.injEq, and_true] at e5 e6
  obtain ⟨rfl, rfl, rfl, rfl⟩ := e5
  obtain ⟨rfl, rfl, rfl, rfl⟩ := e6
  rw [c41] at hr7
  rw [c94] at hr8
  exact ⟨⟨k, s1, s2, s3, s4, ⟨vk, vn, vf, vs⟩, ⟨wk, wn, wf, ws⟩, rA, rl.length, rc, cA, cl.length, cc, b⟩, rl, cl, rfl, ⟨rfl, rfl, hr7, hr8, hn7, hn8⟩⟩
set_option maxRecDepth 100000 in
theorem open_stm {v : Value} {d : DataW H} {ps : List MemPlace} (hval : Value.okWide Try.prog w .any base 45 v) (h : DataW.Trod enc Try.prog w 0 (fun _ => true) true 45 v d ps) :
    ∃ (s : Stm) (rl : List Val) (cl : List Col), v = sv s ∧ StmIn w s rl cl := by
  obtain ⟨cs, rfl, _⟩ := okWide_struct Try.underlying45 hval
  obtain ⟨fuel, hf⟩ := h
  obtain ⟨s, rl, cl, hx, hi⟩ := read_stm hf
  refine ⟨s, rl, cl, ?_, hi⟩
  have : cs.toList = s.a.toList := hx
  rw [← Array.toArray_toList (xs := cs), this]
set_option maxRecDepth 100000 in
theorem open_cols {v : Value} {d : DataW H} {ps : List MemPlace} (hval : Value.okWide Try.prog w .any base 43 v) (h : DataW.Trod enc Try.prog w 0 (fun _ => true) true 43 v d ps) :
    ∃ (A : Option Addr) (cap : Nat) (l : List Col), v = .slice A l.length cap ∧ RdC w A l ∧ l.length ≤ cap ∧ (A = none → cap = 0) := by
  obtain ⟨a0, len, cap, rfl⟩ := okWide_slice Try.underlying43 hval
  obtain ⟨fuel, hf⟩ := h
  obtain ⟨A, c, l, e, hr, hlc, hn⟩ := open_cells Col.cells Try.underlying43 (fun fuel cs x h => read_col h) hf
  rw [c94] at hr
  simp only [Value.cells, List.cons.injEq, and_true] at e
  exact ⟨A, c, l, e, hr, hlc, hn⟩
set_option maxRecDepth 100000 in
theorem open_idxs {v : Value} {d : DataW H} {ps : List MemPlace} (hval : Value.okWide Try.prog w .any base 46 v) (h : DataW.Trod enc Try.prog w 0 (fun _ => true) true 46 v d ps) :
    ∃ (A : Option Addr) (cap : Nat) (l : List Idx), v = .slice A l.length cap ∧ RdI w A l ∧ l.length ≤ cap ∧ (A = none → cap = 0) := by
  obtain ⟨a0, len, cap, rfl⟩ := okWide_slice Try.underlying46 hval
  obtain ⟨fuel, hf⟩ := h
  obtain ⟨A, c, l, e, hr, hlc, hn⟩ := open_cells Idx.cells Try.underlying46 (fun fuel cs x h => read_idx h) hf
  rw [c60] at hr
  simp only [Value.cells, List.cons.injEq, and_true] at e
  exact ⟨A, c, l, e, hr, hlc, hn⟩
end
end Go.Proofs.Ytobdooojdadgpaa
