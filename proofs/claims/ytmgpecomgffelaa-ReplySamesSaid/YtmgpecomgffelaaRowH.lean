/- Opening rows of values and columns. -/
import Derived.Test.YtmgpecomgffelaaRowG
import Derived.Test.YtmgpecomgffelaaFrame
import Derived.ChangeMaps5
namespace Go.Proofs.Ytmgpecomgffelaa
open Go.RowKit Go.ChangeShapes Go.WideShapes Go.ChangeAt
set_option linter.unusedVariables false
theorem c3 : Try.prog.cellsOf 3 = 1 := by kernel_rfl
theorem c2 : Try.prog.cellsOf 2 = 1 := by kernel_rfl
theorem c4 : Try.prog.cellsOf 4 = 1 := by kernel_rfl
theorem c9 : Try.prog.cellsOf 9 = 1 := by kernel_rfl
theorem c22 : Try.prog.cellsOf 22 = 1 := by kernel_rfl
theorem c24 : Try.prog.cellsOf 24 = 4 := by kernel_rfl
theorem c53 : Try.prog.cellsOf 53 = 7 := by kernel_rfl
theorem list7 {α : Type} {l : List α} (h : l.length = 7) : ∃ a b c d e f g, l = [a, b, c, d, e, f, g] := by match l, h with | [a, b, c, d, e, f, g], _ => exact ⟨a, b, c, d, e, f, g, rfl⟩
def Val.wf (v : Val) : Prop := v.f < two64 ∧ v.s.size ≤ maxLen ∧ (Lit.int .i64 v.kind).wf = true ∧ (Lit.int .i64 v.n).wf = true
def Col.wf (c : Col) : Prop := c.d.wf ∧ c.name.size ≤ maxLen ∧ (Lit.int .i64 c.kind).wf = true
section
variable {H : Type} {enc : TypeId × Value → H} {w : World} {base : Nat} {spare : Nat → Bool} {held : Bool}
theorem read_val {fuel : Nat} {cs : List Value} {x : DataW H × List MemPlace} (h : DataW.trod enc Try.prog w base spare held fuel 24 cs = some x) : ∃ v : Val, cs = v.cells ∧ v.wf := by
  obtain ⟨m, y0, y1, y2, y3, hlen, h0, h1, h2, h3⟩ := trod_fields4 Try.underlying24 h
  obtain ⟨a, b, c, d, rfl⟩ := list4 (hlen.trans c24)
  rw [c3] at h0
  rw [c2] at h1
  rw [c22] at h2
  rw [c9] at h3
  obtain ⟨k, e0, _, w0⟩ := DataW.trod_int (cs := [a]) Try.underlying3 h0
  obtain ⟨n, e1, _, w1⟩ := DataW.trod_int (cs := [b]) Try.underlying2 h1
  obtain ⟨f, e2, w2⟩ := trod_float (cs := [c]) Try.underlying22 h2
  obtain ⟨s, e3, _, w3⟩ := DataW.trod_string (cs := [d]) Try.underlying9 h3
  cases e0
  cases e1
  cases e2
  cases e3
  exact ⟨⟨k, n, f, s⟩, rfl, by simpa [Lit.wf, two64] using w2, w3, w0, w1⟩
theorem read_col {fuel : Nat} {cs : List Value} {x : DataW H × List MemPlace} (h : DataW.trod enc Try.prog w base spare held fuel 53 cs = some x) : ∃ v : Col, cs = v.cells ∧ v.wf := by
  obtain ⟨m, y0, y1, y2, y3, hlen, h0, h1, h2, h3⟩ := trod_fields4 Try.underlying53 h
  obtain ⟨a, b, c, d, e, f, g, rfl⟩ := list7 (hlen.trans c53)
  rw [c9] at h0
  rw [c3] at h1
  rw [c4] at h2
  rw [c24] at h3
  obtain ⟨s, e0, _, w0⟩ := DataW.trod_string (cs := [a]) Try.underlying9 h0
  obtain ⟨k, e1, _, w1⟩ := DataW.trod_int (cs := [b]) Try.underlying3 h1
  obtain ⟨n, e2, _⟩ := DataW.trod_bool (cs := [c]) Try.underlying4 h2
  obtain ⟨v, e3, w3⟩ := read_val (cs := [d, e, f, g]) h3
  cases e0
  cases e1
  cases e2
  obtain ⟨vk, vn, vf, vs⟩ := v
  simp only [Val.cells, List.cons.injEq, and_true] at e3
  obtain ⟨rfl, rfl, rfl, rfl⟩ := e3
  exact ⟨⟨s, k, n, ⟨vk, vn, vf, vs⟩⟩, rfl, w3, w0, w1⟩
end
section
variable {H : Type} {enc : TypeId × Value → H} {w : World} {base : Nat}
set_option maxRecDepth 100000 in
theorem open_row {v : Value} {d : DataW H} {ps : List MemPlace} (hval : Value.okWide Try.prog w .any base 39 v) (h : DataW.Trod enc Try.prog w 0 (fun _ => true) true 39 v d ps) :
    ∃ (A : Option Addr) (cap : Nat) (l : List Val), v = .slice A l.length cap ∧ RdV w A l ∧ l.length ≤ cap ∧ (∀ a ∈ l, a.wf) ∧ (A = none → cap = 0) := by
  obtain ⟨A, c, l, e, hr, hlc, hm, hw, hn⟩ := open_rdl' (w := w) Val.cells Val.wf Try.underlying39 (fun fuel cs x h => read_val h) hval h
  rw [c24] at hr
  exact ⟨A, c, l, e, hr, hlc, hw, hn⟩
set_option maxRecDepth 100000 in
theorem open_cols {v : Value} {d : DataW H} {ps : List MemPlace} (hval : Value.okWide Try.prog w .any base 49 v) (h : DataW.Trod enc Try.prog w 0 (fun _ => true) true 49 v d ps) :
    ∃ (A : Option Addr) (cap : Nat) (l : List Col), v = .slice A l.length cap ∧ RdC w A l ∧ l.length ≤ cap ∧ (∀ a ∈ l, a.wf) ∧ (A = none → cap = 0) := by
  obtain ⟨A, c, l, e, hr, hlc, hm, hw, hn⟩ := open_rdl' (w := w) Col.cells Col.wf Try.underlying49 (fun fuel cs x h => read_col h) hval h
  rw [c53] at hr
  exact ⟨A, c, l, e, hr, hlc, hw, hn⟩
end
end Go.Proofs.Ytmgpecomgffelaa
