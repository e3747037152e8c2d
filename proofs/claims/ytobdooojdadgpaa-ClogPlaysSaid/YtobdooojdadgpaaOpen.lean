/- Opening arguments: slices of numbers. No program in sight. -/
import Derived.Test.YtobdooojdadgpaaWords
import Derived.ProofKit
import Derived.SizedLaws
import Derived.Deep.Slices
namespace Go.Proofs.Ytobdooojdadgpaa
open Go.RowKit Go.ChangeShapes Go.WideShapes Go.ChangeAt
section
variable {H : Type} {enc : TypeId × Value → H} {P : Program} {w : World} {base : Nat}
theorem open_rd_ints {t e : TypeId} {k : IntKind} {v : Value} {d : DataW H} {ps : List MemPlace} (ht : P.underlying t = some (.slice e)) (he : P.underlying e = some (.int k)) (hc : P.cellsOf e = 1)
    (hval : Value.okWide P w .any base t v) (h : DataW.Trod enc P w 0 (fun _ => true) true t v d ps) :
    ∃ (A : Option Addr) (cap : Nat) (zs : List Int), v = .slice A zs.length cap ∧ Rd w A (zs.map (.int k)) ∧ zs.length ≤ cap ∧ cap ≤ maxLen ∧ ∀ z ∈ zs, (Lit.int k z).wf = true := by
  obtain ⟨a0, len, cap, rfl⟩ := okWide_slice ht hval
  obtain ⟨fuel, hf⟩ := h
  rcases open_ints ht he hc hf with ⟨hcs, hx⟩ | ⟨a, len', cap', zs, hcs, _, hl, hm, hz, hx, hcell, hwz⟩
  · simp only [Value.cells, List.cons.injEq, and_true, Value.slice.injEq] at hcs
    obtain ⟨rfl, rfl, rfl⟩ := hcs
    exact ⟨none, 0, [], rfl, Rd.nil _ _, Nat.le_refl _, Nat.zero_le _, by simp⟩
  · simp only [Value.cells, List.cons.injEq, and_true, Value.slice.injEq] at hcs
    obtain ⟨rfl, rfl, rfl⟩ := hcs
    rw [if_pos rfl] at hz
    have hlen : (zs.take len).length = len := by rw [List.length_take]; omega
    refine ⟨some a, cap, zs.take len, by rw [hlen], fun i hi => ⟨a, rfl, ?_⟩, by omega, hm, fun z hz' => hwz z (List.mem_of_mem_take hz')⟩
    simp only [List.length_map, hlen] at hi
    rw [hcell i (by omega), List.getElem_map, List.getElem_take, List.getD_eq_getElem?_getD, List.getElem?_eq_getElem (by omega)]
    rfl

/-- The slice '.slice A l.length c' holds the elements l, each in n cells. -/
def RdL {α : Type} (e : α → List Value) (n : Nat) (w : World) (A : Option Addr) (l : List α) : Prop :=
  ∀ i (h : i < l.length), ∃ ad, A = some ad ∧ ∀ j (hj : j < (e l[i]).length), w.cell? (ad.add (i * n + j)) = some (e l[i])[j]

theorem add_pos (a : Addr) (j : Nat) (h : 0 < j) : a.add j = ⟨a.block, a.off + j, none⟩ := by unfold Addr.add; rw [if_neg (by omega)]
/-- A cell of element i, as the walk spells its address. -/
theorem RdL.cell {α : Type} {e : α → List Value} {n : Nat} {w : World} {ad : Addr} {l : List α} (h : RdL e n w (some ad) l) (i : Nat) (hi : i < l.length) (j : Nat) (hj : j < (e l[i]).length) (h0 : 0 < j) :
    w.cell? ⟨(ad.add (i * n)).block, (ad.add (i * n)).off + j, none⟩ = some (e l[i])[j] := by
  obtain ⟨ad', e', hc⟩ := h i hi
  cases e'
  rw [← add_pos _ _ h0, add_add']
  exact hc j hj
theorem RdL.cell0 {α : Type} {e : α → List Value} {n : Nat} {w : World} {ad : Addr} {l : List α} (h : RdL e n w (some ad) l) (i : Nat) (hi : i < l.length) (hj : 0 < (e l[i]).length) :
    w.cell? (ad.add (i * n)) = some (e l[i])[0] := by
  obtain ⟨ad', e', hc⟩ := h i hi
  cases e'
  exact hc 0 hj
theorem RdL.some {α : Type} {e : α → List Value} {n : Nat} {w : World} {A : Option Addr} {l : List α} (h : RdL e n w A l) (i : Nat) (hi : i < l.length) : ∃ ad, A = some ad := by
  obtain ⟨ad', e', hc⟩ := h i hi
  exact ⟨ad', e'⟩

theorem RdL.nil {α : Type} (e : α → List Value) (n : Nat) (w : World) (A : Option Addr) : RdL e n w A [] := fun i h => by simp at h
theorem RdL.keep {α : Type} {e : α → List Value} {n : Nat} {w w' : World} {A : Option Addr} {l : List α} {B : Nat} (h : RdL e n w A l) (hb : Below B w w') (hB : w.heap.size ≤ B) : RdL e n w' A l := fun i hi => by
  obtain ⟨ad, ha, hc⟩ := h i hi
  exact ⟨ad, ha, fun j hj => (hb.cell (p := ad.add (i * n + j)) (Nat.lt_of_lt_of_le (World.block_lt_of_cell? _ _ (hc j hj)) hB)).trans (hc j hj)⟩

theorem open_rdl {α : Type} (f : α → List Value) (wf : α → Prop) {t e : TypeId} {v : Value} {d : DataW H} {ps : List MemPlace} (ht : P.underlying t = some (.slice e))
    (hread : ∀ (fuel : Nat) (cs : List Value) (x : DataW H × List MemPlace), DataW.trod enc P w 0 (fun _ => true) true fuel e cs = some x → ∃ a : α, cs = f a ∧ wf a)
    (hval : Value.okWide P w .any base t v) (h : DataW.Trod enc P w 0 (fun _ => true) true t v d ps) :
    ∃ (A : Option Addr) (cap : Nat) (l : List α), v = .slice A l.length cap ∧ RdL f (P.cellsOf e) w A l ∧ l.length ≤ cap ∧ cap ≤ maxLen ∧ ∀ a ∈ l, wf a := by
  obtain ⟨a0, len, cap, rfl⟩ := okWide_slice ht hval
  obtain ⟨fuel, hf⟩ := h
  rcases Go.Deep.open_slice ht hf with ⟨hcs, hx⟩ | ⟨a, len', cap', m, n, D, Pl, hcs, hb, hl, hm, hmm, hx, hi⟩
  · simp only [Value.cells, List.cons.injEq, and_true, Value.slice.injEq] at hcs
    obtain ⟨rfl, rfl, rfl⟩ := hcs
    exact ⟨none, 0, [], rfl, RdL.nil _ _ _ _, Nat.le_refl _, Nat.zero_le _, by simp⟩
  · simp only [Value.cells, List.cons.injEq, and_true, Value.slice.injEq] at hcs
    obtain ⟨rfl, rfl, rfl⟩ := hcs
    rw [if_pos rfl] at hmm
    have each : ∀ i : Fin len, ∃ x : α, wf x ∧ ∀ j (hj : j < (f x).length), w.cell? (a.add (i * P.cellsOf e + j)) = some (f x)[j] := fun i => by
      obtain ⟨cs', hc, ht'⟩ := hi i.1 (by omega)
      obtain ⟨x, rfl, hwf⟩ := hread _ _ _ ht'
      obtain ⟨_, hcl, hat⟩ := World.cells?_some hc
      refine ⟨x, hwf, fun j hj => ?_⟩
      have := hat j (by omega)
      rw [← add_add', this, List.getElem?_eq_getElem hj]
    refine ⟨some a, cap, List.ofFn fun i : Fin len => (each i).choose, by simp, fun i hi' => ⟨a, rfl, fun j hj => ?_⟩, by simpa using hl, hm, fun x hx' => ?_⟩
    · simp only [List.getElem_ofFn] at hj ⊢
      exact (each ⟨i, by simpa using hi'⟩).choose_spec.2 j hj
    · obtain ⟨i, rfl⟩ := List.mem_ofFn.1 hx'
      exact (each i).choose_spec.1
theorem trod_fields3 {t : TypeId} {f0 f1 f2 : Field} {fuel : Nat} {cs : List Value} {x : DataW H × List MemPlace} {spare : Nat → Bool} {held : Bool} {b : Nat} (hs : P.underlying t = some (.struct #[f0, f1, f2])) (h : DataW.trod enc P w b spare held fuel t cs = some x) :
    ∃ (n : Nat) (y0 y1 y2 : DataW H × List MemPlace), cs.length = P.cellsOf t ∧ DataW.trod enc P w b spare held n f0.type ((cs.drop f0.offset).take (P.cellsOf f0.type)) = some y0 ∧ DataW.trod enc P w b spare held n f1.type ((cs.drop f1.offset).take (P.cellsOf f1.type)) = some y1 ∧ DataW.trod enc P w b spare held n f2.type ((cs.drop f2.offset).take (P.cellsOf f2.type)) = some y2 := by
  obtain ⟨xs, n, _, _, hlen, hl, hg⟩ := DataW.trod_struct hs h
  match xs, hl with
  | [y0, y1, y2], _ => exact ⟨n, y0, y1, y2, hlen, hg 0 f0 rfl, hg 1 f1 rfl, hg 2 f2 rfl⟩

theorem trod_fields4 {t : TypeId} {f0 f1 f2 f3 : Field} {fuel : Nat} {cs : List Value} {x : DataW H × List MemPlace} {spare : Nat → Bool} {held : Bool} {b : Nat} (hs : P.underlying t = some (.struct #[f0, f1, f2, f3])) (h : DataW.trod enc P w b spare held fuel t cs = some x) :
    ∃ (n : Nat) (y0 y1 y2 y3 : DataW H × List MemPlace), cs.length = P.cellsOf t ∧ DataW.trod enc P w b spare held n f0.type ((cs.drop f0.offset).take (P.cellsOf f0.type)) = some y0 ∧ DataW.trod enc P w b spare held n f1.type ((cs.drop f1.offset).take (P.cellsOf f1.type)) = some y1 ∧ DataW.trod enc P w b spare held n f2.type ((cs.drop f2.offset).take (P.cellsOf f2.type)) = some y2 ∧ DataW.trod enc P w b spare held n f3.type ((cs.drop f3.offset).take (P.cellsOf f3.type)) = some y3 := by
  obtain ⟨xs, n, _, _, hlen, hl, hg⟩ := DataW.trod_struct hs h
  match xs, hl with
  | [y0, y1, y2, y3], _ => exact ⟨n, y0, y1, y2, y3, hlen, hg 0 f0 rfl, hg 1 f1 rfl, hg 2 f2 rfl, hg 3 f3 rfl⟩

theorem trod_fields10 {t : TypeId} {f0 f1 f2 f3 f4 f5 f6 f7 f8 f9 : Field} {fuel : Nat} {cs : List Value} {x : DataW H × List MemPlace} {spare : Nat → Bool} {held : Bool} {b : Nat} (hs : P.underlying t = some (.struct #[f0, f1, f2, f3, f4, f5, f6, f7, f8, f9])) (h : DataW.trod enc P w b spare held fuel t cs = some x) :
    ∃ (n : Nat) (y0 y1 y2 y3 y4 y5 y6 y7 y8 y9 : DataW H × List MemPlace), cs.length = P.cellsOf t ∧ DataW.trod enc P w b spare held n f0.type ((cs.drop f0.offset).take (P.cellsOf f0.type)) = some y0 ∧ DataW.trod enc P w b spare held n f1.type ((cs.drop f1.offset).take (P.cellsOf f1.type)) = some y1 ∧ DataW.trod enc P w b spare held n f2.type ((cs.drop f2.offset).take (P.cellsOf f2.type)) = some y2 ∧ DataW.trod enc P w b spare held n f3.type ((cs.drop f3.offset).take (P.cellsOf f3.type)) = some y3 ∧ DataW.trod enc P w b spare held n f4.type ((cs.drop f4.offset).take (P.cellsOf f4.type)) = some y4 ∧ DataW.trod enc P w b spare held n f5.type ((cs.drop f5.offset).take (P.cellsOf f5.type)) = some y5 ∧ DataW.trod enc P w b spare held n f6.type ((cs.drop f6.offset).take (P.cellsOf f6.type)) = some y6 ∧ DataW.trod enc P w b spare held n f7.type ((cs.drop f7.offset).take (P.cellsOf f7.type)) = some y7 ∧ DataW.trod enc P w b spare held n f8.type ((cs.drop f8.offset).take (P.cellsOf f8.type)) = some y8 ∧ DataW.trod enc P w b spare held n f9.type ((cs.drop f9.offset).take (P.cellsOf f9.type)) = some y9 := by
  obtain ⟨xs, n, _, _, hlen, hl, hg⟩ := DataW.trod_struct hs h
  match xs, hl with
  | [y0, y1, y2, y3, y4, y5, y6, y7, y8, y9], _ => exact ⟨n, y0, y1, y2, y3, y4, y5, y6, y7, y8, y9, hlen, hg 0 f0 rfl, hg 1 f1 rfl, hg 2 f2 rfl, hg 3 f3 rfl, hg 4 f4 rfl, hg 5 f5 rfl, hg 6 f6 rfl, hg 7 f7 rfl, hg 8 f8 rfl, hg 9 f9 rfl⟩
end

theorem list3 {α : Type} {l : List α} (h : l.length = 3) : ∃ a b c, l = [a, b, c] := by match l, h with | [a, b, c], _ => exact ⟨a, b, c, rfl⟩
theorem list4 {α : Type} {l : List α} (h : l.length = 4) : ∃ a b c d, l = [a, b, c, d] := by match l, h with | [a, b, c, d], _ => exact ⟨a, b, c, d, rfl⟩
end Go.Proofs.Ytobdooojdadgpaa
