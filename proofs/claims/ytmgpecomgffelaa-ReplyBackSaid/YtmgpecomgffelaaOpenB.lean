/- Opening arguments, second part; rows that are owned. No program in sight. -/
import Derived.Test.YtmgpecomgffelaaOpen
import Derived.Laws.AppendOwnNone
namespace Go.Proofs.Ytmgpecomgffelaa
open Go.RowKit Go.ChangeShapes Go.WideShapes Go.ChangeAt
section
variable {H : Type} {enc : TypeId × Value → H} {P : Program} {w : World} {base : Nat}
theorem open_rdl' {α : Type} (f : α → List Value) (wf : α → Prop) {t e : TypeId} {v : Value} {d : DataW H} {ps : List MemPlace} (ht : P.underlying t = some (.slice e))
    (hread : ∀ (fuel : Nat) (cs : List Value) (x : DataW H × List MemPlace), DataW.trod enc P w 0 (fun _ => true) true fuel e cs = some x → ∃ a : α, cs = f a ∧ wf a)
    (hval : Value.okWide P w .any base t v) (h : DataW.Trod enc P w 0 (fun _ => true) true t v d ps) :
    ∃ (A : Option Addr) (cap : Nat) (l : List α), v = .slice A l.length cap ∧ RdL f (P.cellsOf e) w A l ∧ l.length ≤ cap ∧ cap ≤ maxLen ∧ (∀ a ∈ l, wf a) ∧ (A = none → cap = 0) := by
  obtain ⟨a0, len, cap, rfl⟩ := okWide_slice ht hval
  obtain ⟨fuel, hf⟩ := h
  rcases Go.Deep.open_slice ht hf with ⟨hcs, hx⟩ | ⟨a, len', cap', m, n, D, Pl, hcs, hb, hl, hm, hmm, hx, hi⟩
  · simp only [Value.cells, List.cons.injEq, and_true, Value.slice.injEq] at hcs
    obtain ⟨rfl, rfl, rfl⟩ := hcs
    exact ⟨none, 0, [], rfl, RdL.nil _ _ _ _, Nat.le_refl _, Nat.zero_le _, by simp, fun _ => rfl⟩
  · simp only [Value.cells, List.cons.injEq, and_true, Value.slice.injEq] at hcs
    obtain ⟨rfl, rfl, rfl⟩ := hcs
    rw [if_pos rfl] at hmm
    have each : ∀ i : Fin len, ∃ x : α, wf x ∧ ∀ j (hj : j < (f x).length), w.cell? (a.add (i * P.cellsOf e + j)) = some (f x)[j] := fun i => by
      obtain ⟨cs', hc, ht'⟩ := hi i.1 (by omega)
      obtain ⟨x, rfl, hwf⟩ := hread _ _ _ ht'
      obtain ⟨_, hcl, hat⟩ := World.cells?_some hc
      refine ⟨x, hwf, fun j hj => ?_⟩
      have := hat j (by omega)
      rw [← add_add', this, List.getElem?_eq_getElem hj]
    refine ⟨some a, cap, List.ofFn fun i : Fin len => (each i).choose, by simp, fun i hi' => ⟨a, rfl, fun j hj => ?_⟩, by simpa using hl, hm, fun x hx' => ?_, fun h => absurd h (by simp)⟩
    · simp only [List.getElem_ofFn] at hj ⊢
      exact (each ⟨i, by simpa using hi'⟩).choose_spec.2 j hj
    · obtain ⟨i, rfl⟩ := List.mem_ofFn.1 hx'
      exact (each i).choose_spec.1

theorem trod_float {t : TypeId} {k : FloatKind} {fuel : Nat} {cs : List Value} {x : DataW H × List MemPlace} {spare : Nat → Bool} {held : Bool} {b : Nat} (ht : P.underlying t = some (.float k)) (h : DataW.trod enc P w b spare held fuel t cs = some x) :
    ∃ n, cs = [.float k n] ∧ (Lit.float k n).wf = true := by
  cases fuel with
  | zero => simp [DataW.trod] at h
  | succ m =>
    unfold DataW.trod at h
    rw [ht] at h
    split at h <;> simp_all

theorem Rd.of_rdl {α : Type} {f : α → Value} {w : World} {A : Option Addr} {l : List α} (h : RdL (fun a => [f a]) 1 w A l) : Rd w A (l.map f) := fun i hi => by
  obtain ⟨ad, e, hc⟩ := h i (by simpa using hi)
  refine ⟨ad, e, ?_⟩
  have := hc 0 (by simp)
  simpa using this
end
theorem Rd.of_own {w : World} {base : Nat} {e : TypeId} {A : Option Addr} {n c : Nat} {xs : List Value} (h : w.ownsRow base e 1 (.slice A n c) n xs) : Rd w A xs := by
  intro i hi
  have hn : 0 < n := by have := h.1; omega
  rcases h.2 with ⟨hv, h0⟩ | ⟨g, cap, cur, hv, _⟩
  · omega
  · have hA : A = some ⟨g, 0, none⟩ := by injection hv
    subst hA
    exact ⟨_, rfl, h.cells (g := g) rfl i _ (List.getElem?_eq_getElem hi)⟩
theorem slice_of_own {w : World} {base : Nat} {e : TypeId} {v : Value} {n : Nat} {xs : List Value} {size : Nat} (h : w.ownsRow base e size v n xs) : ∃ A c, v = .slice A n c := by
  rcases h.2 with ⟨hv, h0⟩ | ⟨g, cap, cur, hv, _⟩
  · exact ⟨none, 0, by rw [hv, h0]⟩
  · exact ⟨_, _, hv⟩
end Go.Proofs.Ytmgpecomgffelaa
