/- Rows of rows: as they came in, as the call makes them; appends to them; a copy of a row. -/
import Derived.Test.YtmgpecomgffelaaCodJ
import Derived.WalkSpells
namespace Go.Proofs.Ytmgpecomgffelaa
open Go.RowKit
set_option linter.unusedVariables false
/-- Where a row lies, and its capacity. -/
structure Sl where
  A : Option Addr
  c : Nat
abbrev slv (s : Sl) (l : List Val) : Value := .slice s.A l.length s.c
def slp (p : Sl × List Val) : Value := .slice p.1.A p.2.length p.1.c
/-- Rows of rows in memory. -/
def RdRows (w : World) (A : Option Addr) (ls : List (List Val)) : Prop :=
  ∀ i (h : i < ls.length), ∃ (ad : Addr) (s : Sl), A = some ad ∧ w.cell? (ad.add i) = some (.slice s.A ls[i].length s.c) ∧ RdV w s.A ls[i] ∧ (s.A = none → s.c = 0)
theorem RdRows.keep {w w' : World} {A : Option Addr} {ls : List (List Val)} (h : RdRows w A ls) (hb : Below w.heap.size w w') : RdRows w' A ls := fun i hi => by
  obtain ⟨ad, s, e, hc, hr, hn⟩ := h i hi
  exact ⟨ad, s, e, kc hb hc, hr.keep hb (Nat.le_refl _), hn⟩
theorem RdRows.nil (w : World) (A : Option Addr) : RdRows w A [] := fun i h => absurd h (by simp)
theorem RdRows.take {w : World} {A : Option Addr} {ls : List (List Val)} (h : RdRows w A ls) (n : Nat) : RdRows w A (ls.take n) := fun i hi => by
  obtain ⟨ad, s, e, hc, hr, hn⟩ := h i (by rw [List.length_take] at hi; omega)
  refine ⟨ad, s, e, ?_, ?_, hn⟩
  · rw [List.getElem_take]; exact hc
  · rw [List.getElem_take]; exact hr
/-- Rows of rows that the call made. -/
def OwnRows (w : World) (B : Nat) (v : Value) (ls : List (List Val)) : Prop :=
  ∃ ps : List (Sl × List Val), ls = ps.map (·.2) ∧ w.ownsRow B 39 1 v ps.length (ps.map slp) ∧ ∀ p ∈ ps, Fresh w B 24 4 (slp p) p.2.length (p.2.flatMap Val.cells)
theorem OwnRows.nil (w : World) (B : Nat) : OwnRows w B (.slice none 0 0) [] := ⟨[], rfl, World.ownsRow_nil _ _ _ _, fun p hp => absurd hp (by simp)⟩
theorem OwnRows.keep {w w' : World} {B : Nat} {v : Value} {ls : List (List Val)} (h : OwnRows w B v ls) (hb : Below w.heap.size w w') : OwnRows w' B v ls := by
  obtain ⟨ps, e, ho, hp⟩ := h
  exact ⟨ps, e, own_keep ho hb, fun p h => (hp p h).keep hb⟩
theorem OwnRows.alloc {w : World} {B : Nat} {v : Value} {ls : List (List Val)} (h : OwnRows w B v ls) (o : Obj) : OwnRows (w.alloc o) B v ls := h.keep ((Below.refl _ _).alloc (Nat.le_refl _) _)
theorem OwnRows.slice {w : World} {B : Nat} {v : Value} {ls : List (List Val)} (h : OwnRows w B v ls) : ∃ A c, v = .slice A ls.length c ∧ (A = none → c = 0) := by
  obtain ⟨ps, e, ho, hp⟩ := h
  have hl : ls.length = ps.length := by rw [e, List.length_map]
  rw [hl]
  exact slice_of_own' ho
theorem OwnRows.slice' {w : World} {B : Nat} {v : Value} {ls : List (List Val)} (h : OwnRows w B v ls) (n : Nat) (hn : ls.length = n) : ∃ A c, v = .slice A n c ∧ (A = none → c = 0) := by
  subst hn
  exact h.slice
theorem OwnRows.rd {w : World} {B : Nat} {A : Option Addr} {n c : Nat} {ls : List (List Val)} (h : OwnRows w B (.slice A n c) ls) : RdRows w A ls := by
  obtain ⟨ps, rfl, ho, hp⟩ := h
  intro i hi
  have hi' : i < ps.length := by simpa using hi
  have hA : ∃ g, A = some ⟨g, 0, none⟩ := by
    rcases ho.2 with ⟨hv, h0⟩ | ⟨g, cap, cur, hv, _⟩
    · omega
    · injection hv with a b c
      exact ⟨g, a⟩
  obtain ⟨g, rfl⟩ := hA
  have hc := ho.cells (g := g) rfl i (slp ps[i]) (by rw [List.getElem?_map, List.getElem?_eq_getElem hi']; rfl)
  have hF := hp ps[i] (List.getElem_mem hi')
  refine ⟨_, ps[i].1, rfl, ?_, ?_, ?_⟩
  · have e : (⟨g, 0, none⟩ : Addr).add i = ⟨g, i, none⟩ := by unfold Addr.add; split <;> simp_all
    rw [e] at hc
    rw [e, hc, List.getElem_map]
    rfl
  · rw [List.getElem_map]
    exact Fresh.rd Val.cells_len (by decide) hF
  · obtain ⟨A', c', e, hn⟩ := hF.slice
    unfold slp at e
    injection e with a b c
    rw [a, c]
    exact hn
theorem own_type_ne {w : World} {B B' : Nat} {e e' : TypeId} (he : e ≠ e') {s s' : Nat} {v v' : Value} {n n' : Nat} {xs xs' : List Value} (h : w.ownsRow B e s v n xs) (h' : w.ownsRow B' e' s' v' n' xs') (g : Nat) (hg : v.ownBlock = some g) : some g ≠ v'.ownBlock := fun hg' => by
  rcases h.2 with ⟨hv, _⟩ | ⟨k, cap, cur, hv, _, hc, _⟩
  · rw [hv] at hg; cases hg
  · rcases h'.2 with ⟨hv', _⟩ | ⟨k', cap', cur', hv', _, hc', _⟩
    · rw [hv'] at hg'; cases hg'
    · rw [hv] at hg
      rw [hv'] at hg'
      cases hg
      cases hg'
      rw [hc] at hc'
      injection hc' with hc'
      injection hc' with _ h2
      exact he h2
theorem own_grown {w w' : World} {B : Nat} {e : TypeId} {s : Nat} {v : Value} {n : Nat} {xs : List Value} {row : Option Nat} (h : w.ownsRow B e s v n xs) (hg : w.grownBy w' row) (hne : ∀ g, v.ownBlock = some g → some g ≠ row) : w'.ownsRow B e s v n xs := by
  refine ⟨h.1, ?_⟩
  rcases h.2 with h | ⟨g, cap, cur, hv, hb, hc, rest⟩
  · exact Or.inl h
  · refine Or.inr ⟨g, cap, cur, hv, hb, (hg.block g (Array.getElem?_eq_some_iff.1 hc).1 (hne g (by rw [hv]; rfl))).trans hc, rest⟩
theorem Fresh.grown {w w' : World} {B B' : Nat} {e e' : TypeId} (he : e ≠ e') {s s' : Nat} {v v' : Value} {n n' : Nat} {xs xs' : List Value} (h : Fresh w B e s v n xs) (h' : w.ownsRow B' e' s' v' n' xs') (hg : w.grownBy w' v'.ownBlock) : Fresh w' B e s v n xs :=
  h.imp (fun h => own_grown h hg (own_type_ne he h h')) id
theorem info39 : (Try.prog.info? 39).map (fun i => (i.zero, i.size, i.bytes)) = some (some (.slice none 0 0), 1, 24) := by kernel_rfl
set_option maxRecDepth 100000 in
theorem wl_own_row {w : World} {ops : Array Oper} {rest : List Oper} {o : Oper} {a : Act} {Q : Exit → Act → World → Prop} (hgd : o.guard = none) (s x : Operand) (ho : o.op = .call { callee := .builtin .append, args := #[s, x], argTypes := #[94, 94] })
    (B : Nat) (v : Value) (ls : List (List Val)) (hs : a.eval s = v) (hown : OwnRows w B v ls) (hB : B ≤ w.heap.size)
    (b c : Nat) (A : Option Addr) (l : List Val) (k : Nat) (hx : a.eval x = .slice (some ⟨b, 0, none⟩) 1 k) (hr : w.cell? ⟨b, 0, none⟩ = some (.slice A l.length c)) (hF : Fresh w B 24 4 (.slice A l.length c) l.length (l.flatMap Val.cells)) (hl : ls.length + 1 ≤ 100000)
    (h : ∀ v' w', OwnRows w' B v' (ls ++ [l]) → w.grownBy w' v.ownBlock → Below B w w' → wpList Try.prog ops Q rest (a.put o.dst v') w') : wpList Try.prog ops Q (o :: rest) a w := by
  obtain ⟨i0, hi, hz0, hz1, hz2⟩ := info_parts info39
  obtain ⟨ps, rfl, ho2, hp⟩ := hown
  rw [List.length_map] at hl
  refine wpList_append_own w hgd s x 94 ho B 39 i0 _ 1 24 Try.underlying94 hi hz0 hz1 hz2 rfl (by decide) v ps.length (ps.map slp) hs ho2 ⟨b, 0, none⟩ 1 k [.slice A l.length c] hx rfl (fun j u hj => ?_) (fun u hu => by obtain rfl := List.mem_singleton.1 hu; rfl) (by unfold maxLen; omega) (by omega) hB ?_
  · have h1 := (List.getElem?_eq_some_iff.1 hj).1
    have hj0 : j = 0 := by simpa using h1
    subst hj0
    cases hj
    exact hr
  · intro v' w' h1 h2 _
    refine h v' w' ⟨ps ++ [(⟨A, c⟩, l)], by simp, ?_, ?_⟩ h2 ((Below.refl _ _).grown h2 hB fun j hj => (ho2.lt j hj).1)
    · rw [List.length_append, List.map_append]
      exact h1
    · intro p hp2
      rcases List.mem_append.1 hp2 with hp2 | hp2
      · exact (hp p hp2).grown (by decide) ho2 h2
      · obtain rfl := List.mem_singleton.1 hp2
        exact hF.grown (by decide) ho2 h2
theorem clone_row (A : Option Addr) (c : Nat) (l : List Val) (w : World) (ha : RdV w A l) (hn : A = none → c = 0) (hl : l.length ≤ 1000) :
    Calls Try.prog 128 #[.slice A l.length c] w fun e w' => ∃ A' c', e = .returned (.slice A' l.length c') ∧ Fresh w' w.heap.size 24 4 (.slice A' l.length c') l.length (l.flatMap Val.cells) ∧ (A' = none → c' = 0) ∧ Below w.heap.size w w' := by
  cases A with
  | none =>
    obtain rfl := hn rfl
    obtain rfl := rdl_none ha
    have hq := fun w => Lib.run_eql_slice_nil (P := Try.prog) w 39 24 none 0 0 0 0 Try.underlying39
    go_enter Try.func128, Try.ntmps128
    go_wp2_with fail
    go_ret
    exact ⟨none, 0, rfl, Or.inl (World.ownsRow_nil _ _ _ _), fun _ => rfl, Below.refl _ _⟩
  | some ad =>
    have hq := fun w => Lib.run_eql_slice_nil (P := Try.prog) w 39 24 (some ad) l.length c 0 0 Try.underlying39
    have b0 : Below w.heap.size w (w.alloc (.cells #[] 24)) := (Below.refl _ _).alloc (Nat.le_refl _) _
    have HA := Lib.hid (ha.keep b0 (Nat.le_refl _))
    clear ha hn
    go_enter Try.func128, Try.ntmps128
    go_wp2_with (at_builtin; refine wl_app_vals rfl _ _ rfl w.heap.size _ 0 [] rfl (Fresh.empty _ _ _ _ _) (by simp) _ _ l rfl (by simp) HA.out (by omega) ?_; intro v' w1 hF hb1 _)
    rw [Nat.zero_add, List.nil_append] at hF
    obtain ⟨A', c', rfl, hn'⟩ := hF.slice
    have HF := Lib.hid hF
    have HN := Lib.hid hn'
    have hb := b0.trans hb1
    clear hF hn' hb1 b0
    go_wp2_with fail
    go_ret
    exact ⟨A', c', rfl, HF.out, HN.out, hb⟩
end Go.Proofs.Ytmgpecomgffelaa
