/- Contract: slices.Clone of columns. -/
import Derived.Test.YtmgpecomgffelaaRowQ
import Derived.WalkSpells
namespace Go.Proofs.Ytmgpecomgffelaa
open Go.RowKit
set_option linter.unusedVariables false
theorem clone_cols (A : Option Addr) (c : Nat) (l : List Col) (w : World) (ha : RdC w A l) (hn : A = none → c = 0) (hl : l.length ≤ 1000) :
    Calls Try.prog 110 #[.slice A l.length c] w fun e w' => ∃ A' c', e = .returned (.slice A' l.length c') ∧ Fresh w' w.heap.size 53 7 (.slice A' l.length c') l.length (l.flatMap Col.cells) ∧ (A' = none → c' = 0) ∧ Below w.heap.size w w' := by
  cases A with
  | none =>
    obtain rfl := hn rfl
    obtain rfl := rdl_none ha
    have hq := fun w => Lib.run_eql_slice_nil (P := Try.prog) w 49 53 none 0 0 0 0 Try.underlying49
    go_enter Try.func110, Try.ntmps110
    go_wp2_with fail
    go_ret
    exact ⟨none, 0, rfl, Or.inl (World.ownsRow_nil _ _ _ _), fun _ => rfl, Below.refl _ _⟩
  | some ad =>
    have hq := fun w => Lib.run_eql_slice_nil (P := Try.prog) w 49 53 (some ad) l.length c 0 0 Try.underlying49
    have b0 : Below w.heap.size w (w.alloc (.cells #[] 53)) := (Below.refl _ _).alloc (Nat.le_refl _) _
    have HA := Lib.hid (ha.keep b0 (Nat.le_refl _))
    clear ha hn
    go_enter Try.func110, Try.ntmps110
    go_wp2_with (at_builtin; refine wl_app_cols rfl _ _ rfl w.heap.size _ 0 [] rfl (Fresh.empty _ _ _ _ _) (by simp) _ _ l rfl (by simp) HA.out (by omega) ?_; intro v' w1 hF hb1 _)
    rw [Nat.zero_add, List.nil_append] at hF
    obtain ⟨A', c', rfl, hn'⟩ := hF.slice
    have HF := Lib.hid hF
    have HN := Lib.hid hn'
    have hb := b0.trans hb1
    clear hF hn' hb1 b0
    go_wp2_with fail
    go_ret
    exact ⟨A', c', rfl, HF.out, HN.out, hb⟩
end Go.Proofs.Ytmgpecomgffelaa
