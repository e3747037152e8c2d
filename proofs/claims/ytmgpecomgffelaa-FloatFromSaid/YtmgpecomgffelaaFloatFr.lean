/- The law FloatFrom. -/
import Derived.Test.YtmgpecomgffelaaFloatG
import Derived.Test.YtmgpecomgffelaaFrame
namespace Go.Proofs.Ytmgpecomgffelaa
open Go.RowKit Go.ChangeShapes Go.WideShapes Go.ChangeAt
set_option linter.unusedVariables false

theorem float_lt {b : Nat} (h : (Lit.float .f64 b).wf = true) : b < two64 := by
  simpa [Lit.wf, two64] using h
theorem float_from (a : Nat) (ha : a < two64) (w : World) : Tells Try.prog 12 #[.int .u64 a] w := by
  have hst := run_sf
  have c1 := from_any a ha
  have c2 := rfrom_any a ha
  have c3 := same_any (fromF a) (fromF a)
  rw [decide_eq_true (show fromF a = fromF a from rfl)] at c3
  unfold Tells
  cases ho : fromOK a with
  | true =>
    have hlt : fromF a < two64 := by unfold fromF; rw [if_pos ho]; exact fromW_lt a ha
    have c4 := bits_any (fromF a) hlt
    rw [bits_fromF a ha ho] at c4
    have hself : ((a : Int) == (a : Int)) = true := beq_self_eq_true _
    rw [ho] at c1 c2
    generalize fromF a = r at *
    clear ho hlt ha
    go_enter Try.func12, Try.ntmps12
    go_wp2_with fail
    refine (c1 _).mono ?_
    rintro e w1 ⟨rfl, rfl⟩
    go_wp2_with fail
    refine (c2 _).mono ?_
    rintro e w2 ⟨rfl, h2⟩
    go_wp2_with fail
    refine (c3 _).mono ?_
    rintro e w3 ⟨rfl, rfl⟩
    go_wp2_with fail
    refine (c4 _).mono ?_
    rintro e w4 ⟨rfl, rfl⟩
    go_wp2_with fail
    refine (wakes_any _).mono ?_
    rintro e w99 ⟨rfl, h99⟩
    go_wp2_with fail
    go_ret
    exact ⟨rfl, below_trans (h2.alloc h2.size _) h99⟩
  | false =>
    rw [ho] at c1 c2
    generalize fromF a = r at *
    clear ho ha
    go_enter Try.func12, Try.ntmps12
    go_wp2_with fail
    refine (c1 _).mono ?_
    rintro e w1 ⟨rfl, rfl⟩
    go_wp2_with fail
    refine (c2 _).mono ?_
    rintro e w2 ⟨rfl, h2⟩
    go_wp2_with fail
    refine (c3 _).mono ?_
    rintro e w3 ⟨rfl, rfl⟩
    go_wp2_with fail
    refine (wakes_any _).mono ?_
    rintro e w99 ⟨rfl, h99⟩
    go_wp2_with fail
    go_ret
    exact ⟨rfl, below_trans (h2.alloc h2.size _) h99⟩

set_option maxRecDepth 100000 in
theorem floatFrom_lifted (os : Os) (started : os.Started) (H : Type) (enc : TypeId × Value → H) :
    ReturnsInHanded {} Try.checked os 12 .any (Rows.floatFromSpec.pre6 enc Try.prog Try.f12 [] false) (Rows.floatFromSpec.post enc Try.prog Try.f12 false true false false) := by
  refine law_lifted (C := Try.checked) own started (by kernel_rfl) Try.func12
    (ChangeSpec.witness6 (enc := enc) (C := Try.checked) false ⟨#[], #[.int .u64 0], []⟩ 8 (by kernel_rfl) (by kernel_rfl) (by kernel_rfl) (by kernel_rfl))
    rfl (fun ds h => by match ds, h with | [_], _ => rfl) laid (by kernel_rfl) (tb := 4) rfl Try.underlying4 ?_
  intro W base args ds ps hval hA hsz
  rw [Try.params12] at hA hval hsz
  obtain ⟨v0, d0, rfl, rfl, h0⟩ := trodAll_one hA
  obtain ⟨x, rfl, rfl, rfl, k0⟩ := open_int Try.underlying56 (hval 0 56 v0 rfl rfl) h0
  have hx : 0 ≤ x ∧ x ≤ 18446744073709551615 := bounds_u64 k0
  obtain ⟨a, rfl⟩ : ∃ a : Nat, x = a := ⟨x.toNat, by omega⟩
  have ha : a < two64 := by have h := hx.2; have e : two64 = 18446744073709551616 := rfl; omega
  exact float_from a ha W

theorem floatFrom_holds : Rows.FloatFromSaid :=
  OpenClaim.holds_of_wide 12 Try.f12 rfl rfl rfl rfl rfl rfl rfl ⟨rfl, rfl, rfl, rfl, rfl⟩ rfl rfl rfl rfl rfl (by kernel_rfl) Try.func12 (by kernel_rfl)
    (of_decide_eq_true (by kernel_rfl)) (by unfold Func.isWrapper; first | (rw [if_pos (by decide +kernel)]; kernel_rfl) | (rw [if_neg (by decide +kernel)]; exact ⟨rfl, rfl⟩))
    (fun os started H enc _ => floatFrom_lifted os started H enc)
#print axioms floatFrom_holds
end Go.Proofs.Ytmgpecomgffelaa
