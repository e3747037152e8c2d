/- The law FloatOrder. -/
import Derived.Test.YtmgpecomgffelaaFloatG
import Derived.Test.YtmgpecomgffelaaFrame
namespace Go.Proofs.Ytmgpecomgffelaa
open Go.RowKit Go.ChangeShapes Go.WideShapes Go.ChangeAt
set_option linter.unusedVariables false

theorem float_lt {b : Nat} (h : (Lit.float .f64 b).wf = true) : b < two64 := by
  simpa [Lit.wf, two64] using h
theorem float_order (a b : Nat) (ha : a < two64) (hb : b < two64) (w : World) : Tells Try.prog 6 #[.float .f64 a, .float .f64 b] w := by
  have c1 := cmp_any a b
  have c2 := rcmp_any a b
  have c3 := bits_any a ha
  have c4 := bits_any b hb
  have c5 := rbits_any a ha
  have c6 := rbits_any b hb
  have c7 := cmp_any b a
  have r1 := cmp_R a b ha hb
  have r2 := cmp_R b a hb ha
  have l1 := bits_lt a b ha hb
  have l2 := bits_lt b a hb ha
  generalize bitsF a = x at *
  generalize bitsF b = y at *
  clear ha hb
  unfold Tells
  rcases Int.lt_trichotomy (R a) (R b) with g | g | g
  · rw [if_pos g] at r1
    rw [if_neg (by omega), if_pos g] at r2
    rw [r1] at c1 c2
    rw [r2] at c7
    have t1 : decide (x < y) = true := decide_eq_true (by have := l1.1 g; omega)
    have t2 : decide (y < x) = false := decide_eq_false (fun h => by have := l2.2 (by omega); omega)
    clear l1 l2 r1 r2 g
    go_enter Try.func6, Try.ntmps6
    go_wp2_with fail
    refine (c1 _).mono ?_
    rintro e w1 ⟨rfl, rfl⟩
    go_wp2_with fail
    refine (c3 _).mono ?_
    rintro e w2 ⟨rfl, rfl⟩
    go_wp2_with fail
    refine (c4 _).mono ?_
    rintro e w3 ⟨rfl, rfl⟩
    go_wp2_with fail
    refine (c2 _).mono ?_
    rintro e w4 ⟨rfl, rfl⟩
    go_wp2_with fail
    refine (c5 _).mono ?_
    rintro e w5 ⟨rfl, rfl⟩
    go_wp2_with fail
    refine (c6 _).mono ?_
    rintro e w6 ⟨rfl, rfl⟩
    go_wp2_with fail
    refine (c7 _).mono ?_
    rintro e w7 ⟨rfl, rfl⟩
    go_wp2_with fail
    refine (wakes_any _).mono ?_
    rintro e w99 ⟨rfl, h99⟩
    go_wp2_with fail
    go_ret
    exact ⟨rfl, h99⟩
  · rw [if_neg (by omega), if_neg (by omega)] at r1
    rw [if_neg (by omega), if_neg (by omega)] at r2
    rw [r1] at c1 c2
    rw [r2] at c7
    have t1 : decide (x < y) = false := decide_eq_false (fun h => by have := l1.2 (by omega); omega)
    have t2 : decide (y < x) = false := decide_eq_false (fun h => by have := l2.2 (by omega); omega)
    clear l1 l2 r1 r2 g
    go_enter Try.func6, Try.ntmps6
    go_wp2_with fail
    refine (c1 _).mono ?_
    rintro e w1 ⟨rfl, rfl⟩
    go_wp2_with fail
    refine (c3 _).mono ?_
    rintro e w2 ⟨rfl, rfl⟩
    go_wp2_with fail
    refine (c4 _).mono ?_
    rintro e w3 ⟨rfl, rfl⟩
    go_wp2_with fail
    refine (c2 _).mono ?_
    rintro e w4 ⟨rfl, rfl⟩
    go_wp2_with fail
    refine (c5 _).mono ?_
    rintro e w5 ⟨rfl, rfl⟩
    go_wp2_with fail
    refine (c6 _).mono ?_
    rintro e w6 ⟨rfl, rfl⟩
    go_wp2_with fail
    refine (c7 _).mono ?_
    rintro e w7 ⟨rfl, rfl⟩
    go_wp2_with fail
    refine (wakes_any _).mono ?_
    rintro e w99 ⟨rfl, h99⟩
    go_wp2_with fail
    go_ret
    exact ⟨rfl, h99⟩
  · rw [if_neg (by omega), if_pos g] at r1
    rw [if_pos g] at r2
    rw [r1] at c1 c2
    rw [r2] at c7
    have t1 : decide (x < y) = false := decide_eq_false (fun h => by have := l1.2 (by omega); omega)
    have t2 : decide (y < x) = true := decide_eq_true (by have := l2.1 g; omega)
    clear l1 l2 r1 r2 g
    go_enter Try.func6, Try.ntmps6
    go_wp2_with fail
    refine (c1 _).mono ?_
    rintro e w1 ⟨rfl, rfl⟩
    go_wp2_with fail
    refine (c3 _).mono ?_
    rintro e w2 ⟨rfl, rfl⟩
    go_wp2_with fail
    refine (c4 _).mono ?_
    rintro e w3 ⟨rfl, rfl⟩
    go_wp2_with fail
    refine (c2 _).mono ?_
    rintro e w4 ⟨rfl, rfl⟩
    go_wp2_with fail
    refine (c5 _).mono ?_
    rintro e w5 ⟨rfl, rfl⟩
    go_wp2_with fail
    refine (c6 _).mono ?_
    rintro e w6 ⟨rfl, rfl⟩
    go_wp2_with fail
    refine (c7 _).mono ?_
    rintro e w7 ⟨rfl, rfl⟩
    go_wp2_with fail
    refine (wakes_any _).mono ?_
    rintro e w99 ⟨rfl, h99⟩
    go_wp2_with fail
    go_ret
    exact ⟨rfl, h99⟩

set_option maxRecDepth 100000 in
theorem floatOrder_lifted (os : Os) (started : os.Started) (H : Type) (enc : TypeId × Value → H) :
    ReturnsInHanded {} Try.checked os 6 .any (Rows.floatOrderSpec.pre6 enc Try.prog Try.f6 [] false) (Rows.floatOrderSpec.post enc Try.prog Try.f6 false true false false) := by
  refine law_lifted (C := Try.checked) own started (by kernel_rfl) Try.func6
    (ChangeSpec.witness6 (enc := enc) (C := Try.checked) false ⟨#[], #[.float .f64 0, .float .f64 0], []⟩ 8 (by kernel_rfl) (by kernel_rfl) (by kernel_rfl) (by kernel_rfl))
    rfl (fun ds h => by match ds, h with | [_, _], _ => rfl) laid (by kernel_rfl) (tb := 4) rfl Try.underlying4 ?_
  intro W base args ds ps hval hA hsz
  rw [Try.params6] at hA hval hsz
  obtain ⟨v0, v1, d0, d1, p0, p1, rfl, rfl, rfl, h0, h1⟩ := trodAll_two hA
  obtain ⟨a, rfl, rfl, rfl, k0⟩ := open_float Try.underlying22 (hval 0 22 v0 rfl rfl) h0
  obtain ⟨b, rfl, rfl, rfl, k1⟩ := open_float Try.underlying22 (hval 1 22 v1 rfl rfl) h1
  exact float_order a b (float_lt k0) (float_lt k1) W

theorem floatOrder_holds : Rows.FloatOrderSaid :=
  OpenClaim.holds_of_wide 6 Try.f6 rfl rfl rfl rfl rfl rfl rfl ⟨rfl, rfl, rfl, rfl, rfl⟩ rfl rfl rfl rfl rfl (by kernel_rfl) Try.func6 (by kernel_rfl)
    (of_decide_eq_true (by kernel_rfl)) (by unfold Func.isWrapper; first | (rw [if_pos (by decide +kernel)]; kernel_rfl) | (rw [if_neg (by decide +kernel)]; exact ⟨rfl, rfl⟩))
    (fun os started H enc _ => floatOrder_lifted os started H enc)
#print axioms floatOrder_holds
end Go.Proofs.Ytmgpecomgffelaa
