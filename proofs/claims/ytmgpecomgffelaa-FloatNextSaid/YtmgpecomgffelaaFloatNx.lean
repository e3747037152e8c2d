/- The law FloatNext. -/
import Derived.Test.YtmgpecomgffelaaFloatG
import Derived.Test.YtmgpecomgffelaaFrame
namespace Go.Proofs.Ytmgpecomgffelaa
open Go.RowKit Go.ChangeShapes Go.WideShapes Go.ChangeAt
set_option linter.unusedVariables false

theorem float_lt {b : Nat} (h : (Lit.float .f64 b).wf = true) : b < two64 := by
  simpa [Lit.wf, two64] using h
theorem float_next (a b : Nat) (ha : a < two64) (hb : b < two64) (w : World) : Tells Try.prog 7 #[.float .f64 a, .float .f64 b] w := by
  have hst := run_sf
  have c1 := next_any a ha
  have c2 := rnext_any a ha
  have c3 := same_any (nextV a) (nextV a)
  rw [decide_eq_true (show nextV a = nextV a from rfl)] at c3
  have c4 := isnan_any a
  have c5 := cmp_any a (nextV a)
  have c6 := cmp_any a b
  have c7 := cmp_any b (nextV a)
  have hnl := nextV_lt a ha
  unfold Tells
  cases hn : isNaN a with
  | true =>
    rw [hn] at c1 c2 c4
    generalize nextV a = r at *
    clear hn ha hb hnl
    go_enter Try.func7, Try.ntmps7
    go_wp2_with fail
    refine (c1 _).mono ?_
    rintro e w1 ⟨rfl, rfl⟩
    go_wp2_with fail
    refine (c2 _).mono ?_
    rintro e w2 ⟨rfl, h2⟩
    go_wp2_with fail
    refine (c3 _).mono ?_
    rintro e w3 ⟨rfl, rfl⟩
    go_wp2_with fail
    refine (c4 _).mono ?_
    rintro e w4 ⟨rfl, rfl⟩
    go_wp2_with fail
    refine (wakes_any _).mono ?_
    rintro e w99 ⟨rfl, h99⟩
    go_wp2_with fail
    go_ret
    exact ⟨rfl, below_trans (h2.alloc h2.size _) h99⟩
  | false =>
    rw [hn] at c1 c2
    have hr := next_R a ha hn
    have e5 : cmpF a (nextV a) = -1 := by rw [cmp_R a _ ha hnl, if_pos (by omega)]
    rw [e5] at c5
    have htr : ¬ 0 ≤ cmpF a b → 0 ≤ cmpF b (nextV a) := by
      rw [cmp_R a b ha hb, cmp_R b _ hb hnl, hr]
      intro g1
      repeat' split <;> try omega
      all_goals (repeat' split at g1) <;> omega
    generalize nextV a = r at *
    generalize cmpF a b = x at *
    generalize cmpF b r = y at *
    clear hn ha hb hnl e5 hr
    by_cases hx : 0 ≤ x
    · have t1 : decide (0 ≤ x) = true := decide_eq_true hx
      go_enter Try.func7, Try.ntmps7
      go_wp2_with fail
      refine (c1 _).mono ?_
      rintro e w1 ⟨rfl, rfl⟩
      go_wp2_with fail
      refine (c2 _).mono ?_
      rintro e w2 ⟨rfl, h2⟩
      go_wp2_with fail
      refine (c3 _).mono ?_
      rintro e w3 ⟨rfl, rfl⟩
      go_wp2_with fail
      refine (c5 _).mono ?_
      rintro e w4 ⟨rfl, rfl⟩
      go_wp2_with fail
      refine (c6 _).mono ?_
      rintro e w5 ⟨rfl, rfl⟩
      go_wp2_with fail
      refine (wakes_any _).mono ?_
      rintro e w99 ⟨rfl, h99⟩
      go_wp2_with fail
      go_ret
      exact ⟨rfl, below_trans (h2.alloc h2.size _) h99⟩
    · have t1 : decide (0 ≤ x) = false := decide_eq_false hx
      have t2 : decide (0 ≤ y) = true := decide_eq_true (htr hx)
      go_enter Try.func7, Try.ntmps7
      go_wp2_with fail
      refine (c1 _).mono ?_
      rintro e w1 ⟨rfl, rfl⟩
      go_wp2_with fail
      refine (c2 _).mono ?_
      rintro e w2 ⟨rfl, h2⟩
      go_wp2_with fail
      refine (c3 _).mono ?_
      rintro e w3 ⟨rfl, rfl⟩
      go_wp2_with fail
      refine (c5 _).mono ?_
      rintro e w4 ⟨rfl, rfl⟩
      go_wp2_with fail
      refine (c6 _).mono ?_
      rintro e w5 ⟨rfl, rfl⟩
      go_wp2_with fail
      refine (c7 _).mono ?_
      rintro e w6 ⟨rfl, rfl⟩
      go_wp2_with fail
      refine (wakes_any _).mono ?_
      rintro e w99 ⟨rfl, h99⟩
      go_wp2_with fail
      go_ret
      exact ⟨rfl, below_trans (h2.alloc h2.size _) h99⟩

set_option maxRecDepth 100000 in
theorem floatNext_lifted (os : Os) (started : os.Started) (H : Type) (enc : TypeId × Value → H) :
    ReturnsInHanded {} Try.checked os 7 .any (Rows.floatNextSpec.pre6 enc Try.prog Try.f7 [] false) (Rows.floatNextSpec.post enc Try.prog Try.f7 false true false false) := by
  refine law_lifted (C := Try.checked) own started (by kernel_rfl) Try.func7
    (ChangeSpec.witness6 (enc := enc) (C := Try.checked) false ⟨#[], #[.float .f64 0, .float .f64 0], []⟩ 8 (by kernel_rfl) (by kernel_rfl) (by kernel_rfl) (by kernel_rfl))
    rfl (fun ds h => by match ds, h with | [_, _], _ => rfl) laid (by kernel_rfl) (tb := 4) rfl Try.underlying4 ?_
  intro W base args ds ps hval hA hsz
  rw [Try.params7] at hA hval hsz
  obtain ⟨v0, v1, d0, d1, p0, p1, rfl, rfl, rfl, h0, h1⟩ := trodAll_two hA
  obtain ⟨a, rfl, rfl, rfl, k0⟩ := open_float Try.underlying22 (hval 0 22 v0 rfl rfl) h0
  obtain ⟨b, rfl, rfl, rfl, k1⟩ := open_float Try.underlying22 (hval 1 22 v1 rfl rfl) h1
  exact float_next a b (float_lt k0) (float_lt k1) W

theorem floatNext_holds : Rows.FloatNextSaid :=
  OpenClaim.holds_of_wide 7 Try.f7 rfl rfl rfl rfl rfl rfl rfl ⟨rfl, rfl, rfl, rfl, rfl⟩ rfl rfl rfl rfl rfl (by kernel_rfl) Try.func7 (by kernel_rfl)
    (of_decide_eq_true (by kernel_rfl)) (by unfold Func.isWrapper; first | (rw [if_pos (by decide +kernel)]; kernel_rfl) | (rw [if_neg (by decide +kernel)]; exact ⟨rfl, rfl⟩))
    (fun os started H enc _ => floatNext_lifted os started H enc)
#print axioms floatNext_holds
end Go.Proofs.Ytmgpecomgffelaa
