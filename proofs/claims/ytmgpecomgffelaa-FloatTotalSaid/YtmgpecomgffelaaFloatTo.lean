/- The law FloatTotal. -/
import Derived.Test.YtmgpecomgffelaaFloatG
import Derived.Test.YtmgpecomgffelaaFrame
namespace Go.Proofs.Ytmgpecomgffelaa
open Go.RowKit Go.ChangeShapes Go.WideShapes Go.ChangeAt
set_option linter.unusedVariables false

theorem float_lt {b : Nat} (h : (Lit.float .f64 b).wf = true) : b < two64 := by
  simpa [Lit.wf, two64] using h
theorem float_total (a b c : Nat) (ha : a < two64) (hb : b < two64) (hc : c < two64) (w : World) : Tells Try.prog 8 #[.float .f64 a, .float .f64 b, .float .f64 c] w := by
  have c1 := cmp_any a a
  have e1 : cmpF a a = 0 := by rw [cmp_R a a ha ha, if_neg (by omega), if_neg (by omega)]
  rw [e1] at c1
  have c2 := canon_any a
  have c3 := canon_any b
  have c4 := cmp_any a (canonF a)
  have e2 : cmpF a (canonF a) = 0 := by rw [cmp_R a _ ha (canon_lt a ha), canon_R, if_neg (by omega), if_neg (by omega)]
  rw [e2] at c4
  have c5 := cmp_any a b
  have c6 := cmp_any b c
  have c7 := cmp_any a c
  have c8 := same_any (canonF a) (canonF b)
  have htr : ¬ 0 < cmpF a b → ¬ 0 < cmpF b c → ¬ 0 < cmpF a c := by
    rw [cmp_R a b ha hb, cmp_R b c hb hc, cmp_R a c ha hc]
    intro g1 g2
    repeat' split <;> try omega
    all_goals (repeat' split at g1) <;> (repeat' split at g2) <;> omega
  have hsame : decide (canonF a = canonF b) = (cmpF a b == 0) := by
    have hz : cmpF a b = 0 ↔ R a = R b := by
      rw [cmp_R a b ha hb]
      split
      · simp; omega
      · split
        · simp; omega
        · simp; omega
    rw [Bool.eq_iff_iff]
    simp only [decide_eq_true_eq, beq_iff_eq, hz]
    constructor
    · intro h
      rw [← canon_R a, h, canon_R]
    · exact canon_of_R a b ha hb
  rw [hsame] at c8
  clear hsame e1 e2
  unfold Tells
  have hs : ∀ t : Bool, (t == t) = true := fun t => by cases t <;> rfl
  generalize cmpF a b = x at *
  generalize cmpF b c = y at *
  generalize cmpF a c = z at *
  generalize canonF a = u at *
  generalize canonF b = v at *
  clear ha hb hc
  by_cases hx : 0 < x
  · have t1 : decide (x ≤ 0) = false := decide_eq_false (by omega)
    have t2 : (x == 0) = false := by rw [beq_eq_false_iff_ne]; omega
    rw [t2] at c8
    go_enter Try.func8, Try.ntmps8
    go_wp2_with fail
    refine (c1 _).mono ?_
    rintro e w1 ⟨rfl, rfl⟩
    go_wp2_with fail
    refine (c2 _).mono ?_
    rintro e w2 ⟨rfl, rfl⟩
    go_wp2_with fail
    refine (c4 _).mono ?_
    rintro e w3 ⟨rfl, rfl⟩
    go_wp2_with fail
    refine (c5 _).mono ?_
    rintro e w4 ⟨rfl, rfl⟩
    go_wp2_with fail
    refine (c5 _).mono ?_
    rintro e w6 ⟨rfl, rfl⟩
    go_wp2_with fail
    refine (c2 _).mono ?_
    rintro e w7 ⟨rfl, rfl⟩
    go_wp2_with fail
    refine (c3 _).mono ?_
    rintro e w8 ⟨rfl, rfl⟩
    go_wp2_with fail
    refine (c8 _).mono ?_
    rintro e w9 ⟨rfl, rfl⟩
    go_wp2_with fail
    refine (wakes_any _).mono ?_
    rintro e w99 ⟨rfl, h99⟩
    go_wp2_with fail
    go_ret
    exact ⟨rfl, h99⟩
  · have t1 : decide (x ≤ 0) = true := decide_eq_true (by omega)
    by_cases hy : 0 < y
    · have t2 : decide (y ≤ 0) = false := decide_eq_false (by omega)
      go_enter Try.func8, Try.ntmps8
      go_wp2_with fail
      refine (c1 _).mono ?_
      rintro e w1 ⟨rfl, rfl⟩
      go_wp2_with fail
      refine (c2 _).mono ?_
      rintro e w2 ⟨rfl, rfl⟩
      go_wp2_with fail
      refine (c4 _).mono ?_
      rintro e w3 ⟨rfl, rfl⟩
      go_wp2_with fail
      refine (c5 _).mono ?_
      rintro e w4 ⟨rfl, rfl⟩
      go_wp2_with fail
      refine (c6 _).mono ?_
      rintro e w5 ⟨rfl, rfl⟩
      go_wp2_with fail
      refine (c5 _).mono ?_
      rintro e w6 ⟨rfl, rfl⟩
      go_wp2_with fail
      refine (c2 _).mono ?_
      rintro e w7 ⟨rfl, rfl⟩
      go_wp2_with fail
      refine (c3 _).mono ?_
      rintro e w8 ⟨rfl, rfl⟩
      go_wp2_with fail
      refine (c8 _).mono ?_
      rintro e w9 ⟨rfl, rfl⟩
      go_wp2_with fail
      refine (wakes_any _).mono ?_
      rintro e w99 ⟨rfl, h99⟩
      go_wp2_with fail
      go_ret
      exact ⟨rfl, h99⟩
    · have t2 : decide (y ≤ 0) = true := decide_eq_true (by omega)
      have t3 : decide (0 < z) = false := decide_eq_false (htr hx hy)
      go_enter Try.func8, Try.ntmps8
      go_wp2_with fail
      refine (c1 _).mono ?_
      rintro e w1 ⟨rfl, rfl⟩
      go_wp2_with fail
      refine (c2 _).mono ?_
      rintro e w2 ⟨rfl, rfl⟩
      go_wp2_with fail
      refine (c4 _).mono ?_
      rintro e w3 ⟨rfl, rfl⟩
      go_wp2_with fail
      refine (c5 _).mono ?_
      rintro e w4 ⟨rfl, rfl⟩
      go_wp2_with fail
      refine (c6 _).mono ?_
      rintro e w5 ⟨rfl, rfl⟩
      go_wp2_with fail
      refine (c7 _).mono ?_
      rintro e w55 ⟨rfl, rfl⟩
      go_wp2_with fail
      refine (c5 _).mono ?_
      rintro e w6 ⟨rfl, rfl⟩
      go_wp2_with fail
      refine (c2 _).mono ?_
      rintro e w7 ⟨rfl, rfl⟩
      go_wp2_with fail
      refine (c3 _).mono ?_
      rintro e w8 ⟨rfl, rfl⟩
      go_wp2_with fail
      refine (c8 _).mono ?_
      rintro e w9 ⟨rfl, rfl⟩
      go_wp2_with fail
      refine (wakes_any _).mono ?_
      rintro e w99 ⟨rfl, h99⟩
      go_wp2_with fail
      go_ret
      exact ⟨rfl, h99⟩

set_option maxRecDepth 100000 in
theorem floatTotal_lifted (os : Os) (started : os.Started) (H : Type) (enc : TypeId × Value → H) :
    ReturnsInHanded {} Try.checked os 8 .any (Rows.floatTotalSpec.pre6 enc Try.prog Try.f8 [] false) (Rows.floatTotalSpec.post enc Try.prog Try.f8 false true false false) := by
  refine law_lifted (C := Try.checked) own started (by kernel_rfl) Try.func8
    (ChangeSpec.witness6 (enc := enc) (C := Try.checked) false ⟨#[], #[.float .f64 0, .float .f64 0, .float .f64 0], []⟩ 8 (by kernel_rfl) (by kernel_rfl) (by kernel_rfl) (by kernel_rfl))
    rfl (fun ds h => by match ds, h with | [_, _, _], _ => rfl) laid (by kernel_rfl) (tb := 4) rfl Try.underlying4 ?_
  intro W base args ds ps hval hA hsz
  rw [Try.params8] at hA hval hsz
  obtain ⟨v0, v1, v2, d0, d1, d2, p0, p1, p2, rfl, rfl, rfl, h0, h1, h2⟩ := trodAll_three hA
  obtain ⟨a, rfl, rfl, rfl, k0⟩ := open_float Try.underlying22 (hval 0 22 v0 rfl rfl) h0
  obtain ⟨b, rfl, rfl, rfl, k1⟩ := open_float Try.underlying22 (hval 1 22 v1 rfl rfl) h1
  obtain ⟨c, rfl, rfl, rfl, k2⟩ := open_float Try.underlying22 (hval 2 22 v2 rfl rfl) h2
  exact float_total a b c (float_lt k0) (float_lt k1) (float_lt k2) W

theorem floatTotal_holds : Rows.FloatTotalSaid :=
  OpenClaim.holds_of_wide 8 Try.f8 rfl rfl rfl rfl rfl rfl rfl ⟨rfl, rfl, rfl, rfl, rfl⟩ rfl rfl rfl rfl rfl (by kernel_rfl) Try.func8 (by kernel_rfl)
    (of_decide_eq_true (by kernel_rfl)) (by unfold Func.isWrapper; first | (rw [if_pos (by decide +kernel)]; kernel_rfl) | (rw [if_neg (by decide +kernel)]; exact ⟨rfl, rfl⟩))
    (fun os started H enc _ => floatTotal_lifted os started H enc)
#print axioms floatTotal_holds
end Go.Proofs.Ytmgpecomgffelaa
