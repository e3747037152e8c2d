/- The law FloatCanon. -/
import Derived.Test.YtmgpecomgffelaaFloatG
import Derived.Test.YtmgpecomgffelaaFrame
namespace Go.Proofs.Ytmgpecomgffelaa
open Go.RowKit Go.ChangeShapes Go.WideShapes Go.ChangeAt
set_option linter.unusedVariables false

theorem float_lt {b : Nat} (h : (Lit.float .f64 b).wf = true) : b < two64 := by
  simpa [Lit.wf, two64] using h
theorem float_canon (a : Nat) (ha : a < two64) (w : World) : Tells Try.prog 9 #[.float .f64 a] w := by
  have c1 := canon_any a
  have c2 := rcanon_any a
  have c3 := is_any a
  have c4 := ris_any a
  have c5 := is_any (canonF a)
  rw [canon_canon, decide_eq_true (show canonF a = canonF a from rfl)] at c5
  have c6 := same_any (canonF a) (canonF a)
  rw [decide_eq_true (show canonF a = canonF a from rfl)] at c6
  generalize canonF a = r at *
  generalize decide (a = r) = t at *
  have ht : (t == t) = true := by cases t <;> rfl
  unfold Tells
  go_enter Try.func9, Try.ntmps9
  go_wp2_with fail
  refine (c1 _).mono ?_
  rintro e w1 ⟨rfl, rfl⟩
  go_wp2_with fail
  refine (c2 _).mono ?_
  rintro e w2 ⟨rfl, rfl⟩
  go_wp2_with fail
  refine (c6 _).mono ?_
  rintro e w3 ⟨rfl, rfl⟩
  go_wp2_with fail
  refine (c3 _).mono ?_
  rintro e w4 ⟨rfl, rfl⟩
  go_wp2_with fail
  refine (c4 _).mono ?_
  rintro e w5 ⟨rfl, rfl⟩
  go_wp2_with fail
  refine (c1 _).mono ?_
  rintro e w6 ⟨rfl, rfl⟩
  go_wp2_with fail
  refine (c5 _).mono ?_
  rintro e w7 ⟨rfl, rfl⟩
  go_wp2_with fail
  refine (wakes_any _).mono ?_
  rintro e w99 ⟨rfl, h99⟩
  go_wp2_with fail
  go_ret
  exact ⟨rfl, h99⟩

set_option maxRecDepth 100000 in
theorem floatCanon_lifted (os : Os) (started : os.Started) (H : Type) (enc : TypeId × Value → H) :
    ReturnsInHanded {} Try.checked os 9 .any (Rows.floatCanonSpec.pre6 enc Try.prog Try.f9 [] false) (Rows.floatCanonSpec.post enc Try.prog Try.f9 false true false false) := by
  refine law_lifted (C := Try.checked) own started (by kernel_rfl) Try.func9
    (ChangeSpec.witness6 (enc := enc) (C := Try.checked) false ⟨#[], #[.float .f64 0], []⟩ 8 (by kernel_rfl) (by kernel_rfl) (by kernel_rfl) (by kernel_rfl))
    rfl (fun ds h => by match ds, h with | [_], _ => rfl) laid (by kernel_rfl) (tb := 4) rfl Try.underlying4 ?_
  intro W base args ds ps hval hA hsz
  rw [Try.params9] at hA hval hsz
  obtain ⟨v0, d0, rfl, rfl, h0⟩ := trodAll_one hA
  obtain ⟨a, rfl, rfl, rfl, k0⟩ := open_float Try.underlying22 (hval 0 22 v0 rfl rfl) h0
  exact float_canon a (float_lt k0) W

theorem floatCanon_holds : Rows.FloatCanonSaid :=
  OpenClaim.holds_of_wide 9 Try.f9 rfl rfl rfl rfl rfl rfl rfl ⟨rfl, rfl, rfl, rfl, rfl⟩ rfl rfl rfl rfl rfl (by kernel_rfl) Try.func9 (by kernel_rfl)
    (of_decide_eq_true (by kernel_rfl)) (by unfold Func.isWrapper; first | (rw [if_pos (by decide +kernel)]; kernel_rfl) | (rw [if_neg (by decide +kernel)]; exact ⟨rfl, rfl⟩))
    (fun os started H enc _ => floatCanon_lifted os started H enc)
#print axioms floatCanon_holds
end Go.Proofs.Ytmgpecomgffelaa
