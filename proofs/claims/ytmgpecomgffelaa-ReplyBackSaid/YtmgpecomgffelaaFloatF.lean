/- Contracts of package float: the next number; what every law of layer 1 ends with. -/
import Derived.Test.YtmgpecomgffelaaFloatE
namespace Go.Proofs.Ytmgpecomgffelaa
open Go.RowKit
set_option linter.unusedVariables false

def nextV (f : Nat) : Nat := if isNaN f then 0 else if f = infB then nanB else canonF (nextW f)

theorem next_any (a : Nat) (h : a < two64) (w : World) : Calls Try.prog 44 #[.float .f64 a] w fun e w' => e = .returned (.tuple #[.float .f64 (nextV a), .bool (!isNaN a)]) ∧ w = w' := by
  have hf := run_from
  cases hn : isNaN a with
  | true =>
    have e : nextV a = 0 := by unfold nextV; rw [if_pos hn]
    have h1 : FloatKind.f64.format.order a a = none := order_nan_left a a hn
    rw [e]
    clear hn e h
    go_enter Try.func44, Try.ntmps44
    go_wp2_with fail
    go_ret2
    exact ⟨rfl, rfl⟩
  | false =>
    have h1 : FloatKind.f64.format.order a a = some .eq := order_self a hn
    have hi := isinf_any a h hn
    by_cases hinf : a = infB
    · have e : nextV a = 9221120237041090560 := by unfold nextV; rw [if_neg (by rw [hn]; simp), if_pos hinf]; rfl
      rw [e]
      rw [decide_eq_true hinf] at hi
      clear hn e h hinf
      go_enter Try.func44, Try.ntmps44
      go_wp2_with fail
      refine (hi _).mono ?_
      rintro e w1 ⟨rfl, rfl⟩
      go_wp2_with fail
      go_ret2
      exact ⟨rfl, rfl⟩
    · have e : nextV a = canonF (nextW a) := by unfold nextV; rw [if_neg (by rw [hn]; simp), if_neg hinf]
      have hx := nextafter_any a h hn hinf
      have hc := canon_any (nextW a)
      rw [e]
      rw [decide_eq_false hinf] at hi
      clear hn e h hinf
      go_enter Try.func44, Try.ntmps44
      go_wp2_with fail
      refine (hi _).mono ?_
      rintro e w1 ⟨rfl, rfl⟩
      go_wp2_with fail
      refine (inf_any _).mono ?_
      rintro e w1 ⟨rfl, rfl⟩
      go_wp2_with fail
      refine (hx _).mono ?_
      rintro e w1 ⟨rfl, rfl⟩
      go_wp2_with fail
      refine (hc _).mono ?_
      rintro e w1 ⟨rfl, rfl⟩
      go_wp2_with fail
      go_ret2
      exact ⟨rfl, rfl⟩

theorem rnext_any (a : Nat) (h : a < two64) (w : World) : Calls Try.prog 45 #[.float .f64 a] w fun e w' => e = .returned (.agg #[.float .f64 (nextV a), .bool (!isNaN a)]) ∧ Below w.heap.size w w' := by
  have hf := run_from
  have hst := run_sf
  have h0 := isnan_any a
  cases hn : isNaN a with
  | true =>
    rw [hn] at h0
    have e : nextV a = 0 := by unfold nextV; rw [if_pos hn]
    rw [e]
    clear hn e h
    go_enter Try.func45, Try.ntmps45
    go_wp2_with fail
    refine (h0 _).mono ?_
    rintro e w1 ⟨rfl, rfl⟩
    go_wp2_with fail
    exact bodyPost_ret (v := .agg #[.float .f64 0, .bool false]) (by simp [results, Try.results45, go_sem]) rfl ⟨rfl, (Below.refl _ _).alloc (Nat.le_refl _) _⟩
  | false =>
    rw [hn] at h0
    have hi := isinf_any a h hn
    by_cases hinf : a = infB
    · have e : nextV a = canonF 9221120237041090561 := by unfold nextV; rw [if_neg (by rw [hn]; simp), if_pos hinf]; decide
      have hc := rcanon_any 9221120237041090561
      rw [e]
      rw [decide_eq_true hinf] at hi
      clear hn e h hinf
      generalize canonF 9221120237041090561 = r at hc ⊢
      go_enter Try.func45, Try.ntmps45
      go_wp2_with fail
      refine (h0 _).mono ?_
      rintro e w1 ⟨rfl, rfl⟩
      go_wp2_with fail
      refine (hi _).mono ?_
      rintro e w1 ⟨rfl, rfl⟩
      go_wp2_with fail
      refine (nan_any _).mono ?_
      rintro e w1 ⟨rfl, rfl⟩
      go_wp2_with fail
      refine (hc _).mono ?_
      rintro e w1 ⟨rfl, rfl⟩
      go_wp2_with fail
      exact bodyPost_ret (v := .agg #[.float .f64 r, .bool true]) (by simp [results, Try.results45, go_sem]) rfl ⟨rfl, (Below.refl _ _).alloc (Nat.le_refl _) _⟩
    · have e : nextV a = canonF (nextW a) := by unfold nextV; rw [if_neg (by rw [hn]; simp), if_neg hinf]
      have hx := nextafter_any a h hn hinf
      have hc := rcanon_any (nextW a)
      rw [e]
      rw [decide_eq_false hinf] at hi
      clear hn e h hinf
      generalize canonF (nextW a) = r at hc ⊢
      go_enter Try.func45, Try.ntmps45
      go_wp2_with fail
      refine (h0 _).mono ?_
      rintro e w1 ⟨rfl, rfl⟩
      go_wp2_with fail
      refine (hi _).mono ?_
      rintro e w1 ⟨rfl, rfl⟩
      go_wp2_with fail
      refine (inf_any _).mono ?_
      rintro e w1 ⟨rfl, rfl⟩
      go_wp2_with fail
      refine (hx _).mono ?_
      rintro e w1 ⟨rfl, rfl⟩
      go_wp2_with fail
      refine (hc _).mono ?_
      rintro e w1 ⟨rfl, rfl⟩
      go_wp2_with fail
      exact bodyPost_ret (v := .agg #[.float .f64 r, .bool true]) (by simp [results, Try.results45, go_sem]) rfl ⟨rfl, (Below.refl _ _).alloc (Nat.le_refl _) _⟩

theorem wakes_any (w : World) : Calls Try.prog 43 #[] w fun e w' => e = .returned (.bool true) ∧ Below w.heap.size w w' := by
  have h1 := next_any 0 (by decide)
  have e1 : nextV 0 = 1 := by decide
  have e2 : isNaN 0 = false := by decide
  rw [e1, e2] at h1
  have h2 := cmp_any 9221120237041090561 9218868437227405312
  have e3 : cmpF 9221120237041090561 9218868437227405312 = 1 := by decide
  rw [e3] at h2
  have h3 := bits_any 9223372036854775808 (by decide)
  have e4 : bitsF 9223372036854775808 = 9223372036854775808 := by decide
  rw [e4] at h3
  have h4 := text_any 4607182418800017408 (by decide)
  have e5 : textF (canonF 4607182418800017408) = ⟨#[51, 102, 102, 48, 48, 48, 48, 48, 48, 48, 48, 48, 48, 48, 48, 48]⟩ := by rfl
  rw [e5] at h4
  have o1 : FloatKind.f64.format.order 1 1 = some .eq := order_self 1 (by decide)
  go_enter Try.func43, Try.ntmps43
  go_wp2_with fail
  refine (h1 _).mono ?_
  rintro e w1 ⟨rfl, rfl⟩
  go_wp2_with fail
  refine (nan_any _).mono ?_
  rintro e w1 ⟨rfl, rfl⟩
  go_wp2_with fail
  refine (inf_any _).mono ?_
  rintro e w1 ⟨rfl, rfl⟩
  go_wp2_with fail
  refine (h2 _).mono ?_
  rintro e w1 ⟨rfl, rfl⟩
  go_wp2_with fail
  refine (copy0 _).mono ?_
  rintro e w1 ⟨rfl, rfl⟩
  go_wp2_with fail
  refine (h3 _).mono ?_
  rintro e w1 ⟨rfl, rfl⟩
  go_wp2_with fail
  refine (h4 _).mono ?_
  rintro e w1 ⟨rfl, hb⟩
  go_wp2_with fail
  go_ret
  exact ⟨rfl, hb⟩
end Go.Proofs.Ytmgpecomgffelaa
