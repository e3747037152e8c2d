/- Contracts of package float and its reference, second part. -/
import Derived.Test.YtmgpecomgffelaaFloatA
namespace Go.Proofs.Ytmgpecomgffelaa
open Go.RowKit
set_option linter.unusedVariables false

theorem rank_any (a : Nat) (w : World) : Calls Try.prog 97 #[.float .f64 a] w fun e w' => e = .returned (.int .i64 (if isNaN a then 1 else 0)) ∧ w = w' := by
  cases h : isNaN a with
  | true =>
    go_enter Try.func97, Try.ntmps97
    go_wp2_with fail
    refine (isnan_any a w).mono ?_
    rintro e w1 ⟨rfl, rfl⟩
    rw [h]
    go_wp2_with fail
    go_ret
    exact ⟨rfl, rfl⟩
  | false =>
    go_enter Try.func97, Try.ntmps97
    go_wp2_with fail
    refine (isnan_any a w).mono ?_
    rintro e w1 ⟨rfl, rfl⟩
    rw [h]
    go_wp2_with fail
    go_ret
    exact ⟨rfl, rfl⟩

theorem rcanon_any (a : Nat) (w : World) : Calls Try.prog 49 #[.float .f64 a] w fun e w' => e = .returned (.float .f64 (canonF a)) ∧ w = w' := by
  have hb := run_from
  cases h : isNaN a with
  | true =>
    have e : canonF a = nanB := by unfold canonF; rw [if_pos h]
    rw [e]
    clear e
    go_enter Try.func49, Try.ntmps49
    go_wp2_with fail
    refine (isnan_any a w).mono ?_
    rintro e w1 ⟨rfl, rfl⟩
    rw [h]
    go_wp2_with fail
    go_ret
    exact ⟨rfl, rfl⟩
  | false =>
    by_cases hz : rk a = 0
    · have e : canonF a = 0 := by unfold canonF; rw [if_neg (by rw [h]; simp), if_pos hz]
      have h2 : FloatKind.f64.format.order a 0 = some .eq := order_eq a 0 h nan_zero (by rw [hz, rk_zero])
      rw [e]
      clear e hz
      go_enter Try.func49, Try.ntmps49
      go_wp2_with fail
      refine (isnan_any a w).mono ?_
      rintro e w1 ⟨rfl, rfl⟩
      rw [h]
      clear h
      go_wp2_with fail
      go_ret
      exact ⟨rfl, rfl⟩
    · have e : canonF a = a := by unfold canonF; rw [if_neg (by rw [h]; simp), if_neg hz]
      have h2 : (FloatKind.f64.format.order a 0 == some .eq) = false := by
        show (Ieee.double.order a 0 == some .eq) = false
        rcases Int.lt_trichotomy (rk a) 0 with g | g | g
        · rw [order_lt a 0 h nan_zero (by rw [rk_zero]; exact g)]; rfl
        · exact absurd g hz
        · rw [order_gt a 0 h nan_zero (by rw [rk_zero]; exact g)]; rfl
      rw [e]
      clear e hz
      go_enter Try.func49, Try.ntmps49
      go_wp2_with fail
      refine (isnan_any a w).mono ?_
      rintro e w1 ⟨rfl, rfl⟩
      rw [h]
      clear h
      go_wp2_with fail
      go_ret
      exact ⟨rfl, rfl⟩

theorem same_any (a b : Nat) (w : World) : Calls Try.prog 46 #[.float .f64 a, .float .f64 b] w fun e w' => e = .returned (.bool (decide (a = b))) ∧ w = w' := by
  have hb := run_bits
  cases h : decide (a = b) with
  | true =>
    have h' : ((a : Int) == (b : Int)) = true := by rw [beq_iff_eq]; have := of_decide_eq_true h; omega
    clear h
    go_enter Try.func46, Try.ntmps46
    go_wp2
    go_ret
    exact ⟨rfl, rfl⟩
  | false =>
    have h' : ((a : Int) == (b : Int)) = false := by rw [beq_eq_false_iff_ne]; have := of_decide_eq_false h; omega
    clear h
    go_enter Try.func46, Try.ntmps46
    go_wp2
    go_ret
    exact ⟨rfl, rfl⟩

theorem is_any (a : Nat) (w : World) : Calls Try.prog 50 #[.float .f64 a] w fun e w' => e = .returned (.bool (decide (a = canonF a))) ∧ w = w' := by
  have hb := run_bits
  have hc := canon_any a
  generalize canonF a = b at hc ⊢
  cases h : decide (a = b) with
  | true =>
    have h' : ((a : Int) == (b : Int)) = true := by rw [beq_iff_eq]; have := of_decide_eq_true h; omega
    clear h
    go_enter Try.func50, Try.ntmps50
    go_wp2_with fail
    refine (hc _).mono ?_
    rintro e w1 ⟨rfl, rfl⟩
    go_wp2
    go_ret
    exact ⟨rfl, rfl⟩
  | false =>
    have h' : ((a : Int) == (b : Int)) = false := by rw [beq_eq_false_iff_ne]; have := of_decide_eq_false h; omega
    clear h
    go_enter Try.func50, Try.ntmps50
    go_wp2_with fail
    refine (hc _).mono ?_
    rintro e w1 ⟨rfl, rfl⟩
    go_wp2
    go_ret
    exact ⟨rfl, rfl⟩
theorem ris_any (a : Nat) (w : World) : Calls Try.prog 51 #[.float .f64 a] w fun e w' => e = .returned (.bool (decide (a = canonF a))) ∧ w = w' := by
  have hb := run_bits
  have hc := rcanon_any a
  generalize canonF a = b at hc ⊢
  cases h : decide (a = b) with
  | true =>
    have h' : ((a : Int) == (b : Int)) = true := by rw [beq_iff_eq]; have := of_decide_eq_true h; omega
    clear h
    go_enter Try.func51, Try.ntmps51
    go_wp2_with fail
    refine (hc _).mono ?_
    rintro e w1 ⟨rfl, rfl⟩
    go_wp2
    go_ret
    exact ⟨rfl, rfl⟩
  | false =>
    have h' : ((a : Int) == (b : Int)) = false := by rw [beq_eq_false_iff_ne]; have := of_decide_eq_false h; omega
    clear h
    go_enter Try.func51, Try.ntmps51
    go_wp2_with fail
    refine (hc _).mono ?_
    rintro e w1 ⟨rfl, rfl⟩
    go_wp2
    go_ret
    exact ⟨rfl, rfl⟩
end Go.Proofs.Ytmgpecomgffelaa
