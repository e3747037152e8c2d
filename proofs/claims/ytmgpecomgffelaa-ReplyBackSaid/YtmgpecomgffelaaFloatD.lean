/- Contracts of package float and its reference, fourth part: the next number. -/
import Derived.Test.YtmgpecomgffelaaFloatC
namespace Go.Proofs.Ytmgpecomgffelaa
open Go.RowKit
set_option linter.unusedVariables false

theorem inf_any (w : World) : Calls Try.prog 99 #[.int .i64 1] w fun e w' => e = .returned (.float .f64 9218868437227405312) ∧ w = w' := by
  have h2 := run_from
  go_enter Try.func99, Try.ntmps99
  go_wp2
  go_ret
  exact ⟨rfl, rfl⟩
theorem copy1 (w : World) : Calls Try.prog 100 #[.float .f64 1, .float .f64 9218868437227405312] w fun e w' => e = .returned (.float .f64 1) ∧ w = w' := by
  have h1 := run_bits
  have h2 := run_from
  have h3 : bits .andNot .u64 1 9223372036854775808 = 1 := by decide
  have h4 : bits .and .u64 9218868437227405312 9223372036854775808 = 0 := b_and 9218868437227405312 (by decide)
  have h5 : bits .or .u64 1 0 = 1 := by decide
  go_enter Try.func100, Try.ntmps100
  go_wp2
  go_ret
  exact ⟨rfl, rfl⟩
theorem copy0 (w : World) : Calls Try.prog 100 #[.float .f64 0, .float .f64 13830554455654793216] w fun e w' => e = .returned (.float .f64 9223372036854775808) ∧ w = w' := by
  have h1 := run_bits
  have h2 := run_from
  have h3 : bits .andNot .u64 0 9223372036854775808 = 0 := by decide
  have h4 : bits .and .u64 13830554455654793216 9223372036854775808 = 9223372036854775808 := b_and 13830554455654793216 (by decide)
  have h5 : bits .or .u64 0 9223372036854775808 = 9223372036854775808 := b_or 0 (by decide)
  go_enter Try.func100, Try.ntmps100
  go_wp2
  go_ret
  exact ⟨rfl, rfl⟩

/-! ### Ranks and words -/
theorem rk_of_lt (a : Nat) (h : a < two63) : rk a = a := by
  unfold rk isNeg
  rw [Nat.div_eq_of_lt h, Nat.mod_eq_of_lt h]
  rfl
theorem rk_of_ge (a : Nat) (h : a < two64) (h0 : two63 ≤ a) : rk a = (two63 : Int) - a := by
  have h1 : two64 = two63 + two63 := by decide
  have h2 : 0 < two63 := by decide
  unfold rk isNeg
  generalize two64 = k at *
  generalize two63 = m at *
  have hd : a / m = 1 := by
    have h3 : a / m < 2 := (Nat.div_lt_iff_lt_mul h2).2 (by omega)
    have h4 : 0 < a / m := Nat.div_pos h0 h2
    omega
  have hm := Nat.div_add_mod a m
  rw [hd] at hm ⊢
  simp at hm ⊢
  omega
theorem rk_pos (a : Nat) (h : a < two64) (hp : 0 < rk a) : rk a = a ∧ a < two63 := by
  rcases Nat.lt_or_ge a two63 with h1 | h1
  · exact ⟨rk_of_lt a h1, h1⟩
  · have := rk_of_ge a h h1
    omega
theorem rk_neg (a : Nat) (h : a < two64) (hp : rk a < 0) : rk a = (two63 : Int) - a ∧ two63 < a := by
  rcases Nat.lt_or_ge a two63 with h1 | h1
  · have := rk_of_lt a h1
    omega
  · have := rk_of_ge a h h1
    omega
theorem nan_rk (a : Nat) (h : a < two64) : isNaN a = decide ((infB : Int) < rk a ∨ rk a < -(infB : Int)) := by
  have h2 : 0 < infB := by decide
  have h3 := Nat.mod_lt a (show 0 < two63 by decide)
  unfold isNaN rk
  generalize a % two63 = x at *
  generalize infB = i at *
  simp only [decide_eq_decide]
  cases isNeg a <;> simp <;> omega
theorem rk_inf_only (a : Nat) (h : a < two64) (hr : rk a = (infB : Int)) : a = infB := by
  have h2 : (0 : Int) < infB := by decide
  have := rk_pos a h (by omega)
  omega

def nextW (f : Nat) : Nat := if rk f = 0 then 1 else if 0 < rk f then f + 1 else f - 1

theorem nextafter_any (a : Nat) (h : a < two64) (hn : isNaN a = false) (hi : a ≠ infB) (w : World) :
    Calls Try.prog 103 #[.float .f64 a, .float .f64 9218868437227405312] w fun e w' => e = .returned (.float .f64 (nextW a)) ∧ w = w' := by
  have h1 := run_bits
  have h2 := run_from
  have n1 := isnan_any a
  have n2 := isnan_any 9218868437227405312
  have n3 : isNaN 9218868437227405312 = false := by decide
  have hri : rk 9218868437227405312 = 9218868437227405312 := by decide
  have hlt : rk a < 9218868437227405312 := by
    have h3 := nan_rk a h
    rw [hn] at h3
    have h3 := of_decide_eq_false h3.symm
    have h4 : rk a ≠ (infB : Int) := fun g => hi (rk_inf_only a h g)
    have h5 : (infB : Int) = 9218868437227405312 := rfl
    omega
  have o1 : FloatKind.f64.format.order a 9218868437227405312 = some .lt := order_lt a _ hn n3 (by rw [hri]; exact hlt)
  have o1' : FloatKind.f64.format.order 9218868437227405312 a = some .gt := order_gt _ a n3 hn (by rw [hri]; exact hlt)
  rw [hn] at n1
  rw [n3] at n2
  rcases Int.lt_trichotomy (rk a) 0 with g | g | g
  · have o2 : FloatKind.f64.format.order a 0 = some .lt := order_lt a 0 hn nan_zero (by rw [rk_zero]; exact g)
    have e : nextW a = a - 1 := by unfold nextW; rw [if_neg (by omega), if_neg (by omega)]
    have ha := (rk_neg a h g).2
    have hx : IntKind.u64.wrap ((a : Int) - 1) = ((a - 1 : Nat) : Int) := by
      have h : a < 18446744073709551616 := h
      rw [IntKind.wrap_u64]; omega
    rw [e]
    clear e ha h hn g n3 hri hlt hi
    go_enter Try.func103, Try.ntmps103
    go_wp2_with fail
    refine (n1 _).mono ?_
    rintro e w1 ⟨rfl, rfl⟩
    go_wp2_with fail
    refine (n2 _).mono ?_
    rintro e w1 ⟨rfl, rfl⟩
    go_wp2_with fail
    go_ret
    exact ⟨rfl, rfl⟩
  · have o2 : FloatKind.f64.format.order a 0 = some .eq := order_eq a 0 hn nan_zero (by rw [rk_zero]; exact g)
    have e : nextW a = 1 := by unfold nextW; rw [if_pos g]
    rw [e]
    clear e h hn g n3 hri hlt hi
    go_enter Try.func103, Try.ntmps103
    go_wp2_with fail
    refine (n1 _).mono ?_
    rintro e w1 ⟨rfl, rfl⟩
    go_wp2_with fail
    refine (n2 _).mono ?_
    rintro e w1 ⟨rfl, rfl⟩
    go_wp2_with fail
    refine (copy1 _).mono ?_
    rintro e w1 ⟨rfl, rfl⟩
    go_wp2_with fail
    go_ret
    exact ⟨rfl, rfl⟩
  · have o2 : FloatKind.f64.format.order a 0 = some .gt := order_gt a 0 hn nan_zero (by rw [rk_zero]; exact g)
    have e : nextW a = a + 1 := by unfold nextW; rw [if_neg (by omega), if_pos g]
    have ha := (rk_pos a h g).2
    have hx : IntKind.u64.wrap ((a : Int) + 1) = ((a + 1 : Nat) : Int) := by
      have ha : a < 9223372036854775808 := ha
      rw [IntKind.wrap_u64]; omega
    rw [e]
    clear e ha h hn g n3 hri hlt hi
    go_enter Try.func103, Try.ntmps103
    go_wp2_with fail
    refine (n1 _).mono ?_
    rintro e w1 ⟨rfl, rfl⟩
    go_wp2_with fail
    refine (n2 _).mono ?_
    rintro e w1 ⟨rfl, rfl⟩
    go_wp2_with fail
    go_ret
    exact ⟨rfl, rfl⟩

theorem isinf_any (a : Nat) (h : a < two64) (hn : isNaN a = false) (w : World) : Calls Try.prog 101 #[.float .f64 a, .int .i64 1] w fun e w' => e = .returned (.bool (decide (a = infB))) ∧ w = w' := by
  have hm : isNaN 9218868437227405311 = false := by decide
  have hr : rk 9218868437227405311 = 9218868437227405311 := by decide
  have hv : (infB : Int) = 9218868437227405312 := rfl
  have h3 : ¬ ((infB : Int) < rk a ∨ rk a < -(infB : Int)) := of_decide_eq_false ((nan_rk a h).symm.trans hn)
  by_cases hi : a = infB
  · have o : FloatKind.f64.format.order a 9218868437227405311 = some .gt := by subst hi; exact order_gt _ _ hn hm (by decide)
    rw [decide_eq_true hi]
    clear h3 hi hn h hm hr hv
    go_enter Try.func101, Try.ntmps101
    go_wp2
    go_ret
    exact ⟨rfl, rfl⟩
  · have h4 : rk a ≠ (infB : Int) := fun g => hi (rk_inf_only a h g)
    have o : (FloatKind.f64.format.order a 9218868437227405311 == some .gt) = false := by
      show (Ieee.double.order a 9218868437227405311 == some .gt) = false
      by_cases g : rk a = 9218868437227405311
      · rw [order_eq a _ hn hm (by omega)]; rfl
      · rw [order_lt a _ hn hm (by omega)]; rfl
    rw [decide_eq_false hi]
    clear h3 hi hn h hm hr hv h4
    go_enter Try.func101, Try.ntmps101
    go_wp2
    go_ret
    exact ⟨rfl, rfl⟩
end Go.Proofs.Ytmgpecomgffelaa
