/- Contracts of package float and its reference. -/
import Derived.Test.YtmgpecomgffelaaFloatT
import Derived.Test.YtmgpecomgffelaaWords
import Derived.Test.YtmgpecomgffelaaProg
import Derived.WalkLawsBesides
import Derived.WalkSpells
import Derived.BigQuiet
import Derived.KernelRfl
namespace Go.Proofs.Ytmgpecomgffelaa
open Go.RowKit
set_option linter.unusedVariables false
theorem run_bits (a : Nat) (w : World) : (callFunc 95 #[.float .f64 a]).run Try.prog w = .ok (.value (.int .u64 a)) w := by kernel_rfl
theorem run_from (a : Int) (w : World) : (callFunc 102 #[.int .u64 a]).run Try.prog w = .ok (.value (.float .f64 a.toNat)) w := by kernel_rfl
theorem nan_any (w : World) : Calls Try.prog 98 #[] w fun e w' => e = .returned (.float .f64 9221120237041090561) ∧ w = w' := by
  have h2 := run_from
  go_enter Try.func98, Try.ntmps98
  go_wp2
  go_ret
  exact ⟨rfl, rfl⟩

abbrev ord (a b : Nat) : Option Ordering := FloatKind.f64.format.order a b

theorem isnan_yes (a : Nat) (w : World) (h : isNaN a = true) : Calls Try.prog 47 #[.float .f64 a] w fun e w' => e = .returned (.bool true) ∧ w = w' := by
  have h1 : FloatKind.f64.format.order a a = none := order_nan_left a a h
  clear h
  go_enter Try.func47, Try.ntmps47
  go_wp2
  go_ret
  exact ⟨rfl, rfl⟩
theorem isnan_no (a : Nat) (w : World) (h : isNaN a = false) : Calls Try.prog 47 #[.float .f64 a] w fun e w' => e = .returned (.bool false) ∧ w = w' := by
  have h1 : FloatKind.f64.format.order a a = some .eq := order_self a h
  clear h
  go_enter Try.func47, Try.ntmps47
  go_wp2
  go_ret
  exact ⟨rfl, rfl⟩
theorem isnan_any (a : Nat) (w : World) : Calls Try.prog 47 #[.float .f64 a] w fun e w' => e = .returned (.bool (isNaN a)) ∧ w = w' := by
  cases h : isNaN a with
  | true => exact isnan_yes a w h
  | false => exact isnan_no a w h

theorem canon_any (a : Nat) (w : World) : Calls Try.prog 48 #[.float .f64 a] w fun e w' => e = .returned (.float .f64 (canonF a)) ∧ w = w' := by
  have hb := run_from
  cases h : isNaN a with
  | true =>
    have e : canonF a = nanB := by unfold canonF; rw [if_pos h]
    have h1 : FloatKind.f64.format.order a a = none := order_nan_left a a h
    rw [e]
    clear h e
    go_enter Try.func48, Try.ntmps48
    go_wp2
    go_ret
    exact ⟨rfl, rfl⟩
  | false =>
    have h1 : FloatKind.f64.format.order a a = some .eq := order_self a h
    by_cases hz : rk a = 0
    · have e : canonF a = 0 := by unfold canonF; rw [if_neg (by rw [h]; simp), if_pos hz]
      have h2 : FloatKind.f64.format.order a 0 = some .eq := order_eq a 0 h nan_zero (by rw [hz, rk_zero])
      rw [e]
      clear h e hz
      go_enter Try.func48, Try.ntmps48
      go_wp2
      go_ret
      exact ⟨rfl, rfl⟩
    · have e : canonF a = a := by unfold canonF; rw [if_neg (by rw [h]; simp), if_neg hz]
      have h2 : (FloatKind.f64.format.order a 0 == some .eq) = false := by
        show (Ieee.double.order a 0 == some .eq) = false
        rcases Int.lt_trichotomy (rk a) 0 with g | g | g
        · rw [order_lt a 0 h nan_zero (by rw [rk_zero]; exact g)]; rfl
        · exact absurd g hz
        · rw [order_gt a 0 h nan_zero (by rw [rk_zero]; exact g)]; rfl
      rw [e]
      clear h e hz
      go_enter Try.func48, Try.ntmps48
      go_wp2
      go_ret
      exact ⟨rfl, rfl⟩

theorem cmp_any (a b : Nat) (w : World) : Calls Try.prog 39 #[.float .f64 a, .float .f64 b] w fun e w' => e = .returned (.int .i64 (cmpF a b)) ∧ w = w' := by
  cases ha : isNaN a with
  | true =>
    have h1 : FloatKind.f64.format.order a a = none := order_nan_left a a ha
    cases hb : isNaN b with
    | true =>
      have e : cmpF a b = 0 := by unfold cmpF; rw [if_pos ha, if_pos hb]
      have h2 : FloatKind.f64.format.order b b = none := order_nan_left b b hb
      rw [e]
      clear ha hb e
      go_enter Try.func39, Try.ntmps39
      go_wp2
      go_ret
      exact ⟨rfl, rfl⟩
    | false =>
      have e : cmpF a b = 1 := by unfold cmpF; rw [if_pos ha, if_neg (by rw [hb]; simp)]
      have h2 : FloatKind.f64.format.order b b = some .eq := order_self b hb
      rw [e]
      clear ha hb e
      go_enter Try.func39, Try.ntmps39
      go_wp2
      go_ret
      exact ⟨rfl, rfl⟩
  | false =>
    have h1 : FloatKind.f64.format.order a a = some .eq := order_self a ha
    cases hb : isNaN b with
    | true =>
      have e : cmpF a b = -1 := by unfold cmpF; rw [if_neg (by rw [ha]; simp), if_pos hb]
      have h2 : FloatKind.f64.format.order b b = none := order_nan_left b b hb
      rw [e]
      clear ha hb e
      go_enter Try.func39, Try.ntmps39
      go_wp2
      go_ret
      exact ⟨rfl, rfl⟩
    | false =>
      have h2 : FloatKind.f64.format.order b b = some .eq := order_self b hb
      have e0 : cmpF a b = if rk a < rk b then -1 else if rk b < rk a then 1 else 0 := by unfold cmpF; rw [if_neg (by rw [ha]; simp), if_neg (by rw [hb]; simp)]
      rcases Int.lt_trichotomy (rk a) (rk b) with g | g | g
      · have e : cmpF a b = -1 := by rw [e0, if_pos g]
        have h3 : FloatKind.f64.format.order a b = some .lt := order_lt a b ha hb g
        rw [e]
        clear ha hb e e0 g
        go_enter Try.func39, Try.ntmps39
        go_wp2
        go_ret
        exact ⟨rfl, rfl⟩
      · have e : cmpF a b = 0 := by rw [e0, if_neg (by omega), if_neg (by omega)]
        have h3 : FloatKind.f64.format.order a b = some .eq := order_eq a b ha hb g
        rw [e]
        clear ha hb e e0 g
        go_enter Try.func39, Try.ntmps39
        go_wp2
        go_ret
        exact ⟨rfl, rfl⟩
      · have e : cmpF a b = 1 := by rw [e0, if_neg (by omega), if_pos g]
        have h3 : FloatKind.f64.format.order a b = some .gt := order_gt a b ha hb g
        rw [e]
        clear ha hb e e0 g
        go_enter Try.func39, Try.ntmps39
        go_wp2
        go_ret
        exact ⟨rfl, rfl⟩
end Go.Proofs.Ytmgpecomgffelaa
