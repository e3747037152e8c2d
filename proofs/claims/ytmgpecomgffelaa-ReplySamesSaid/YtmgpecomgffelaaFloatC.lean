/- Contracts of package float and its reference, third part: the bits. -/
import Derived.Test.YtmgpecomgffelaaFloatB
import Derived.Test.YtmgpecomgffelaaBits
namespace Go.Proofs.Ytmgpecomgffelaa
open Go.RowKit
set_option linter.unusedVariables false

theorem rcmp_any (a b : Nat) (w : World) : Calls Try.prog 41 #[.float .f64 a, .float .f64 b] w fun e w' => e = .returned (.int .i64 (cmpF a b)) ∧ w = w' := by
  have hra := rank_any a
  have hrb := rank_any b
  cases ha : isNaN a with
  | true =>
    rw [ha] at hra
    cases hb : isNaN b with
    | true =>
      rw [hb] at hrb
      have e : cmpF a b = 0 := by unfold cmpF; rw [if_pos ha, if_pos hb]
      rw [e]
      clear ha hb e
      go_enter Try.func41, Try.ntmps41
      go_wp2_with fail
      refine (hra _).mono ?_
      rintro e w1 ⟨rfl, rfl⟩
      go_wp2_with fail
      refine (hrb _).mono ?_
      rintro e w1 ⟨rfl, rfl⟩
      go_wp2_with fail
      refine (hra _).mono ?_
      rintro e w1 ⟨rfl, rfl⟩
      go_wp2_with fail
      go_ret
      exact ⟨rfl, rfl⟩
    | false =>
      rw [hb] at hrb
      have e : cmpF a b = 1 := by unfold cmpF; rw [if_pos ha, if_neg (by rw [hb]; simp)]
      rw [e]
      clear ha hb e
      go_enter Try.func41, Try.ntmps41
      go_wp2_with fail
      refine (hra _).mono ?_
      rintro e w1 ⟨rfl, rfl⟩
      go_wp2_with fail
      refine (hrb _).mono ?_
      rintro e w1 ⟨rfl, rfl⟩
      go_wp2_with fail
      refine (hra _).mono ?_
      rintro e w1 ⟨rfl, rfl⟩
      go_wp2_with fail
      refine (hrb _).mono ?_
      rintro e w1 ⟨rfl, rfl⟩
      go_wp2_with fail
      go_ret
      exact ⟨rfl, rfl⟩
  | false =>
    rw [ha] at hra
    cases hb : isNaN b with
    | true =>
      rw [hb] at hrb
      have e : cmpF a b = -1 := by unfold cmpF; rw [if_neg (by rw [ha]; simp), if_pos hb]
      rw [e]
      clear ha hb e
      go_enter Try.func41, Try.ntmps41
      go_wp2_with fail
      refine (hra _).mono ?_
      rintro e w1 ⟨rfl, rfl⟩
      go_wp2_with fail
      refine (hrb _).mono ?_
      rintro e w1 ⟨rfl, rfl⟩
      go_wp2_with fail
      refine (hra _).mono ?_
      rintro e w1 ⟨rfl, rfl⟩
      go_wp2_with fail
      refine (hrb _).mono ?_
      rintro e w1 ⟨rfl, rfl⟩
      go_wp2_with fail
      go_ret
      exact ⟨rfl, rfl⟩
    | false =>
      rw [hb] at hrb
      have e0 : cmpF a b = if rk a < rk b then -1 else if rk b < rk a then 1 else 0 := by unfold cmpF; rw [if_neg (by rw [ha]; simp), if_neg (by rw [hb]; simp)]
      rcases Int.lt_trichotomy (rk a) (rk b) with g | g | g
      · have e : cmpF a b = -1 := by rw [e0, if_pos g]
        have h3 : FloatKind.f64.format.order a b = some .lt := order_lt a b ha hb g
        rw [e]
        clear ha hb e e0 g
        go_enter Try.func41, Try.ntmps41
        go_wp2_with fail
        refine (hra _).mono ?_
        rintro e w1 ⟨rfl, rfl⟩
        go_wp2_with fail
        refine (hrb _).mono ?_
        rintro e w1 ⟨rfl, rfl⟩
        go_wp2_with fail
        refine (hra _).mono ?_
        rintro e w1 ⟨rfl, rfl⟩
        go_wp2_with fail
        go_ret
        exact ⟨rfl, rfl⟩
      · have e : cmpF a b = 0 := by rw [e0, if_neg (by omega), if_neg (by omega)]
        have h3 : FloatKind.f64.format.order a b = some .eq := order_eq a b ha hb g
        rw [e]
        clear ha hb e e0 g
        go_enter Try.func41, Try.ntmps41
        go_wp2_with fail
        refine (hra _).mono ?_
        rintro e w1 ⟨rfl, rfl⟩
        go_wp2_with fail
        refine (hrb _).mono ?_
        rintro e w1 ⟨rfl, rfl⟩
        go_wp2_with fail
        refine (hra _).mono ?_
        rintro e w1 ⟨rfl, rfl⟩
        go_wp2_with fail
        go_ret
        exact ⟨rfl, rfl⟩
      · have e : cmpF a b = 1 := by rw [e0, if_neg (by omega), if_pos g]
        have h3 : FloatKind.f64.format.order a b = some .gt := order_gt a b ha hb g
        rw [e]
        clear ha hb e e0 g
        go_enter Try.func41, Try.ntmps41
        go_wp2_with fail
        refine (hra _).mono ?_
        rintro e w1 ⟨rfl, rfl⟩
        go_wp2_with fail
        refine (hrb _).mono ?_
        rintro e w1 ⟨rfl, rfl⟩
        go_wp2_with fail
        refine (hra _).mono ?_
        rintro e w1 ⟨rfl, rfl⟩
        go_wp2_with fail
        go_ret
        exact ⟨rfl, rfl⟩

theorem bits_any (a : Nat) (h : a < two64) (w : World) : Calls Try.prog 40 #[.float .f64 a] w fun e w' => e = .returned (.int .u64 (bitsF a)) ∧ w = w' := by
  have hb := run_bits
  have hc := canon_any a
  have hl : canonF a < 18446744073709551616 := canon_lt a h
  unfold bitsF
  generalize canonF a = b at hc hl ⊢
  clear h
  have ha := b_and b hl
  by_cases hs : 9223372036854775808 ≤ b
  · rw [if_pos hs] at ha
    have e : (if two63 ≤ b then two64 - 1 - b else b + two63) = 18446744073709551615 - b := if_pos hs
    have hx := b_xor b hl
    have ht : (bits BinOp.and IntKind.u64 (b : Int) 9223372036854775808 == 0) = false := by rw [ha]; rfl
    rw [e, ← hx]
    clear ha hx e hs hl
    go_enter Try.func40, Try.ntmps40
    go_wp2_with fail
    refine (hc _).mono ?_
    rintro e w1 ⟨rfl, rfl⟩
    go_wp2_with fail
    go_ret
    exact ⟨rfl, rfl⟩
  · rw [if_neg hs] at ha
    have e : (if two63 ≤ b then two64 - 1 - b else b + two63) = b + 9223372036854775808 := if_neg hs
    have hx := b_or b (by omega)
    have ht : (bits BinOp.and IntKind.u64 (b : Int) 9223372036854775808 == 0) = true := by rw [ha]; rfl
    rw [e, ← hx]
    clear ha hx e hs hl
    go_enter Try.func40, Try.ntmps40
    go_wp2_with fail
    refine (hc _).mono ?_
    rintro e w1 ⟨rfl, rfl⟩
    go_wp2_with fail
    go_ret
    exact ⟨rfl, rfl⟩
set_option maxRecDepth 100000 in
theorem rbits_any (a : Nat) (h : a < two64) (w : World) : Calls Try.prog 42 #[.float .f64 a] w fun e w' => e = .returned (.int .u64 (bitsF a)) ∧ w = w' := by
  have hb := run_bits
  have hc := rcanon_any a
  have hl : canonF a < 18446744073709551616 := canon_lt a h
  unfold bitsF
  generalize canonF a = b at hc hl ⊢
  clear h
  by_cases hs : 9223372036854775808 ≤ b
  · have e : (if two63 ≤ b then two64 - 1 - b else b + two63) = 18446744073709551615 - b := if_pos hs
    have hx := b_xor b hl
    have ht : decide ((9223372036854775808 : Int) ≤ (b : Int)) = true := by rw [decide_eq_true]; omega
    rw [e, ← hx]
    clear hx e hs hl
    go_enter Try.func42, Try.ntmps42
    go_wp2_with fail
    refine (hc _).mono ?_
    rintro e w1 ⟨rfl, rfl⟩
    go_wp2_with fail
    go_ret
    exact ⟨rfl, rfl⟩
  · have e : (if two63 ≤ b then two64 - 1 - b else b + two63) = b + 9223372036854775808 := if_neg hs
    have ht : decide ((9223372036854775808 : Int) ≤ (b : Int)) = false := by rw [decide_eq_false]; omega
    have hx : IntKind.u64.wrap ((b : Int) + 9223372036854775808) = ((b + 9223372036854775808 : Nat) : Int) := wr (b + 9223372036854775808) (by omega)
    rw [e]
    clear e hs hl
    go_enter Try.func42, Try.ntmps42
    go_wp2_with fail
    refine (hc _).mono ?_
    rintro e w1 ⟨rfl, rfl⟩
    go_wp2_with fail
    go_ret
    exact ⟨rfl, rfl⟩

/-- What a word of the order stands for, before it is looked at. -/
def fromW (u : Nat) : Nat := if two63 ≤ u then u - two63 else two64 - 1 - u
def fromOK (u : Nat) : Bool := decide (fromW u = canonF (fromW u))
def fromF (u : Nat) : Nat := if fromOK u then fromW u else 0

theorem from_any (a : Nat) (h : a < two64) (w : World) : Calls Try.prog 60 #[.int .u64 a] w fun e w' => e = .returned (.tuple #[.float .f64 (fromF a), .bool (fromOK a)]) ∧ w = w' := by
  have h : a < 18446744073709551616 := h
  have hc := run_from
  have ha := b_and a h
  have hi := is_any (fromW a)
  have hok : decide (fromW a = canonF (fromW a)) = fromOK a := rfl
  rw [hok] at hi
  by_cases hs : 9223372036854775808 ≤ a
  · rw [if_pos hs] at ha
    have ht : (bits BinOp.and IntKind.u64 (a : Int) 9223372036854775808 == 0) = false := by rw [ha]; rfl
    have hx := b_andNot a h hs
    have e : fromW a = a - 9223372036854775808 := if_pos hs
    have hn : (bits BinOp.andNot IntKind.u64 (a : Int) 9223372036854775808).toNat = fromW a := by rw [hx, e]; exact Int.toNat_natCast _
    clear ha hx e hs h hok
    unfold fromF
    cases ho : fromOK a with
    | true =>
      rw [ho] at hi
      go_enter Try.func60, Try.ntmps60
      go_wp2_with fail
      refine (hi _).mono ?_
      rintro e w1 ⟨rfl, rfl⟩
      go_wp2_with fail
      go_ret2
      exact ⟨rfl, rfl⟩
    | false =>
      rw [ho] at hi
      go_enter Try.func60, Try.ntmps60
      go_wp2_with fail
      refine (hi _).mono ?_
      rintro e w1 ⟨rfl, rfl⟩
      go_wp2_with fail
      go_ret2
      exact ⟨rfl, rfl⟩
  · rw [if_neg hs] at ha
    have ht : (bits BinOp.and IntKind.u64 (a : Int) 9223372036854775808 == 0) = true := by rw [ha]; rfl
    have hx := b_xor a h
    have e : fromW a = 18446744073709551615 - a := if_neg hs
    have hn : (bits BinOp.xor IntKind.u64 IntKind.u64.max (a : Int)).toNat = fromW a := by rw [hx, e]; exact Int.toNat_natCast _
    clear ha hx e hs h hok
    unfold fromF
    cases ho : fromOK a with
    | true =>
      rw [ho] at hi
      go_enter Try.func60, Try.ntmps60
      go_wp2_with fail
      refine (hi _).mono ?_
      rintro e w1 ⟨rfl, rfl⟩
      go_wp2_with fail
      go_ret2
      exact ⟨rfl, rfl⟩
    | false =>
      rw [ho] at hi
      go_enter Try.func60, Try.ntmps60
      go_wp2_with fail
      refine (hi _).mono ?_
      rintro e w1 ⟨rfl, rfl⟩
      go_wp2_with fail
      go_ret2
      exact ⟨rfl, rfl⟩

theorem bits_fromW (u : Nat) (h : u < two64) (ho : fromOK u = true) : bitsF (fromW u) = u := by
  have e : fromW u = canonF (fromW u) := of_decide_eq_true ho
  unfold bitsF
  rw [← e]
  unfold fromW
  have h1 : two64 = two63 + two63 := by decide
  have h2 : 0 < two63 := by decide
  generalize two63 = m at *
  generalize two64 = k at *
  by_cases hs : m ≤ u
  · rw [if_pos hs, if_neg (by omega)]; omega
  · rw [if_neg hs, if_pos (by omega)]; omega
theorem bits_fromF (u : Nat) (h : u < two64) (ho : fromOK u = true) : bitsF (fromF u) = u := by
  unfold fromF
  rw [if_pos ho]
  exact bits_fromW u h ho
theorem fromW_lt (u : Nat) (h : u < two64) : fromW u < two64 := by
  unfold fromW
  have h2 : 0 < two63 := by decide
  generalize two63 = m at *
  generalize two64 = k at *
  split <;> omega

theorem run_sf (a : Addr) (b : Nat) (m : Mode) (W : World) : (store a (.float .f64 b) m).run Try.prog W = stored Try.prog W a (.float .f64 b) m := run_store Try.prog W a _ m rfl

theorem rfrom_any (a : Nat) (h : a < two64) (w : World) : Calls Try.prog 61 #[.int .u64 a] w fun e w' => e = .returned (.agg #[.float .f64 (fromF a), .bool (fromOK a)]) ∧ Below w.heap.size w w' := by
  have hb := bits_any (fromW a) (fromW_lt a h)
  have hc := run_from
  have hst := run_sf
  have hi := ris_any (fromW a)
  have hbu := rbits_any (fromW a) (fromW_lt a h)
  have hbw := bits_fromW a h
  have h : a < 18446744073709551616 := h
  have hok : decide (fromW a = canonF (fromW a)) = fromOK a := rfl
  rw [hok] at hi
  by_cases hs : 9223372036854775808 ≤ a
  · have ht : decide ((9223372036854775808 : Int) ≤ (a : Int)) = true := by rw [decide_eq_true]; omega
    have hx : IntKind.u64.wrap ((a : Int) - 9223372036854775808) = ((a - 9223372036854775808 : Nat) : Int) := by rw [IntKind.wrap_u64]; omega
    have e : a - 9223372036854775808 = fromW a := (if_pos hs).symm
    rw [e] at hx
    clear e hok h hs
    unfold fromF
    cases ho : fromOK a with
    | true =>
      rw [ho] at hi
      rw [hbw ho] at hbu
      have hself : ((a : Int) == (a : Int)) = true := beq_self_eq_true _
      go_enter Try.func61, Try.ntmps61
      go_wp2_with fail
      refine (hi _).mono ?_
      rintro e w1 ⟨rfl, rfl⟩
      go_wp2_with fail
      refine (hbu _).mono ?_
      rintro e w1 ⟨rfl, rfl⟩
      go_wp2_with fail
      exact bodyPost_ret (v := .agg #[.float .f64 (fromW a), .bool true]) (by simp [results, Try.results61, go_sem]) rfl ⟨rfl, (Below.refl _ _).alloc (Nat.le_refl _) _⟩
    | false =>
      rw [ho] at hi
      go_enter Try.func61, Try.ntmps61
      go_wp2_with fail
      refine (hi _).mono ?_
      rintro e w1 ⟨rfl, rfl⟩
      go_wp2_with fail
      exact bodyPost_ret (v := .agg #[.float .f64 0, .bool false]) (by simp [results, Try.results61, go_sem]) rfl ⟨rfl, (Below.refl _ _).alloc (Nat.le_refl _) _⟩
  · have ht : decide ((9223372036854775808 : Int) ≤ (a : Int)) = false := by rw [decide_eq_false]; omega
    have hx := b_xor a h
    have e : 18446744073709551615 - a = fromW a := (if_neg hs).symm
    have hn : (bits BinOp.xor IntKind.u64 IntKind.u64.max (a : Int)).toNat = fromW a := by rw [hx, e]; exact Int.toNat_natCast _
    clear hx e hok h hs
    unfold fromF
    cases ho : fromOK a with
    | true =>
      rw [ho] at hi
      rw [hbw ho] at hbu
      have hself : ((a : Int) == (a : Int)) = true := beq_self_eq_true _
      go_enter Try.func61, Try.ntmps61
      go_wp2_with fail
      refine (hi _).mono ?_
      rintro e w1 ⟨rfl, rfl⟩
      go_wp2_with fail
      refine (hbu _).mono ?_
      rintro e w1 ⟨rfl, rfl⟩
      go_wp2_with fail
      exact bodyPost_ret (v := .agg #[.float .f64 (fromW a), .bool true]) (by simp [results, Try.results61, go_sem]) rfl ⟨rfl, (Below.refl _ _).alloc (Nat.le_refl _) _⟩
    | false =>
      rw [ho] at hi
      go_enter Try.func61, Try.ntmps61
      go_wp2_with fail
      refine (hi _).mono ?_
      rintro e w1 ⟨rfl, rfl⟩
      go_wp2_with fail
      exact bodyPost_ret (v := .agg #[.float .f64 0, .bool false]) (by simp [results, Try.results61, go_sem]) rfl ⟨rfl, (Below.refl _ _).alloc (Nat.le_refl _) _⟩
end Go.Proofs.Ytmgpecomgffelaa
