/- The plain law of package float: ranks, order, bits, the next number. No Go in sight. -/
import Derived.Test.YtmgpecomgffelaaFloatF
namespace Go.Proofs.Ytmgpecomgffelaa

theorem k1 : two64 = two63 + two63 := by decide
theorem k2 : infB + 2 < two63 := by decide
theorem k3 : infB + 1 < nanB := by decide
theorem k4 : nanB < two63 := by decide

/-- A number's rank; what is no number stands behind all. -/
def R (a : Nat) : Int := if isNaN a then (infB : Int) + 1 else rk a

theorem rk_le (a : Nat) (h : a < two64) (hn : isNaN a = false) : rk a ≤ infB ∧ -(infB : Int) ≤ rk a := by
  have h3 : ¬ ((infB : Int) < rk a ∨ rk a < -(infB : Int)) := of_decide_eq_false ((nan_rk a h).symm.trans hn)
  omega
theorem nan_of_rk (a : Nat) (h : a < two64) (h1 : rk a ≤ infB) (h2 : -(infB : Int) ≤ rk a) : isNaN a = false := by
  rw [nan_rk a h, decide_eq_false]
  omega
theorem R_nan (a : Nat) (hn : isNaN a = true) : R a = infB + 1 := by unfold R; rw [if_pos hn]
theorem R_num (a : Nat) (hn : isNaN a = false) : R a = rk a := by unfold R; rw [if_neg (by rw [hn]; simp)]
theorem R_le (a : Nat) (h : a < two64) (hn : isNaN a = false) : R a ≤ infB ∧ -(infB : Int) ≤ R a := by
  rw [R_num a hn]; exact rk_le a h hn

theorem cmp_R (a b : Nat) (ha : a < two64) (hb : b < two64) : cmpF a b = if R a < R b then -1 else if R b < R a then 1 else 0 := by
  unfold cmpF
  cases hna : isNaN a with
  | true =>
    have r1 := R_nan a hna
    cases hnb : isNaN b with
    | true =>
      have r2 := R_nan b hnb
      simp only [if_true]; rw [r1, r2, if_neg (by omega), if_neg (by omega)]
    | false =>
      have r2 := R_le b hb hnb
      simp only [Bool.false_eq_true, if_false, if_true]; rw [r1, if_neg (by omega), if_pos (by omega)]
  | false =>
    have r1 := R_le a ha hna
    cases hnb : isNaN b with
    | true =>
      have r2 := R_nan b hnb
      simp only [Bool.false_eq_true, if_false, if_true]; rw [r2, if_pos (by omega)]
    | false =>
      simp only [Bool.false_eq_true, if_false]; rw [R_num a hna, R_num b hnb]

theorem canon_R (a : Nat) : R (canonF a) = R a := by
  cases hn : isNaN a with
  | true =>
    have e : canonF a = nanB := by unfold canonF; rw [if_pos hn]
    rw [e, R_nan a hn]; exact R_nan nanB (by decide)
  | false =>
    by_cases hz : rk a = 0
    · have e : canonF a = 0 := by unfold canonF; rw [if_neg (by rw [hn]; simp), if_pos hz]
      rw [e, R_num a hn, hz]; exact R_num 0 (by decide)
    · have e : canonF a = a := by unfold canonF; rw [if_neg (by rw [hn]; simp), if_neg hz]
      rw [e]

theorem canon_of_R (a b : Nat) (ha : a < two64) (hb : b < two64) (h : R a = R b) : canonF a = canonF b := by
  unfold canonF
  cases hna : isNaN a with
  | true =>
    cases hnb : isNaN b with
    | true => rfl
    | false =>
      have r1 := R_nan a hna
      have r2 := R_le b hb hnb
      omega
  | false =>
    have r1 := R_le a ha hna
    cases hnb : isNaN b with
    | true =>
      have r2 := R_nan b hnb
      omega
    | false =>
      rw [R_num a hna, R_num b hnb] at h
      simp only [Bool.false_eq_true, if_false]
      by_cases hz : rk a = 0
      · rw [if_pos hz, if_pos (by omega)]
      · rw [if_neg hz, if_neg (by omega)]
        rcases Int.lt_or_gt_of_ne hz with g | g
        · have g1 := rk_neg a ha g
          have g2 := rk_neg b hb (by omega)
          omega
        · have g1 := rk_pos a ha g
          have g2 := rk_pos b hb (by omega)
          omega

theorem cmp_three (a b : Nat) : cmpF a b = -1 ∨ cmpF a b = 0 ∨ cmpF a b = 1 := by
  unfold cmpF
  split
  · split <;> simp
  · split
    · simp
    · split
      · simp
      · split <;> simp

theorem bits_R (a : Nat) (h : a < two64) : (bitsF a : Int) = if isNaN a then (nanB : Int) + two63 else if 0 ≤ rk a then (two63 : Int) + rk a else (two63 : Int) - 1 + rk a := by
  have k1 := k1
  have k2 := k2
  have k3 := k3
  have k4 := k4
  unfold bitsF
  cases hn : isNaN a with
  | true =>
    have e : canonF a = nanB := by unfold canonF; rw [if_pos hn]
    rw [e, if_neg (by omega)]
    simp
  | false =>
    by_cases hz : rk a = 0
    · have e : canonF a = 0 := by unfold canonF; rw [if_neg (by rw [hn]; simp), if_pos hz]
      rw [e, if_neg (by omega), hz]
      simp
    · have e : canonF a = a := by unfold canonF; rw [if_neg (by rw [hn]; simp), if_neg hz]
      rw [e]
      simp only [Bool.false_eq_true, if_false]
      rcases Int.lt_or_gt_of_ne hz with g | g
      · have g1 := rk_neg a h g
        rw [if_pos (by omega), if_neg (by omega)]
        omega
      · have g1 := rk_pos a h g
        rw [if_neg (by omega), if_pos (by omega)]
        omega

theorem bits_lt (a b : Nat) (ha : a < two64) (hb : b < two64) : R a < R b ↔ (bitsF a : Int) < (bitsF b : Int) := by
  have k2 := k2
  have k3 := k3
  have k4 := k4
  rw [bits_R a ha, bits_R b hb]
  cases hna : isNaN a with
  | true =>
    have r1 := R_nan a hna
    cases hnb : isNaN b with
    | true =>
      have r2 := R_nan b hnb
      simp; omega
    | false =>
      have r2 := R_le b hb hnb
      rw [R_num b hnb] at r2 ⊢
      simp only [Bool.false_eq_true, if_false, if_true]
      split <;> omega
  | false =>
    have r1 := R_le a ha hna
    rw [R_num a hna] at r1 ⊢
    cases hnb : isNaN b with
    | true =>
      have r2 := R_nan b hnb
      simp only [Bool.false_eq_true, if_false, if_true]
      split <;> omega
    | false =>
      rw [R_num b hnb]
      simp only [Bool.false_eq_true, if_false]
      split <;> split <;> omega

theorem nextV_lt (a : Nat) (h : a < two64) : nextV a < two64 := by
  have k1 := k1
  have k4 := k4
  unfold nextV
  split
  · omega
  · split
    · omega
    · refine canon_lt _ ?_
      unfold nextW
      split
      · decide
      · split
        · have := rk_pos a h ‹_›
          have := k2
          omega
        · omega

theorem next_R (a : Nat) (h : a < two64) (hn : isNaN a = false) : R (nextV a) = R a + 1 := by
  have k1 := k1
  have k2 := k2
  rw [R_num a hn]
  have hl := rk_le a h hn
  by_cases hi : a = infB
  · have e : nextV a = nanB := by unfold nextV; rw [if_neg (by rw [hn]; simp), if_pos hi]
    have hr : rk infB = infB := by decide
    rw [e, hi, hr]; exact R_nan nanB (by decide)
  · have e : nextV a = canonF (nextW a) := by unfold nextV; rw [if_neg (by rw [hn]; simp), if_neg hi]
    have hne : rk a ≠ (infB : Int) := fun g => hi (rk_inf_only a h g)
    rw [e, canon_R]
    have hw : rk (nextW a) = rk a + 1 ∧ nextW a < two64 := by
      unfold nextW
      rcases Int.lt_trichotomy (rk a) 0 with g | g | g
      · have g1 := rk_neg a h g
        rw [if_neg (by omega), if_neg (by omega), rk_of_ge (a - 1) (by omega) (by omega)]
        omega
      · rw [if_pos g, g]; decide
      · have g1 := rk_pos a h g
        rw [if_neg (by omega), if_pos g, rk_of_lt (a + 1) (by omega)]
        omega
    rw [R_num _ (nan_of_rk _ hw.2 (by omega) (by omega)), hw.1]
end Go.Proofs.Ytmgpecomgffelaa
