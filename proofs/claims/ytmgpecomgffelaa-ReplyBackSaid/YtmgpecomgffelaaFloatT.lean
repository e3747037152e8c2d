/- The order of IEEE doubles by their words: no Go in sight. -/
import Ieee.Arith
namespace Go.Proofs.Ytmgpecomgffelaa
open Ieee

def two63 : Nat := 9223372036854775808
def infB : Nat := 9218868437227405312
def bin : Nat := 4503599627370496

/-- Is it no number? -/
def isNaN (b : Nat) : Bool := decide (infB < b % two63)
def isNeg (b : Nat) : Bool := b / two63 % 2 == 1
/-- A number's place in the order. -/
def rk (b : Nat) : Int := if isNeg b then -((b % two63 : Nat) : Int) else ((b % two63 : Nat) : Int)

theorem sw : double.signWeight = two63 := by decide
theorem bn : double.binade = bin := by decide
theorem inf : double.infRung = infB := by decide

/-- The magnitude of a rung, in units of the last digit of a subnormal number. -/
def mag (r : Nat) : Nat := if r < bin then r else (bin + r % bin) * 2 ^ (r / bin - 1)

theorem mag_lt {r s : Nat} (h : r < s) : mag r < mag s := by
  unfold mag
  have hb : 0 < bin := by decide
  by_cases hs : s < bin
  · rw [if_pos (by omega), if_pos hs]; exact h
  · rw [if_neg hs]
    have hsq : 1 ≤ s / bin := (Nat.le_div_iff_mul_le hb).2 (by omega)
    have hs2 : bin ≤ bin + s % bin := by omega
    have hp : 1 ≤ 2 ^ (s / bin - 1) := Nat.one_le_two_pow
    by_cases hr : r < bin
    · rw [if_pos hr]
      calc r < bin := hr
        _ ≤ (bin + s % bin) * 1 := by omega
        _ ≤ (bin + s % bin) * 2 ^ (s / bin - 1) := Nat.mul_le_mul_left _ hp
    · rw [if_neg hr]
      have hrq : 1 ≤ r / bin := (Nat.le_div_iff_mul_le hb).2 (by omega)
      have hle : r / bin ≤ s / bin := Nat.div_le_div_right (by omega)
      have hrm := Nat.mod_lt r hb
      have hsm := Nat.mod_lt s hb
      have hr0 := Nat.div_add_mod r bin
      have hs0 := Nat.div_add_mod s bin
      rcases Nat.lt_or_ge (r / bin) (s / bin) with hlt | hge
      · have h1 : r / bin - 1 + 1 ≤ s / bin - 1 := by omega
        calc (bin + r % bin) * 2 ^ (r / bin - 1) < (2 * bin) * 2 ^ (r / bin - 1) := Nat.mul_lt_mul_of_pos_right (by omega) (Nat.two_pow_pos _)
          _ = bin * 2 ^ (r / bin - 1 + 1) := by rw [Nat.pow_succ, Nat.mul_comm 2 bin, Nat.mul_assoc, Nat.mul_comm 2]
          _ ≤ bin * 2 ^ (s / bin - 1) := Nat.mul_le_mul_left _ (Nat.pow_le_pow_right (by omega) h1)
          _ ≤ (bin + s % bin) * 2 ^ (s / bin - 1) := Nat.mul_le_mul_right _ (by omega)
      · have he : r / bin = s / bin := by omega
        rw [he]
        rw [he] at hr0
        exact Nat.mul_lt_mul_of_pos_right (by omega) (Nat.two_pow_pos _)

theorem mag_zero : mag 0 = 0 := by decide
theorem mag_inj {r s : Nat} : mag r = mag s ↔ r = s := by
  constructor
  · intro h
    rcases Nat.lt_trichotomy r s with h1 | h1 | h1
    · have := mag_lt h1; omega
    · exact h1
    · have := mag_lt h1; omega
  · rintro rfl; rfl

/-- What a finite word reads as. -/
theorem read_num (b : Nat) (h : b % two63 < infB) : ∃ m i, double.read b = .number (isNeg b) m (double.leastPlace + (i : Nat)) ∧ mag (b % two63) = m * 2 ^ i := by
  unfold Format.read
  rw [sw, bn, inf]
  unfold isNeg mag
  by_cases h1 : b % two63 < bin
  · exact ⟨b % two63, 0, by simp [h1], by simp [h1]⟩
  · exact ⟨bin + b % two63 % bin, b % two63 / bin - 1, by simp only [if_neg h1, if_pos h], by rw [if_neg h1]⟩

theorem read_inf (b : Nat) (h : b % two63 = infB) : double.read b = .infinity (isNeg b) := by
  unfold Format.read
  rw [sw, bn, inf]
  unfold isNeg
  simp only [h, if_neg (show ¬ infB < bin by decide), Nat.lt_irrefl, if_false, if_true]

theorem read_nan (b : Nat) (h : infB < b % two63) : ∃ x, double.read b = .nan (isNeg b) x := by
  unfold Format.read
  rw [sw, bn, inf]
  unfold isNeg
  have h0 : bin < infB := by decide
  exact ⟨b % two63 - infB, by simp only [if_neg (show ¬ b % two63 < bin by omega), if_neg (show ¬ b % two63 < infB by omega), if_neg (show ¬ b % two63 = infB by omega)]⟩

theorem compare_scale (a b : Int) (k : Nat) (h : 0 < k) : compare (a * k) (b * k) = compare a b := by
  have hk : (0 : Int) < k := by omega
  rcases Int.lt_trichotomy a b with h1 | h1 | h1
  · rw [Int.compare_eq_lt.2 h1, Int.compare_eq_lt.2 (Int.mul_lt_mul_of_pos_right h1 hk)]
  · subst h1; rw [Int.compare_eq_eq.2 rfl, Int.compare_eq_eq.2 rfl]
  · rw [Int.compare_eq_gt.2 h1, Int.compare_eq_gt.2 (Int.mul_lt_mul_of_pos_right h1 hk)]

theorem compare_of {a b c d : Int} (h1 : a < b ↔ c < d) (h2 : a = b ↔ c = d) : compare a b = compare c d := by
  rcases Int.lt_trichotomy c d with h | h | h
  · rw [Int.compare_eq_lt.2 h, Int.compare_eq_lt.2 (h1.2 h)]
  · rw [Int.compare_eq_eq.2 h, Int.compare_eq_eq.2 (h2.2 h)]
  · have : b < a := by
      rcases Int.lt_trichotomy a b with g | g | g
      · have := h1.1 g; omega
      · have := h2.1 g; omega
      · exact g
    rw [Int.compare_eq_gt.2 h, Int.compare_eq_gt.2 this]

/-- Signed magnitudes stand as signed rungs. -/
theorem signed_mag (s t : Bool) (r q : Nat) : compare (if s then -((mag r : Nat) : Int) else mag r) (if t then -((mag q : Nat) : Int) else mag q) = compare (if s then -((r : Nat) : Int) else r) (if t then -((q : Nat) : Int) else q) := by
  have m0 := mag_zero
  have hz : ∀ x, mag x = 0 ↔ x = 0 := fun x => ⟨fun h => mag_inj.1 (by rw [h, m0]), fun h => by rw [h, m0]⟩
  have hi := @mag_inj r q
  have hl : mag r < mag q ↔ r < q := by
    constructor
    · intro h
      rcases Nat.lt_trichotomy r q with h1 | h1 | h1
      · exact h1
      · subst h1; omega
      · have := mag_lt h1; omega
    · exact mag_lt
  have hr := hz r
  have hq := hz q
  refine compare_of ?_ ?_ <;> cases s <;> cases t <;> simp <;> omega

theorem signed_scale (s : Bool) (m up : Nat) : signed s m up = (if s then -((m * 2 ^ up : Nat) : Int) else ((m * 2 ^ up : Nat) : Int)) := by
  unfold signed
  rw [Nat.shiftLeft_eq]

theorem order_num (a b : Nat) (ha : isNaN a = false) (hb : isNaN b = false) : double.order a b = some (compare (rk a) (rk b)) := by
  unfold isNaN at ha hb
  have ha := of_decide_eq_false ha
  have hb := of_decide_eq_false hb
  unfold Format.order
  have hinf : 0 < infB := by decide
  by_cases ha1 : a % two63 = infB
  · rw [read_inf a ha1]
    by_cases hb1 : b % two63 = infB
    · rw [read_inf b hb1]
      unfold Datum.order rk
      rw [ha1, hb1]
      congr 1
      generalize isNeg a = s
      generalize isNeg b = t
      cases s <;> cases t <;> decide
    · obtain ⟨m, i, hr, _⟩ := read_num b (by omega)
      rw [hr]
      unfold Datum.order rk
      rw [ha1]
      generalize isNeg a = s
      generalize isNeg b = t
      cases s <;> cases t <;> simp only [Bool.false_eq_true, if_false, if_true]
      all_goals first | exact congrArg some (Int.compare_eq_gt.2 (by omega)).symm | exact congrArg some (Int.compare_eq_lt.2 (by omega)).symm
  · obtain ⟨m, i, hr, hm⟩ := read_num a (by omega)
    rw [hr]
    by_cases hb1 : b % two63 = infB
    · rw [read_inf b hb1]
      unfold Datum.order rk
      rw [hb1]
      generalize isNeg a = s
      generalize isNeg b = t
      cases s <;> cases t <;> simp only [Bool.false_eq_true, if_false, if_true]
      all_goals first | exact congrArg some (Int.compare_eq_gt.2 (by omega)).symm | exact congrArg some (Int.compare_eq_lt.2 (by omega)).symm
    · have hb2 : b % two63 < infB := by omega
      obtain ⟨n, j, hr2, hn⟩ := read_num b hb2
      rw [hr2]
      clear hinf ha hb ha1 hb1 hb2
      unfold Datum.order
      simp only
      congr 1
      generalize double.leastPlace = L
      have hbase : min (L + (i : Nat)) (L + (j : Nat)) = L + (min i j : Nat) := by omega
      rw [hbase, signed_scale, signed_scale]
      have e1 : (L + (i : Nat) - (L + (min i j : Nat))).toNat = i - min i j := by omega
      have e2 : (L + (j : Nat) - (L + (min i j : Nat))).toNat = j - min i j := by omega
      rw [e1, e2]
      have k1 : mag (a % two63) = m * 2 ^ (i - min i j) * 2 ^ min i j := by
        rw [hm, Nat.mul_assoc, ← Nat.pow_add]; congr 2; omega
      have k2 : mag (b % two63) = n * 2 ^ (j - min i j) * 2 ^ min i j := by
        rw [hn, Nat.mul_assoc, ← Nat.pow_add]; congr 2; omega
      have hs := signed_mag (isNeg a) (isNeg b) (a % two63) (b % two63)
      rw [k1, k2] at hs
      unfold rk
      rw [← hs, ← compare_scale _ _ (2 ^ min i j) (Nat.two_pow_pos _)]
      congr 1
      · cases isNeg a <;> simp [Int.natCast_mul, Int.neg_mul]
      · cases isNeg b <;> simp [Int.natCast_mul, Int.neg_mul]

theorem order_nan_left (a b : Nat) (ha : isNaN a = true) : double.order a b = none := by
  obtain ⟨x, hx⟩ := read_nan a (of_decide_eq_true ha)
  unfold Format.order
  rw [hx]
  rfl
theorem order_nan_right (a b : Nat) (hb : isNaN b = true) : double.order a b = none := by
  obtain ⟨x, hx⟩ := read_nan b (of_decide_eq_true hb)
  unfold Format.order
  rw [hx]
  cases double.read a <;> rfl

/-! ### What package float computes, on words -/
def nanB : Nat := 9221120237041090560
def two64 : Nat := 18446744073709551616

def canonF (a : Nat) : Nat := if isNaN a then nanB else if rk a = 0 then 0 else a
def cmpF (a b : Nat) : Int := if isNaN a then (if isNaN b then 0 else 1) else if isNaN b then -1 else if rk a < rk b then -1 else if rk b < rk a then 1 else 0
def bitsF (a : Nat) : Nat := if two63 ≤ canonF a then two64 - 1 - canonF a else canonF a + two63

theorem order_self (a : Nat) (h : isNaN a = false) : double.order a a = some .eq := by rw [order_num a a h h, Int.compare_eq_eq.2 rfl]
theorem order_lt (a b : Nat) (ha : isNaN a = false) (hb : isNaN b = false) (h : rk a < rk b) : double.order a b = some .lt := by rw [order_num a b ha hb, Int.compare_eq_lt.2 h]
theorem order_gt (a b : Nat) (ha : isNaN a = false) (hb : isNaN b = false) (h : rk b < rk a) : double.order a b = some .gt := by rw [order_num a b ha hb, Int.compare_eq_gt.2 h]
theorem order_eq (a b : Nat) (ha : isNaN a = false) (hb : isNaN b = false) (h : rk a = rk b) : double.order a b = some .eq := by rw [order_num a b ha hb, Int.compare_eq_eq.2 h]
theorem nan_zero : isNaN 0 = false := by decide
theorem rk_zero : rk 0 = 0 := by decide

theorem rk_eq_zero (a : Nat) : rk a = 0 ↔ a % two63 = 0 := by
  unfold rk
  generalize a % two63 = m
  cases isNeg a <;> simp

theorem canon_lt (a : Nat) (h : a < two64) : canonF a < two64 := by
  unfold canonF
  have h1 : nanB < two64 := by decide
  have h2 : 0 < two64 := by decide
  split
  · exact h1
  · split
    · exact h2
    · exact h
theorem canon_canon (a : Nat) : canonF (canonF a) = canonF a := by
  have h1 : canonF nanB = nanB := by decide
  have h2 : canonF 0 = 0 := by decide
  unfold canonF
  by_cases hn : isNaN a = true
  · rw [if_pos hn]; exact h1
  · rw [if_neg hn]
    by_cases hz : rk a = 0
    · rw [if_pos hz]; exact h2
    · rw [if_neg hz, if_neg hn, if_neg hz]
end Go.Proofs.Ytmgpecomgffelaa
