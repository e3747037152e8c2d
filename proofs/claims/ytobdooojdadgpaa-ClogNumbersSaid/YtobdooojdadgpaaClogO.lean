/- Plain facts for the law ClogNumbers. No Go in sight. -/
import Derived.Test.YtobdooojdadgpaaClogF
namespace Go.Proofs.Ytobdooojdadgpaa
open Go.RowKit

/-- How many of the first k were committed. -/
def cnt (es : List Int) (k : Nat) : Nat := ((es.take k).filter fun e => e % 3 != 0).length

theorem cnt_zero (es : List Int) : cnt es 0 = 0 := by simp [cnt]
theorem cnt_succ (es : List Int) (k : Nat) (h : k < es.length) : cnt es (k + 1) = cnt es k + if es[k] % 3 = 0 then 0 else 1 := by
  unfold cnt
  rw [List.take_succ_eq_append_getElem h, List.filter_append, List.length_append]
  congr 1
  by_cases e : es[k] % 3 = 0
  · rw [if_pos e]; simp [e]
  · rw [if_neg e]; simp [e]
theorem cnt_mono (es : List Int) (j k : Nat) (h : j ≤ k) : cnt es j ≤ cnt es k := by
  induction k with
  | zero => obtain rfl : j = 0 := by omega
            exact Nat.le_refl _
  | succ k ih =>
    by_cases e : j = k + 1
    · subst e; exact Nat.le_refl _
    · refine Nat.le_trans (ih (by omega)) ?_
      by_cases hk : k < es.length
      · rw [cnt_succ es k hk]; omega
      · unfold cnt
        rw [List.take_of_length_le (by omega), List.take_of_length_le (by omega)]
        exact Nat.le_refl _
theorem cnt_le (es : List Int) (k : Nat) : cnt es k ≤ k := by
  unfold cnt
  exact Nat.le_trans (List.length_filter_le _ _) (List.length_take_le _ _)

/-- What the log is, once k were played. -/
structure NumInv (es : List Int) (k : Nat) (S : LogS) : Prop where
  len : S.l.length = k
  clock : S.clock = cnt es k
  state : ∀ x (h : x < es.length), x < k → (S.tx (x + 1)).state = if es[x] % 3 = 0 then 3 else 2
  csn : ∀ x (h : x < es.length), x < k → es[x] % 3 ≠ 0 → (S.tx (x + 1)).csn = cnt es x + 1
  snap : ∀ x (_ : x < es.length), x < k → (S.tx (x + 1)).snap = cnt es x

theorem numInv_new (es : List Int) : NumInv es 0 LogS.new := ⟨rfl, by rw [cnt_zero]; rfl, fun _ _ h => by omega, fun _ _ h => by omega, fun _ _ h => by omega⟩

section
variable {es : List Int} {k : Nat} {S : LogS} (r : Bool)
theorem NumInv.tx_new (h : NumInv es k S) : (S.begin' r).tx (k + 1) = ⟨1, 0, S.clock, r⟩ := by rw [tx_begin, if_pos (by rw [h.len])]
theorem NumInv.runs (h : NumInv es k S) : (S.begin' r).runs ((k : Int) + 1) = true := by
  unfold LogS.runs
  rw [len_begin, h.len, show ((k : Int) + 1).toNat = k + 1 by omega, h.tx_new r]
  simp
  omega
theorem NumInv.abort (h : NumInv es k S) (hk : k < es.length) (he : es[k] % 3 = 0) : NumInv es (k + 1) ((S.begin' r).abort (k + 1)) := by
  have htx : ∀ x, ((S.begin' r).abort (k + 1)).tx x = if x = k + 1 then ⟨3, 0, S.clock, r⟩ else S.tx x := fun x => by
    unfold LogS.abort
    rw [tx_put _ _ _ _ (by omega) (by rw [len_begin, h.len]; exact Nat.le_refl _), h.tx_new r]
    by_cases e : x = k + 1
    · rw [if_pos e, if_pos e]
    · rw [if_neg e, if_neg e, tx_begin, if_neg (by rw [h.len]; exact e)]
  refine ⟨by rw [LogS.abort, len_put, len_begin, h.len], ?_, fun x hx hlt => ?_, fun x hx hlt hne => ?_, fun x hx hlt => ?_⟩
  · rw [cnt_succ es k hk, if_pos he]; exact h.clock
  · rw [htx]
    by_cases e : x = k
    · subst e; rw [if_pos rfl, if_pos he]
    · rw [if_neg (by omega)]; exact h.state x hx (by omega)
  · rw [htx]
    by_cases e : x = k
    · subst e; exact absurd he hne
    · rw [if_neg (by omega)]; exact h.csn x hx (by omega) hne
  · rw [htx]
    by_cases e : x = k
    · subst e; rw [if_pos rfl]; exact h.clock
    · rw [if_neg (by omega)]; exact h.snap x hx (by omega)
theorem NumInv.commit (h : NumInv es k S) (hk : k < es.length) (he : es[k] % 3 ≠ 0) : NumInv es (k + 1) ((S.begin' r).commit (k + 1)) := by
  have htx : ∀ x, ((S.begin' r).commit (k + 1)).tx x = if x = k + 1 then ⟨2, S.clock + 1, S.clock, r⟩ else S.tx x := fun x => by
    unfold LogS.commit
    rw [tx_put _ _ _ _ (by omega) (by rw [len_begin, h.len]; exact Nat.le_refl _), h.tx_new r]
    by_cases e : x = k + 1
    · rw [if_pos e, if_pos e]; rfl
    · rw [if_neg e, if_neg e, tx_begin, if_neg (by rw [h.len]; exact e)]
  refine ⟨by rw [LogS.commit, len_put, len_begin, h.len], ?_, fun x hx hlt => ?_, fun x hx hlt hne => ?_, fun x hx hlt => ?_⟩
  · rw [cnt_succ es k hk, if_neg he]
    show S.clock + 1 = _
    rw [h.clock]; omega
  · rw [htx]
    by_cases e : x = k
    · subst e; rw [if_pos rfl, if_neg he]
    · rw [if_neg (by omega)]; exact h.state x hx (by omega)
  · rw [htx]
    by_cases e : x = k
    · subst e; rw [if_pos rfl, ← h.clock]
    · rw [if_neg (by omega)]; exact h.csn x hx (by omega) hne
  · rw [htx]
    by_cases e : x = k
    · subst e; rw [if_pos rfl]; exact h.clock
    · rw [if_neg (by omega)]; exact h.snap x hx (by omega)

theorem NumInv.sees (h : NumInv es es.length S) (a b : Nat) (ha : a < es.length) (hb : b < a) :
    S.sees ((a : Int) + 1) ((b : Int) + 1) = (es[b] % 3 != 0) := by
  unfold LogS.sees LogS.has
  rw [show ((a : Int) + 1).toNat = a + 1 by omega, show ((b : Int) + 1).toNat = b + 1 by omega, h.len, h.state b (by omega) (by omega), h.snap a ha ha]
  rw [decide_eq_true (by omega), decide_eq_true (by omega)]
  have hm := cnt_mono es (b + 1) a (by omega)
  rw [cnt_succ es b (by omega)] at hm
  by_cases e : es[b] % 3 = 0
  · rw [if_pos e]
    simp [e]
    omega
  · rw [if_neg e, h.csn b (by omega) (by omega) e]
    rw [if_neg e] at hm
    have : decide ((cnt es b : Int) + 1 ≤ cnt es a) = true := decide_eq_true (by omega)
    rw [this]
    simp [e]
theorem NumInv.sees' (h : NumInv es es.length S) (a b : Nat) (ha : a < es.length) (hb : b < a) :
    S.sees ((b : Int) + 1) ((a : Int) + 1) = false := by
  unfold LogS.sees LogS.has
  rw [show ((a : Int) + 1).toNat = a + 1 by omega, show ((b : Int) + 1).toNat = b + 1 by omega, h.len, h.state a ha ha, h.snap b (by omega) (by omega)]
  rw [decide_eq_true (by omega), decide_eq_true (by omega)]
  have hm := cnt_mono es b a (by omega)
  have hne : ((b : Int) + 1 == (a : Int) + 1) = false := by simp; omega
  rw [hne]
  by_cases e : es[a] % 3 = 0
  · rw [if_pos e]; rfl
  · rw [if_neg e, h.csn a ha ha e, decide_eq_false (by omega)]; rfl
theorem NumInv.beside (h : NumInv es es.length S) (a b : Nat) (ha : a < es.length) (hb : b < a) :
    S.beside ((a : Int) + 1) ((b : Int) + 1) = false := by
  unfold LogS.beside
  rw [h.sees a b ha hb, h.sees' a b ha hb, show ((b : Int) + 1).toNat = b + 1 by omega, h.state b (by omega) (by omega)]
  by_cases e : es[b] % 3 = 0
  · rw [if_pos e]; simp
  · rw [if_neg e]; simp [e]
theorem NumInv.run (h : NumInv es es.length S) (k : Nat) (hk : k ≤ es.length) : S.runL k = [] := by
  induction k with
  | zero => rfl
  | succ k ih =>
    unfold LogS.runL
    rw [ih (by omega), h.state k (by omega) (by omega)]
    by_cases e : es[k]'(by omega) % 3 = 0
    · rw [if_pos e]; rfl
    · rw [if_neg e]; rfl
end
end Go.Proofs.Ytobdooojdadgpaa
