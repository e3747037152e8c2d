/- Plain facts for the law ClogBeginning. No Go in sight. -/
import Derived.Test.YtobdooojdadgpaaClogF
namespace Go.Proofs.Ytobdooojdadgpaa
open Go.RowKit

/-- What the log is, where o lists all that were committed, one behind the other. -/
structure BegInv (S : LogS) (o : List Int) : Prop where
  clock : S.clock = o.length
  ord : ∀ k (h : k < o.length), 1 ≤ o[k] ∧ o[k] ≤ S.l.length ∧ (S.tx o[k].toNat).state = 2 ∧ (S.tx o[k].toNat).csn = k + 1
  snap : ∀ a b, 1 ≤ a → a ≤ b → b ≤ S.l.length → (S.tx a).snap ≤ (S.tx b).snap
  snapc : ∀ a, 1 ≤ a → a ≤ S.l.length → 0 ≤ (S.tx a).snap ∧ (S.tx a).snap ≤ S.clock

theorem begInv_new : BegInv LogS.new [] := ⟨rfl, fun k h => by simp at h, fun a b _ h1 h2 => by simp [LogS.new] at h2; omega, fun a h1 h2 => by simp [LogS.new] at h2; omega⟩

section
variable {S : LogS} {o : List Int}

theorem BegInv.begin' (h : BegInv S o) (r : Bool) : BegInv (S.begin' r) o := by
  refine ⟨h.clock, fun k hk => ?_, fun a b h1 h2 h3 => ?_, fun a h1 h2 => ?_⟩
  · obtain ⟨h1, h2, h3, h4⟩ := h.ord k hk
    rw [tx_begin, if_neg (by omega), len_begin]
    exact ⟨h1, by omega, h3, h4⟩
  · rw [len_begin] at h3
    rw [tx_begin, tx_begin]
    by_cases e : a = S.l.length + 1
    · rw [if_pos e, if_pos (by omega)]; exact Int.le_refl _
    · rw [if_neg e]
      by_cases e2 : b = S.l.length + 1
      · rw [if_pos e2]; exact (h.snapc a h1 (by omega)).2
      · rw [if_neg e2]; exact h.snap a b h1 h2 (by omega)
  · rw [len_begin] at h2
    rw [tx_begin]
    by_cases e : a = S.l.length + 1
    · rw [if_pos e]
      have := h.clock
      exact ⟨by show 0 ≤ S.clock; omega, Int.le_refl _⟩
    · rw [if_neg e]; exact h.snapc a h1 (by omega)

theorem BegInv.put (h : BegInv S o) (x : Nat) (t : Tx) (c : Int) (h1 : 1 ≤ x) (h2 : x ≤ S.l.length) (hs : (S.tx x).state = 1) (ht : t.snap = (S.tx x).snap) (hc : S.clock ≤ c) :
    (∀ k (hk : k < o.length), 1 ≤ o[k] ∧ o[k] ≤ (S.put x t c).l.length ∧ ((S.put x t c).tx o[k].toNat).state = 2 ∧ ((S.put x t c).tx o[k].toNat).csn = k + 1) ∧
    (∀ a b, 1 ≤ a → a ≤ b → b ≤ (S.put x t c).l.length → ((S.put x t c).tx a).snap ≤ ((S.put x t c).tx b).snap) ∧
    (∀ a, 1 ≤ a → a ≤ (S.put x t c).l.length → 0 ≤ ((S.put x t c).tx a).snap ∧ ((S.put x t c).tx a).snap ≤ c) := by
  have hsn : ∀ y, ((S.put x t c).tx y).snap = (S.tx y).snap := fun y => by
    rw [tx_put S x t c h1 h2]
    by_cases e : y = x
    · rw [if_pos e, ht, e]
    · rw [if_neg e]
  refine ⟨fun k hk => ?_, fun a b h3 h4 h5 => ?_, fun a h3 h4 => ?_⟩
  · obtain ⟨g1, g2, g3, g4⟩ := h.ord k hk
    rw [len_put, tx_put S x t c h1 h2, if_neg (fun e => by rw [e, hs] at g3; omega)]
    exact ⟨g1, g2, g3, g4⟩
  · rw [hsn, hsn]; exact h.snap a b h3 h4 (by rw [len_put] at h5; exact h5)
  · rw [hsn]
    have := h.snapc a h3 (by rw [len_put] at h4; exact h4)
    omega

theorem BegInv.abort (h : BegInv S o) (x : Int) (hr : S.runs x = true) : BegInv (S.abort x.toNat) o := by
  obtain ⟨h1, h2, h3⟩ := runs_spec hr
  obtain ⟨a, b, c⟩ := h.put x.toNat ⟨3, (S.tx x.toNat).csn, (S.tx x.toNat).snap, (S.tx x.toNat).reads⟩ S.clock (by omega) (by omega) h3 rfl (Int.le_refl _)
  exact ⟨h.clock, a, b, c⟩

theorem BegInv.commit (h : BegInv S o) (x : Int) (hr : S.runs x = true) : BegInv (S.commit x.toNat) (o ++ [x]) := by
  obtain ⟨h1, h2, h3⟩ := runs_spec hr
  obtain ⟨a, b, c⟩ := h.put x.toNat ⟨2, S.clock + 1, (S.tx x.toNat).snap, (S.tx x.toNat).reads⟩ (S.clock + 1) (by omega) (by omega) h3 rfl (by omega)
  have hnew : (S.commit x.toNat).tx x.toNat = ⟨2, S.clock + 1, (S.tx x.toNat).snap, (S.tx x.toNat).reads⟩ := by
    rw [LogS.commit, tx_put _ _ _ _ (by omega) (by omega), if_pos rfl]
  have hlen : (S.commit x.toNat).l.length = S.l.length := by rw [LogS.commit, len_put]
  refine ⟨?_, fun k hk => ?_, b, c⟩
  · show S.clock + 1 = _
    rw [h.clock]; simp
  · by_cases e : k < o.length
    · rw [List.getElem_append_left e]; exact a k e
    · have hke : k = o.length := by simp at hk; omega
      subst hke
      rw [List.getElem_append_right (Nat.le_refl _)]
      simp only [Nat.sub_self, List.getElem_cons_zero]
      rw [hnew, hlen]
      exact ⟨h1, h2, rfl, by rw [h.clock]⟩

theorem has_of {S : LogS} {x : Int} (h1 : 1 ≤ x) (h2 : x ≤ S.l.length) : S.has x = true := decide_eq_true ⟨h1, h2⟩

theorem BegInv.sees (h : BegInv S o) (a : Int) (h1 : 1 ≤ a) (h2 : a ≤ S.l.length) (k : Nat) (hk : k < o.length) (hne : (o[k] == a) = false) :
    S.sees a o[k] = decide ((k : Int) < (S.tx a.toNat).snap) := by
  obtain ⟨g1, g2, g3, g4⟩ := h.ord k hk
  unfold LogS.sees
  rw [has_of h1 h2, has_of g1 g2, g3, g4]
  have : (a == o[k]) = false := by rw [beq_eq_false_iff_ne] at hne ⊢; exact fun e => hne e.symm
  rw [this]
  simp [Int.add_one_le_iff]

theorem sees_done (S : LogS) (a b : Int) (h : S.sees a b = true) (hne : (b != a) = true) : (S.tx b.toNat).state = 2 := by
  unfold LogS.sees at h
  have : (a == b) = false := by simp at hne ⊢; exact fun e => hne e.symm
  rw [this] at h
  simp at h
  exact h.2.1
theorem beside_both (S : LogS) (a b : Int) : S.beside a b = S.beside b a := by
  unfold LogS.beside
  have : (a == b) = (b == a) := by rw [Bool.eq_iff_iff, beq_iff_eq, beq_iff_eq]; exact eq_comm
  rw [this]
  cases S.has a <;> cases S.has b <;> cases (b == a) <;> cases ((S.tx a.toNat).state == 3) <;> cases ((S.tx b.toNat).state == 3) <;> cases S.sees a b <;> cases S.sees b a <;> rfl
end
end Go.Proofs.Ytobdooojdadgpaa
