/- Replies as bytes: the plain part. No program is walked here. -/
import Derived.Test.YtmgpecomgffelaaCodM
import Derived.Test.YtmgpecomgffelaaRowH
namespace Go.Proofs.Ytmgpecomgffelaa
open Go.RowKit
set_option linter.unusedVariables false
theorem rp_ok {s : ByteArray} {a : Nat} {v : Val} {n : Nat} (h : gotA s a = some (v, n)) : v.ok := by
  obtain ⟨_, m, _, hr, _⟩ := gotA_some h
  clear h
  have z1 : (-9223372036854775808 : Int) ≤ 0 := by decide
  have z2 : (0 : Int) < 9223372036854775808 := by decide
  have z3 : 0 < two64 := by decide
  have z : (⟨0, 0, 0, ⟨#[]⟩⟩ : Val).ok := ⟨⟨z1, z2⟩, z3⟩
  have h := hr
  unfold rawV at h
  by_cases h0 : sAt s a = 0
  · rw [if_pos h0] at h
    injection h with h; injection h with e1 e2; subst e1
    exact z
  rw [if_neg h0] at h
  by_cases h1 : sAt s a = 1
  · rw [if_pos h1] at h
    split at h
    · injection h with h; injection h with e1 e2; subst e1
      have := sAt_lt s (a + 1)
      exact ⟨⟨by show _ ≤ ((sAt s (a + 1) : Nat) : Int); omega, by show ((sAt s (a + 1) : Nat) : Int) < _; omega⟩, z3⟩
    · exact absurd h (by simp)
  rw [if_neg h1] at h
  by_cases h2 : sAt s a = 2
  · rw [if_pos h2] at h
    split at h
    · injection h with h; injection h with e1 e2; subst e1
      exact ⟨sg_bd _, z3⟩
    · exact absurd h (by simp)
  rw [if_neg h2] at h
  by_cases h3 : sAt s a = 3
  · rw [if_pos h3] at h
    split at h
    · injection h with h; injection h with e1 e2; subst e1
      exact ⟨⟨z1, z2⟩, fromF_lt _ (numB_lt s (a + 1) 8)⟩
    · exact absurd h (by simp)
  rw [if_neg h3] at h
  by_cases h4 : sAt s a = 4
  · rw [if_pos h4] at h
    split at h
    · injection h with h; injection h with e1 e2; subst e1
      exact ⟨⟨z1, z2⟩, z3⟩
    · exact absurd h (by simp)
  · rw [if_neg h4] at h
    exact absurd h (by simp)
theorem gotA_out (s : ByteArray) (a : Nat) (h : s.size ≤ a) : gotA s a = none := by unfold gotA; rw [if_neg (by omega)]
theorem gotA_suffix (s : ByteArray) (q a : Nat) (hq : q ≤ s.size) : gotA (s.extract q s.size) a = gotA s (q + a) := by
  have hz : (s.extract q s.size).size = s.size - q := size_extract _ _ _ (Nat.le_refl _)
  by_cases ha : a < s.size - q
  · rw [gotA_bod _ a (by rw [hz]; exact ha), gotA_bod s (q + a) (by omega), sAt_extract _ _ _ _ (Nat.le_refl _) ha, hz, extract_extract _ _ _ _ _ (Nat.le_refl _) (Nat.le_refl _) (by omega)]
    have e1 : q + (a + 1) = q + a + 1 := by omega
    have e2 : q + (s.size - q) = s.size := by omega
    rw [e1, e2]
  · rw [gotA_out _ _ (by rw [hz]; omega), gotA_out _ _ (by omega)]
theorem seqA_suffix (s : ByteArray) (q a : Nat) (hq : q + a ≤ s.size) (k : Nat) : seqA (s.extract q s.size) a k = (seqA s (q + a) k).map fun x => (x.1, x.2 - q) := by
  induction k with
  | zero =>
    rw [seqA, seqA]
    simp
  | succ k ih =>
    cases hk : seqA s (q + a) k with
    | none =>
      rw [hk] at ih
      rw [seqA, seqA, hk, ih]
      rfl
    | some x =>
      obtain ⟨l, e⟩ := x
      rw [hk] at ih
      obtain ⟨_, h2, h3, _, _⟩ := seqA_ok s (q + a) hq k l e hk
      rw [seqA_succ _ _ _ _ _ ih, seqA_succ _ _ _ _ _ hk, gotA_suffix s q (e - q) (by omega)]
      have e1 : q + (e - q) = e := by omega
      rw [e1]
      cases hg : gotA s e with
      | none => rfl
      | some y =>
        obtain ⟨v, n⟩ := y
        simp only [Option.bind_some, Option.map_some]
        have e2 : e - q + n = e + n - q := by omega
        rw [e2]
theorem gotA_of {t u : ByteArray} {a : Nat} {v : Val} {n : Nat} (h : gotA t a = some (v, n)) (b : Nat) (hu : b + n ≤ u.size) (hb : ∀ i, i < n → sAt u (b + i) = sAt t (a + i)) : gotA u b = some (v, n) := by
  obtain ⟨h1, h2, h3, h4⟩ := enc_got h
  have hok := rp_ok h
  have hz : (encV v.kind v.n v.f v.s).size = n := by rw [h4, size_extract _ _ _ h1]; omega
  have := got_enc v h3 hok.1.1 hok.1.2 hok.2 u b (by rw [hz]; exact hu) (fun i hi => by
    rw [hz] at hi
    rw [h4, hb i hi, sAt_extract _ _ _ _ h1 (by omega)])
  rw [hz] at this
  exact this
theorem seqA_of {t u : ByteArray} {a k : Nat} {l : List Val} {e : Nat} (h : seqA t a k = some (l, e)) (ha : a ≤ t.size) (hu : e ≤ u.size) (hb : ∀ i, a ≤ i → i < e → sAt u i = sAt t i) : seqA u a k = some (l, e) := by
  induction k generalizing l e with
  | zero => rw [seqA] at h ⊢; exact h
  | succ k ih =>
    cases hk : seqA t a k with
    | none => rw [seqA, hk] at h; exact absurd h (by simp)
    | some x =>
      obtain ⟨l0, e0⟩ := x
      rw [seqA_succ _ _ _ _ _ hk] at h
      obtain ⟨_, h2, h3, _, _⟩ := seqA_ok t a ha k l0 e0 hk
      cases hg : gotA t e0 with
      | none => rw [hg] at h; exact absurd h (by simp)
      | some y =>
        obtain ⟨v, n⟩ := y
        rw [hg] at h
        simp only [Option.bind_some] at h
        injection h with h; injection h with e1 e2
        subst e1; subst e2
        obtain ⟨g1, g2, _, _⟩ := enc_got hg
        have i1 := ih hk (by omega) (fun i h5 h6 => hb i h5 (by omega))
        have i2 := gotA_of hg e0 hu (fun i hi => hb (e0 + i) (by omega) (by omega))
        rw [seqA_succ _ _ _ _ _ i1, i2]
        rfl
/-- Rows one behind the other, and where they end. -/
def rowsA (s : ByteArray) (a : Nat) : Nat → Option (List (List Val) × Nat)
  | 0 => some ([], a)
  | k + 1 => (rowsA s a k).bind fun x => (takA s x.2).bind fun y => some (x.1 ++ [y.1], y.2)
theorem rowsA_succ (s : ByteArray) (a k : Nat) (l : List (List Val)) (e : Nat) (h : rowsA s a k = some (l, e)) : rowsA s a (k + 1) = (takA s e).bind fun y => some (l ++ [y.1], y.2) := by
  rw [rowsA, h]; rfl
theorem rowsA_none (s : ByteArray) (a k : Nat) (h : rowsA s a k = none) : ∀ n, k ≤ n → rowsA s a n = none := by
  intro n hn
  induction n with
  | zero => obtain rfl : k = 0 := by omega
            exact h
  | succ n ih =>
    rcases Nat.lt_or_ge n k with h1 | h1
    · obtain rfl : k = n + 1 := by omega
      exact h
    · rw [rowsA, ih h1]; rfl
theorem rowsA_end (s : ByteArray) (a k : Nat) (l : List (List Val)) (e : Nat) (h : rowsA s a k = some (l, e)) (hg : takA s e = none) (n : Nat) (hn : k < n) : rowsA s a n = none := by
  have h1 : rowsA s a (k + 1) = none := by rw [rowsA_succ _ _ _ _ _ h, hg]; rfl
  exact rowsA_none s a (k + 1) h1 n hn
def catL (ls : List (List Val)) : ByteArray := ls.foldl (fun b l => b ++ rowB l) ⟨#[]⟩
theorem catL_snoc (ls : List (List Val)) (l : List Val) : catL (ls ++ [l]) = catL ls ++ rowB l := by unfold catL; rw [List.foldl_append]; rfl
theorem rowG_iff (l : List Val) : rowG l = true ↔ l.length ≤ 6 ∧ l.all gd = true := by
  unfold rowG
  rw [Bool.and_eq_true, decide_eq_true_eq]
theorem rowsA_ok (s : ByteArray) (a : Nat) (ha : a ≤ s.size) : ∀ (k : Nat) (ls : List (List Val)) (e : Nat), rowsA s a k = some (ls, e) → ls.length = k ∧ a ≤ e ∧ e ≤ s.size ∧ ls.all rowG = true ∧ catL ls = s.extract a e := by
  intro k
  induction k with
  | zero =>
    intro ls e h
    rw [rowsA] at h
    injection h with h; injection h with h1 h2
    subst h1; subst h2
    refine ⟨rfl, Nat.le_refl _, ha, rfl, ext_sAt (by rw [size_extract _ _ _ ha, Nat.sub_self]; rfl) fun i hi => absurd hi (by show ¬ i < 0; omega)⟩
  | succ k ih =>
    intro ls e h
    cases hk : rowsA s a k with
    | none => rw [rowsA, hk] at h; exact absurd h (by simp)
    | some x =>
      obtain ⟨l0, e0⟩ := x
      rw [rowsA_succ _ _ _ _ _ hk] at h
      obtain ⟨i1, i2, i3, i4, i5⟩ := ih l0 e0 hk
      cases hg : takA s e0 with
      | none => rw [hg] at h; exact absurd h (by simp)
      | some y =>
        obtain ⟨l, e1⟩ := y
        rw [hg] at h
        simp only [Option.bind_some] at h
        injection h with h; injection h with h1 h2
        subst h1; subst h2
        obtain ⟨g1, g2, g3, g4, g5⟩ := takA_bd hg
        refine ⟨by simp [i1], by omega, g2, ?_, ?_⟩
        · rw [List.all_append, i4, List.all_cons, List.all_nil, (rowG_iff l).2 ⟨g3, g4⟩]; rfl
        · rw [catL_snoc, i5, g5]
          exact cat_extract _ _ _ _ i2 (by omega) g2
theorem rowsA_okv (s : ByteArray) (a : Nat) (ha : a ≤ s.size) : ∀ (k : Nat) (ls : List (List Val)) (e : Nat), rowsA s a k = some (ls, e) → ∀ l ∈ ls, ∀ v ∈ l, v.f < two64 := by
  have hseq : ∀ (a k : Nat) (l : List Val) (e : Nat), seqA s a k = some (l, e) → ∀ v ∈ l, v.f < two64 := by
    intro a k
    induction k with
    | zero =>
      intro l e h v hv
      rw [seqA] at h
      injection h with h; injection h with h1 h2
      subst h1
      exact absurd hv (by simp)
    | succ k ih =>
      intro l e h v hv
      cases hk : seqA s a k with
      | none => rw [seqA, hk] at h; exact absurd h (by simp)
      | some x =>
        obtain ⟨l0, e0⟩ := x
        rw [seqA_succ _ _ _ _ _ hk] at h
        cases hg : gotA s e0 with
        | none => rw [hg] at h; exact absurd h (by simp)
        | some y =>
          obtain ⟨u, n⟩ := y
          rw [hg] at h
          simp only [Option.bind_some] at h
          injection h with h; injection h with h1 h2
          subst h1
          rcases List.mem_append.1 hv with hv | hv
          · exact ih l0 e0 hk v hv
          · obtain rfl := List.mem_singleton.1 hv
            exact (rp_ok hg).2
  intro k
  induction k with
  | zero =>
    intro ls e h l hl
    rw [rowsA] at h
    injection h with h; injection h with h1 h2
    subst h1
    exact absurd hl (by simp)
  | succ k ih =>
    intro ls e h l hl v hv
    cases hk : rowsA s a k with
    | none => rw [rowsA, hk] at h; exact absurd h (by simp)
    | some x =>
      obtain ⟨l0, e0⟩ := x
      rw [rowsA_succ _ _ _ _ _ hk] at h
      cases hg : takA s e0 with
      | none => rw [hg] at h; exact absurd h (by simp)
      | some y =>
        obtain ⟨l1, e1⟩ := y
        rw [hg] at h
        simp only [Option.bind_some] at h
        injection h with h; injection h with h1 h2
        subst h1
        rcases List.mem_append.1 hl with hl | hl
        · exact ih l0 e0 hk l hl v hv
        · obtain rfl := List.mem_singleton.1 hl
          unfold takA at hg
          split at hg
          · exact hseq _ _ _ _ hg v hv
          · exact absurd hg (by simp)
/-- Where a row's bytes end that a text begins with; below 0: nowhere. -/
def longV (t : ByteArray) : Int := if 0 < t.size then (match seqA t 1 (sAt t 0) with | some x => (x.2 : Int) | none => -1) else -1
theorem longV_some {t : ByteArray} (h : 0 < t.size) {l : List Val} {e : Nat} (hs : seqA t 1 (sAt t 0) = some (l, e)) : longV t = e := by
  unfold longV
  rw [if_pos h, hs]
theorem longV_none {t : ByteArray} (h : 0 < t.size) (hs : seqA t 1 (sAt t 0) = none) : longV t = -1 := by
  unfold longV
  rw [if_pos h, hs]
theorem longV_empty {t : ByteArray} (h : ¬ 0 < t.size) : longV t = -1 := by
  unfold longV
  rw [if_neg h]
theorem vals_pre {t : ByteArray} {l : List Val} {e : Nat} (h : 0 < t.size) (hs : seqA t 1 (sAt t 0) = some (l, e)) : valsO (t.extract 0 e) = if sAt t 0 ≤ 6 then some l else none := by
  obtain ⟨_, h2, h3, _, _⟩ := seqA_ok t 1 (by omega) _ l e hs
  have hz : (t.extract 0 e).size = e := by rw [size_extract _ _ _ h3]; omega
  have h0 : sAt (t.extract 0 e) 0 = sAt t 0 := by rw [sAt_extract _ _ _ _ h3 (by omega)]
  by_cases h6 : sAt t 0 ≤ 6
  · rw [if_pos h6, valsO_seq _ ⟨by rw [hz]; omega, by rw [h0]; exact h6⟩, h0]
    have := seqA_of hs (by omega) (u := t.extract 0 e) (by rw [hz]; exact Nat.le_refl _) (fun i _ hi => by rw [sAt_extract _ _ _ _ h3 (by omega), Nat.zero_add])
    rw [this, Option.bind_some, hz]
    exact if_pos rfl
  · rw [if_neg h6]
    exact valsO_none0 _ fun h => h6 (by rw [← h0]; exact h.2)
/-- A step of the program's loop, and of the reference's. -/
theorem step_none (b : ByteArray) (q : Nat) (hq : q ≤ b.size) (h : takA b q = none) : longV (b.extract q b.size) = -1 ∨ (0 ≤ longV (b.extract q b.size) ∧ longV (b.extract q b.size) ≤ ((b.extract q b.size).size : Int) ∧ valsO ((b.extract q b.size).extract 0 (longV (b.extract q b.size)).toNat) = none) := by
  have hz : (b.extract q b.size).size = b.size - q := size_extract _ _ _ (Nat.le_refl _)
  by_cases hlt : q < b.size
  · have hpos : 0 < (b.extract q b.size).size := by omega
    have h0 : sAt (b.extract q b.size) 0 = sAt b q := by rw [sAt_extract _ _ _ _ (Nat.le_refl _) (by omega), Nat.add_zero]
    cases hs : seqA (b.extract q b.size) 1 (sAt (b.extract q b.size) 0) with
    | none => exact Or.inl (longV_none hpos hs)
    | some x =>
      obtain ⟨l, e⟩ := x
      have hl := longV_some hpos hs
      obtain ⟨_, _, h3, _, _⟩ := seqA_ok _ 1 (by omega) _ l e hs
      refine Or.inr ⟨by rw [hl]; omega, by rw [hl]; omega, ?_⟩
      rw [hl, Int.toNat_natCast, vals_pre hpos hs, h0]
      by_cases h6 : sAt b q ≤ 6
      · have hsx := seqA_suffix b q 1 (by omega) (sAt b q)
        unfold takA at h
        rw [if_pos ⟨hlt, h6⟩] at h
        rw [h] at hsx
        rw [h0, hsx] at hs
        exact absurd hs (by simp)
      · exact if_neg h6
  · exact Or.inl (longV_empty (by omega))
theorem step_some (b : ByteArray) (q : Nat) {l : List Val} {e : Nat} (h : takA b q = some (l, e)) : longV (b.extract q b.size) = ((e - q : Nat) : Int) ∧ valsO ((b.extract q b.size).extract 0 (e - q)) = some l ∧ (b.extract q b.size).extract (e - q) (b.extract q b.size).size = b.extract e b.size := by
  obtain ⟨g1, g2, g3, g4, g5⟩ := takA_bd h
  have hz : (b.extract q b.size).size = b.size - q := size_extract _ _ _ (Nat.le_refl _)
  have hpos : 0 < (b.extract q b.size).size := by omega
  have h0 : sAt (b.extract q b.size) 0 = sAt b q := by rw [sAt_extract _ _ _ _ (Nat.le_refl _) (by omega), Nat.add_zero]
  have h' := h
  unfold takA at h'
  split at h'
  · rename_i hc
    have hsx := seqA_suffix b q 1 (by omega) (sAt b q)
    rw [h'] at hsx
    rw [← h0] at hsx
    simp only [Option.map_some] at hsx
    refine ⟨longV_some hpos hsx, ?_, ?_⟩
    · rw [vals_pre hpos hsx, h0, if_pos hc.2]
    · rw [hz, extract_extract _ _ _ _ _ (Nat.le_refl _) (Nat.le_refl _) (by omega)]
      congr 1 <;> omega
  · exact absurd h' (by simp)
/-! ### replies -/
structure Rep where
  code : Int
  n : Int
  rows : List (List Val)
def goodR (r : Rep) : Bool := decide (0 ≤ r.code ∧ r.code ≤ 1000) && (decide (0 ≤ r.n ∧ r.n ≤ 65535) && (decide (r.rows.length ≤ 512) && r.rows.all rowG))
theorem goodR_iff (r : Rep) : goodR r = true ↔ (0 ≤ r.code ∧ r.code ≤ 1000) ∧ (0 ≤ r.n ∧ r.n ≤ 65535) ∧ r.rows.length ≤ 512 ∧ r.rows.all rowG = true := by
  unfold goodR
  rw [Bool.and_eq_true, Bool.and_eq_true, Bool.and_eq_true, decide_eq_true_eq, decide_eq_true_eq, decide_eq_true_eq]
def two (n : Nat) : ByteArray := bs [n / 256, n % 256]
def headR (r : Rep) : ByteArray := two r.code.toNat ++ two r.n.toNat ++ two r.rows.length
def encR (r : Rep) : ByteArray := headR r ++ catL r.rows
def repS (r : Rep) : ByteArray := if goodR r then encR r else ⟨#[]⟩
def repE (r : Rep) : Int := if goodR r then 0 else 11
def R0 : Rep := ⟨0, 0, []⟩
def decR (b : ByteArray) : Option Rep :=
  if 6 ≤ b.size then (rowsA b 6 (numB b 4 2)).bind fun x => if x.2 = b.size ∧ goodR ⟨numB b 0 2, numB b 2 2, x.1⟩ = true then some ⟨numB b 0 2, numB b 2 2, x.1⟩ else none else none
def repV (b : ByteArray) : Rep := (decR b).getD R0
def repX (b : ByteArray) : Int := if (decR b).isSome then 0 else 11
theorem two_size (n : Nat) : (two n).size = 2 := bs_size _
theorem head_size (r : Rep) : (headR r).size = 6 := by
  unfold headR
  rw [ByteArray.size_append, ByteArray.size_append, two_size, two_size, two_size]
theorem two_at (b : ByteArray) (a : Nat) (h : a + 2 ≤ b.size) : two (numB b a 2) = b.extract a (a + 2) := by
  unfold two
  rw [bs_two _ (numB_lt b a 2), be_numB b a 2 h]
theorem num_two (t : ByteArray) (a n : Nat) (hn : n < 65536) (h : ∀ i, i < 2 → sAt t (a + i) = sAt (two n) i) : numB t a 2 = n := by
  refine numB_of t a 2 n hn fun i hi => ?_
  rw [h i hi]
  unfold two
  rw [bs_two n hn, sAt_be _ _ _ hi]
theorem decR_iff (b : ByteArray) (r : Rep) : decR b = some r ↔ 6 ≤ b.size ∧ rowsA b 6 (numB b 4 2) = some (r.rows, b.size) ∧ r.code = numB b 0 2 ∧ r.n = numB b 2 2 ∧ goodR r = true := by
  unfold decR
  constructor
  · intro h
    split at h
    · rename_i h6
      cases hr : rowsA b 6 (numB b 4 2) with
      | none => rw [hr] at h; exact absurd h (by simp)
      | some x =>
        obtain ⟨ls, e⟩ := x
        rw [hr, Option.bind_some] at h
        split at h
        · rename_i hc
          obtain ⟨hc1, hc2⟩ := hc
          injection h with h
          subst h
          simp only at hc1 hc2
          subst hc1
          exact ⟨h6, rfl, rfl, rfl, hc2⟩
        · exact absurd h (by simp)
    · exact absurd h (by simp)
  · rintro ⟨h1, h2, h3, h4, h5⟩
    obtain ⟨c, n, ls⟩ := r
    simp only at h2 h3 h4
    subst h3; subst h4
    rw [if_pos h1, h2, Option.bind_some, if_pos ⟨rfl, h5⟩]
/-- What was decoded is encoded as it stood. -/
theorem enc_decR {b : ByteArray} {r : Rep} (h : decR b = some r) : goodR r = true ∧ encR r = b := by
  obtain ⟨h1, h2, h3, h4, h5⟩ := (decR_iff b r).1 h
  obtain ⟨g1, g2, g3, g4, g5⟩ := rowsA_ok b 6 h1 _ _ _ h2
  refine ⟨h5, ?_⟩
  unfold encR headR
  rw [h3, h4, Int.toNat_natCast, Int.toNat_natCast, g1, two_at b 0 (by omega), two_at b 2 (by omega), two_at b 4 (by omega), cat_extract b 0 (0 + 2) (2 + 2) (by omega) (by omega) (by omega), cat_extract b 0 (2 + 2) (4 + 2) (by omega) (by omega) (by omega), g5, cat_extract b 0 (4 + 2) b.size (by omega) (by omega) (by omega)]
  refine ext_sAt (by rw [size_extract _ _ _ (Nat.le_refl _)]; omega) fun i hi => ?_
  rw [size_extract _ _ _ (Nat.le_refl _)] at hi
  rw [sAt_extract _ _ _ _ (Nat.le_refl _) hi, Nat.zero_add]
/-- A good row that stands at a place is taken there. -/
theorem seq_enc (l : List Val) (hg : l.all gd = true) (hk : ∀ v ∈ l, v.ok) (t : ByteArray) (a : Nat) (hs : a + (encL l).size ≤ t.size) (hb : ∀ i, i < (encL l).size → sAt t (a + i) = sAt (encL l) i) : seqA t a l.length = some (l, a + (encL l).size) := by
  have H : ∀ k, k ≤ l.length → (encL (l.take k)).size ≤ (encL l).size ∧ (∀ i, i < (encL (l.take k)).size → sAt (encL l) i = sAt (encL (l.take k)) i) := by
    intro k hk'
    have e : encL l = encL (l.take k) ++ (l.drop k).foldl (fun b v => b ++ ev v) ⟨#[]⟩ := by
      have h1 : ∀ (m : List Val) (x : ByteArray), m.foldl (fun b v => b ++ ev v) x = x ++ m.foldl (fun b v => b ++ ev v) ⟨#[]⟩ := by
        intro m
        induction m with
        | nil => intro x; exact (append_nil x).symm
        | cons v m ih => intro x; rw [List.foldl_cons, List.foldl_cons, ih (x ++ ev v), ih (⟨#[]⟩ ++ ev v), nil_append', ByteArray.append_assoc]
      have h2 : encL l = (l.take k ++ l.drop k).foldl (fun b v => b ++ ev v) ⟨#[]⟩ := by rw [List.take_append_drop]; rfl
      rw [h2, List.foldl_append, h1]
      rfl
    refine ⟨by rw [e, ByteArray.size_append]; omega, fun i hi => ?_⟩
    conv => lhs; rw [e]
    exact sAt_append_left _ _ _ hi
  have G : ∀ k, k ≤ l.length → seqA t a k = some (l.take k, a + (encL (l.take k)).size) := by
    intro k
    induction k with
    | zero => intro _; rw [seqA]; rfl
    | succ k ih =>
      intro hlt
      have hkl : k < l.length := by omega
      have h1 := ih (by omega)
      have hst : l.take (k + 1) = l.take k ++ [l[k]] := List.take_succ_eq_append_getElem hkl
      have hev : encL (l.take (k + 1)) = encL (l.take k) ++ ev l[k] := by rw [hst, encL_snoc]
      obtain ⟨z1, z2⟩ := H (k + 1) hlt
      have hz : (encL (l.take (k + 1))).size = (encL (l.take k)).size + (ev l[k]).size := by rw [hev, ByteArray.size_append]
      have hok := hk l[k] (List.getElem_mem hkl)
      have hgd : gd l[k] = true := List.all_eq_true.1 hg _ (List.getElem_mem hkl)
      have hgot := got_enc l[k] hgd hok.1.1 hok.1.2 hok.2 t (a + (encL (l.take k)).size) (by show a + (encL (l.take k)).size + (ev l[k]).size ≤ _; omega) (fun i hi => by
        have hi : i < (ev l[k]).size := hi
        rw [Nat.add_assoc, hb _ (by omega), z2 _ (by omega), hev, sAt_append_right])
      rw [seqA_succ _ _ _ _ _ h1, hgot]
      show some (l.take k ++ [l[k]], a + (encL (l.take k)).size + (ev l[k]).size) = _
      rw [← hst, hz, Nat.add_assoc]
  have := G l.length (Nat.le_refl _)
  rw [List.take_length] at this
  exact this
theorem rowB_size (l : List Val) : (rowB l).size = 1 + (encL l).size := by
  unfold rowB
  rw [ByteArray.size_append, bs_size]
  rfl
theorem tak_enc (l : List Val) (hg : rowG l = true) (hk : ∀ v ∈ l, v.ok) (t : ByteArray) (a : Nat) (hs : a + (rowB l).size ≤ t.size) (hb : ∀ i, i < (rowB l).size → sAt t (a + i) = sAt (rowB l) i) : takA t a = some (l, a + (rowB l).size) := by
  obtain ⟨h6, hall⟩ := (rowG_iff l).1 hg
  have hz := rowB_size l
  have h0 : sAt t a = l.length := by
    have := hb 0 (by omega)
    rw [Nat.add_zero] at this
    rw [this]
    unfold rowB
    rw [sAt_append_left _ _ _ (by rw [bs_size]; simp), sAt_bs _ _ (by simp) (by simp; omega)]
    rfl
  have h1 : ∀ j, j < (encL l).size → sAt t (a + 1 + j) = sAt (encL l) j := fun j hj => by
    have := hb (1 + j) (by omega)
    rw [← Nat.add_assoc] at this
    rw [this]
    unfold rowB
    exact sAt_append_right (bs [l.length]) _ j
  unfold takA
  rw [if_pos ⟨by omega, by omega⟩, h0, seq_enc l hall hk t (a + 1) (by omega) h1, hz, Nat.add_assoc]
theorem cat_pre (ls : List (List Val)) (k : Nat) : (catL (ls.take k)).size ≤ (catL ls).size ∧ (∀ i, i < (catL (ls.take k)).size → sAt (catL ls) i = sAt (catL (ls.take k)) i) := by
  have e : catL ls = catL (ls.take k) ++ (ls.drop k).foldl (fun b l => b ++ rowB l) ⟨#[]⟩ := by
    have h1 : ∀ (m : List (List Val)) (x : ByteArray), m.foldl (fun b l => b ++ rowB l) x = x ++ m.foldl (fun b l => b ++ rowB l) ⟨#[]⟩ := by
      intro m
      induction m with
      | nil => intro x; exact (append_nil x).symm
      | cons v m ih => intro x; rw [List.foldl_cons, List.foldl_cons, ih (x ++ rowB v), ih (⟨#[]⟩ ++ rowB v), nil_append', ByteArray.append_assoc]
    have h2 : catL ls = (ls.take k ++ ls.drop k).foldl (fun b l => b ++ rowB l) ⟨#[]⟩ := by rw [List.take_append_drop]; rfl
    rw [h2, List.foldl_append, h1]
    rfl
  refine ⟨by rw [e, ByteArray.size_append]; omega, fun i hi => ?_⟩
  conv => lhs; rw [e]
  exact sAt_append_left _ _ _ hi
theorem rows_enc (ls : List (List Val)) (hg : ls.all rowG = true) (hk : ∀ l ∈ ls, ∀ v ∈ l, v.ok) (t : ByteArray) (a : Nat) (hs : a + (catL ls).size ≤ t.size) (hb : ∀ i, i < (catL ls).size → sAt t (a + i) = sAt (catL ls) i) : rowsA t a ls.length = some (ls, a + (catL ls).size) := by
  have G : ∀ k, k ≤ ls.length → rowsA t a k = some (ls.take k, a + (catL (ls.take k)).size) := by
    intro k
    induction k with
    | zero => intro _; rw [rowsA]; rfl
    | succ k ih =>
      intro hlt
      have hkl : k < ls.length := by omega
      have h1 := ih (by omega)
      have hst : ls.take (k + 1) = ls.take k ++ [ls[k]] := List.take_succ_eq_append_getElem hkl
      have hev : catL (ls.take (k + 1)) = catL (ls.take k) ++ rowB ls[k] := by rw [hst, catL_snoc]
      obtain ⟨z1, z2⟩ := cat_pre ls (k + 1)
      have hz : (catL (ls.take (k + 1))).size = (catL (ls.take k)).size + (rowB ls[k]).size := by rw [hev, ByteArray.size_append]
      have hgd : rowG ls[k] = true := List.all_eq_true.1 hg _ (List.getElem_mem hkl)
      have hgot := tak_enc ls[k] hgd (hk _ (List.getElem_mem hkl)) t (a + (catL (ls.take k)).size) (by omega) (fun i hi => by
        rw [Nat.add_assoc, hb _ (by omega), z2 _ (by omega), hev, sAt_append_right])
      rw [rowsA_succ _ _ _ _ _ h1, hgot]
      show some (ls.take k ++ [ls[k]], a + (catL (ls.take k)).size + (rowB ls[k]).size) = _
      rw [← hst, hz, Nat.add_assoc]
  have := G ls.length (Nat.le_refl _)
  rw [List.take_length] at this
  exact this
/-- What was encoded is decoded as it was. -/
theorem dec_encR (r : Rep) (hg : goodR r = true) (hk : ∀ l ∈ r.rows, ∀ v ∈ l, v.ok) : decR (encR r) = some r := by
  obtain ⟨⟨c1, c2⟩, ⟨n1, n2⟩, hl, hall⟩ := (goodR_iff r).1 hg
  have hz : (encR r).size = 6 + (catL r.rows).size := by unfold encR; rw [ByteArray.size_append, head_size]
  have hh : ∀ i, i < 6 → sAt (encR r) i = sAt (headR r) i := fun i hi => by
    unfold encR
    exact sAt_append_left _ _ _ (by rw [head_size]; exact hi)
  have a0 : ∀ i, i < 2 → sAt (encR r) (0 + i) = sAt (two r.code.toNat) i := fun i hi => by
    rw [Nat.zero_add, hh i (by omega)]
    unfold headR
    rw [sAt_append_left _ _ _ (by rw [ByteArray.size_append, two_size, two_size]; omega), sAt_append_left _ _ _ (by rw [two_size]; exact hi)]
  have a1 : ∀ i, i < 2 → sAt (encR r) (2 + i) = sAt (two r.n.toNat) i := fun i hi => by
    rw [hh (2 + i) (by omega)]
    unfold headR
    rw [sAt_append_left _ _ _ (by rw [ByteArray.size_append, two_size, two_size]; omega)]
    have := sAt_append_right (two r.code.toNat) (two r.n.toNat) i
    rw [two_size] at this
    exact this
  have a2 : ∀ i, i < 2 → sAt (encR r) (4 + i) = sAt (two r.rows.length) i := fun i hi => by
    rw [hh (4 + i) (by omega)]
    unfold headR
    have := sAt_append_right (two r.code.toNat ++ two r.n.toNat) (two r.rows.length) i
    rw [ByteArray.size_append, two_size, two_size] at this
    exact this
  have n0 := num_two (encR r) 0 r.code.toNat (by omega) a0
  have n3 := num_two (encR r) 2 r.n.toNat (by omega) a1
  have n4 := num_two (encR r) 4 r.rows.length (by omega) a2
  refine (decR_iff _ _).2 ⟨by omega, ?_, by rw [n0]; omega, by rw [n3]; omega, hg⟩
  rw [n4, rows_enc r.rows hall hk (encR r) 6 (by omega) (fun i hi => by
    unfold encR
    have := sAt_append_right (headR r) (catL r.rows) i
    rw [head_size] at this
    exact this), hz]
end Go.Proofs.Ytmgpecomgffelaa
