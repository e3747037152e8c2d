/- Values and rows as bytes: the plain part. No program is walked here. -/
import Derived.Test.YtmgpecomgffelaaValC
import Derived.Test.YtmgpecomgffelaaFloatK
namespace Go.Proofs.Ytmgpecomgffelaa
open Go.RowKit
set_option linter.unusedVariables false

theorem sAt_lt (s : ByteArray) (i : Nat) : sAt s i < 256 := by
  unfold sAt
  split
  · exact UInt8.toNat_lt _
  · omega
theorem sAt_out (s : ByteArray) (i : Nat) (h : s.size ≤ i) : sAt s i = 0 := by unfold sAt; rw [dif_neg (by omega)]
theorem ext_sAt {a b : ByteArray} (hs : a.size = b.size) (h : ∀ i, i < a.size → sAt a i = sAt b i) : a = b := by
  refine ByteArray.ext (Array.ext hs fun i h1 h2 => ?_)
  have := h i h1
  have h1' : i < a.size := h1
  have h2' : i < b.size := h2
  unfold sAt at this
  rw [dif_pos h1', dif_pos h2'] at this
  exact UInt8.toNat_inj.1 this
theorem sAt_append_left (a b : ByteArray) (i : Nat) (h : i < a.size) : sAt (a ++ b) i = sAt a i := by
  have h2 : i < (a ++ b).size := by rw [ByteArray.size_append]; omega
  unfold sAt
  rw [dif_pos h2, dif_pos h, ByteArray.getElem_append_left h]
theorem sAt_append_right (a b : ByteArray) (i : Nat) : sAt (a ++ b) (a.size + i) = sAt b i := by
  by_cases h : i < b.size
  · have h2 : a.size + i < (a ++ b).size := by rw [ByteArray.size_append]; omega
    unfold sAt
    rw [dif_pos h2, dif_pos h, ByteArray.getElem_append_right (by omega)]
    simp
  · rw [sAt_out _ _ (by rw [ByteArray.size_append]; omega), sAt_out _ _ (by omega)]
theorem sAt_extract (s : ByteArray) (a b i : Nat) (hb : b ≤ s.size) (h : i < b - a) : sAt (s.extract a b) i = sAt s (a + i) := by
  have h1 : i < (s.extract a b).size := by rw [ByteArray.size_extract]; omega
  have h2 : a + i < s.size := by omega
  unfold sAt
  rw [dif_pos h1, dif_pos h2, ByteArray.getElem_extract]
theorem size_extract (s : ByteArray) (a b : Nat) (hb : b ≤ s.size) : (s.extract a b).size = b - a := by rw [ByteArray.size_extract]; omega

def bs (l : List Nat) : ByteArray := ⟨(l.map UInt8.ofNat).toArray⟩
theorem bs_size (l : List Nat) : (bs l).size = l.length := by
  show (bs l).data.size = _
  simp [bs]
theorem sAt_bs (l : List Nat) (i : Nat) (h : i < l.length) (hl : l[i] < 256) : sAt (bs l) i = l[i] := by
  unfold sAt
  rw [dif_pos (by rw [bs_size]; exact h)]
  show ((bs l).data[i]'_).toNat = _
  simp [bs]
  exact hl

/-- Byte i of k bytes of a number, the highest first. -/
def beAt (u k i : Nat) : Nat := u / 256 ^ (k - 1 - i) % 256
def be (u k : Nat) : List Nat := (List.range k).map (beAt u k)
theorem be_len (u k : Nat) : (be u k).length = k := by simp [be]
theorem beAt_lt (u k i : Nat) : beAt u k i < 256 := Nat.mod_lt _ (by decide)
theorem sAt_be (u k i : Nat) (h : i < k) : sAt (bs (be u k)) i = beAt u k i := by
  have hl : (be u k)[i]'(by rw [be_len]; exact h) = beAt u k i := by simp [be]
  rw [sAt_bs _ _ (by rw [be_len]; exact h) (by rw [hl]; exact beAt_lt _ _ _), hl]
/-- The number of k bytes that stand from a place on. -/
def numB (s : ByteArray) (a : Nat) : Nat → Nat
  | 0 => 0
  | k + 1 => numB s a k * 256 + sAt s (a + k)
theorem numB_lt (s : ByteArray) (a k : Nat) : numB s a k < 256 ^ k := by
  induction k with
  | zero => simp [numB]
  | succ k ih =>
    have := sAt_lt s (a + k)
    rw [numB, Nat.pow_succ]
    omega
theorem numB_at (s : ByteArray) (a k i : Nat) (h : i < k) : beAt (numB s a k) k i = sAt s (a + i) := by
  induction k with
  | zero => omega
  | succ k ih =>
    have hc := sAt_lt s (a + k)
    unfold beAt
    rw [numB]
    by_cases hi : i = k
    · subst hi
      have : i + 1 - 1 - i = 0 := by omega
      rw [this, Nat.pow_zero, Nat.div_one]
      omega
    · have h2 := ih (by omega)
      unfold beAt at h2
      have e : k + 1 - 1 - i = (k - 1 - i) + 1 := by omega
      rw [e, Nat.pow_succ, Nat.mul_comm (256 ^ _) 256, ← Nat.div_div_eq_div_mul]
      have e2 : (numB s a k * 256 + sAt s (a + k)) / 256 = numB s a k := by omega
      rw [e2]
      exact h2
theorem numB_of (s : ByteArray) (a k u : Nat) (hu : u < 256 ^ k) (h : ∀ i, i < k → sAt s (a + i) = beAt u k i) : numB s a k = u := by
  have H : ∀ j, j ≤ k → numB s a j = u / 256 ^ (k - j) := by
    intro j
    induction j with
    | zero => intro _; rw [numB, Nat.sub_zero, Nat.div_eq_of_lt hu]
    | succ j ih =>
      intro hj
      rw [numB, ih (by omega), h j (by omega)]
      unfold beAt
      have e : k - j = (k - (j + 1)) + 1 := by omega
      have e2 : k - 1 - j = k - (j + 1) := by omega
      rw [e, e2, Nat.pow_succ, ← Nat.div_div_eq_div_mul]
      omega
  have := H k (Nat.le_refl _)
  rw [Nat.sub_self, Nat.pow_zero, Nat.div_one] at this
  exact this
theorem be_numB (s : ByteArray) (a k : Nat) (h : a + k ≤ s.size) : bs (be (numB s a k) k) = s.extract a (a + k) := by
  have h1 : (bs (be (numB s a k) k)).size = k := by rw [bs_size, be_len]
  refine ext_sAt (by rw [h1, size_extract _ _ _ h]; omega) fun i hi => ?_
  rw [h1] at hi
  rw [sAt_be _ _ _ hi, numB_at _ _ _ _ hi, sAt_extract _ _ _ _ h (by omega)]
theorem numB_shift (s t : ByteArray) (a b k : Nat) (h : ∀ i, i < k → sAt s (a + i) = sAt t (b + i)) : numB s a k = numB t b k := by
  induction k with
  | zero => rfl
  | succ k ih => rw [numB, numB, ih fun i hi => h i (by omega), h k (by omega)]
theorem numB_extract (s : ByteArray) (a b i k : Nat) (hb : b ≤ s.size) (h : i + k ≤ b - a) : numB (s.extract a b) i k = numB s (a + i) k := by
  refine numB_shift _ _ _ _ _ fun j hj => ?_
  rw [sAt_extract _ _ _ _ hb (by omega), Nat.add_assoc]
theorem extract_extract (s : ByteArray) (a b c d : Nat) (hb : b ≤ s.size) (hd : d ≤ b - a) (hcd : c ≤ d) : (s.extract a b).extract c d = s.extract (a + c) (a + d) := by
  have hd' : d ≤ (s.extract a b).size := by rw [size_extract _ _ _ hb]; exact hd
  refine ext_sAt ?_ fun i hi => ?_
  · by_cases h : a + d ≤ s.size
    · rw [size_extract _ _ _ hd', size_extract _ _ _ h]; omega
    · have : c = d ∧ d = 0 := by omega
      rw [size_extract _ _ _ hd', ByteArray.size_extract]; omega
  · rw [size_extract _ _ _ hd'] at hi
    rw [sAt_extract _ _ _ _ hd' (by omega), sAt_extract _ _ _ _ hb (by omega), sAt_extract _ _ _ _ (by omega) (by omega), Nat.add_assoc]

/-! ### Values as bytes -/
def nu (n : Int) : Nat := (n % 18446744073709551616).toNat
def sg (u : Nat) : Int := IntKind.i64.wrap (u : Int)
def bodyE (k n : Int) (f : Nat) (s : ByteArray) : ByteArray :=
  if k = 1 then bs [n.toNat] else if k = 2 then bs (be (nu n) 8) else if k = 3 then bs (be (bitsF f) 8) else if k = 4 then bs [s.size / 256, s.size % 256] ++ s else ⟨#[]⟩
def encV (k n : Int) (f : Nat) (s : ByteArray) : ByteArray := bs [k.toNat] ++ bodyE k n f s
def encS (k n : Int) (f : Nat) (s : ByteArray) : ByteArray := if goodV k n f s then encV k n f s else ⟨#[]⟩
def encE (k n : Int) (f : Nat) (s : ByteArray) : Int := if goodV k n f s then 0 else 11
def rawV (s : ByteArray) (a : Nat) : Option (Val × Nat) :=
  if sAt s a = 0 then some (⟨0, 0, 0, ⟨#[]⟩⟩, 0)
  else if sAt s a = 1 then if a + 2 ≤ s.size then some (⟨1, sAt s (a + 1), 0, ⟨#[]⟩⟩, 1) else none
  else if sAt s a = 2 then if a + 9 ≤ s.size then some (⟨2, sg (numB s (a + 1) 8), 0, ⟨#[]⟩⟩, 8) else none
  else if sAt s a = 3 then if a + 9 ≤ s.size ∧ fromOK (numB s (a + 1) 8) = true then some (⟨3, 0, fromF (numB s (a + 1) 8), ⟨#[]⟩⟩, 8) else none
  else if sAt s a = 4 then if a + 3 ≤ s.size ∧ a + 3 + numB s (a + 1) 2 ≤ s.size then some (⟨4, 0, 0, s.extract (a + 3) (a + 3 + numB s (a + 1) 2)⟩, 2 + numB s (a + 1) 2) else none
  else none
def gotA (s : ByteArray) (a : Nat) : Option (Val × Nat) :=
  if a < s.size then (rawV s a).bind fun x => if goodV x.1.kind x.1.n x.1.f x.1.s then some (x.1, x.2 + 1) else none else none
def gotV (s : ByteArray) (p : Int) : Option (Val × Nat) := if 0 ≤ p then gotA s p.toNat else none

theorem emp_iff (s : ByteArray) : emp s = true ↔ s = ⟨#[]⟩ := by
  unfold emp
  rw [List.isEmpty_iff, ByteArray.toList_eq]
  constructor
  · intro h
    refine ByteArray.ext (Array.toList_inj.1 (h.trans rfl))
  · rintro rfl
    rfl
theorem emp_nil : emp ⟨#[]⟩ = true := (emp_iff _).2 rfl
theorem size_nil : (⟨#[]⟩ : ByteArray).size = 0 := rfl
theorem append_nil (s : ByteArray) : s ++ ⟨#[]⟩ = s := ByteArray.append_empty
theorem nil_append' (s : ByteArray) : (⟨#[]⟩ : ByteArray) ++ s = s := ByteArray.empty_append
theorem cat_extract (s : ByteArray) (a b c : Nat) (h1 : a ≤ b) (h2 : b ≤ c) (h3 : c ≤ s.size) : s.extract a b ++ s.extract b c = s.extract a c := by
  have e1 : (s.extract a b).size = b - a := size_extract _ _ _ (by omega)
  have e2 : (s.extract b c).size = c - b := size_extract _ _ _ h3
  have e3 : (s.extract a c).size = c - a := size_extract _ _ _ h3
  refine ext_sAt (by rw [ByteArray.size_append, e1, e2, e3]; omega) fun i hi => ?_
  rw [ByteArray.size_append, e1, e2] at hi
  by_cases h : i < b - a
  · rw [sAt_append_left _ _ _ (by rw [e1]; exact h), sAt_extract _ _ _ _ (by omega) h, sAt_extract _ _ _ _ h3 (by omega)]
  · obtain ⟨j, rfl⟩ : ∃ j, i = (s.extract a b).size + j := ⟨i - (b - a), by rw [e1]; omega⟩
    rw [sAt_append_right, sAt_extract _ _ _ _ h3 (by omega), sAt_extract _ _ _ _ h3 (by rw [e1]; omega), e1]
    congr 1
    omega
theorem bs_one (s : ByteArray) (a : Nat) (h : a < s.size) : bs [sAt s a] = s.extract a (a + 1) := by
  refine ext_sAt (by rw [bs_size, size_extract _ _ _ (by omega)]; simp) fun i hi => ?_
  rw [bs_size] at hi
  obtain rfl : i = 0 := by simpa using hi
  rw [sAt_bs _ _ (by simp) (by simpa using sAt_lt s a), sAt_extract _ _ _ _ (by omega) (by omega)]
  rfl
theorem bs_two (u : Nat) (h : u < 65536) : bs [u / 256, u % 256] = bs (be u 2) := by
  have : be u 2 = [u / 256, u % 256] := by
    unfold be beAt
    simp [List.range_succ]
    omega
  rw [this]
theorem sg_nu (n : Int) (h1 : -9223372036854775808 ≤ n) (h2 : n < 9223372036854775808) : sg (nu n) = n := by
  unfold sg nu
  rw [IntKind.wrap_i64]
  omega
theorem nu_sg (u : Nat) (h : u < 18446744073709551616) : nu (sg u) = u := by
  unfold sg nu
  rw [IntKind.wrap_i64]
  omega
theorem sg_bd (u : Nat) : -9223372036854775808 ≤ sg u ∧ sg u < 9223372036854775808 := by
  unfold sg
  rw [IntKind.wrap_i64]
  omega
theorem nu_lt (n : Int) : nu n < 18446744073709551616 := by unfold nu; omega
theorem canon_zero : canonF 0 = 0 := by decide
theorem fromF_canon (u : Nat) : fromF u = canonF (fromF u) := by
  unfold fromF
  by_cases h : fromOK u = true
  · rw [if_pos h]
    exact of_decide_eq_true h
  · rw [if_neg h]
    exact canon_zero.symm
theorem fromF_lt (u : Nat) (h : u < two64) : fromF u < two64 := by
  unfold fromF
  split
  · exact fromW_lt u h
  · decide
theorem fromW_bits (f : Nat) (hf : f < two64) (hc : f = canonF f) : fromW (bitsF f) = f ∧ bitsF f < two64 := by
  unfold bitsF
  rw [← hc]
  unfold fromW
  have h1 : two64 = two63 + two63 := by decide
  have h2 : 0 < two63 := by decide
  generalize two63 = m at *
  generalize two64 = k at *
  by_cases hs : m ≤ f
  · rw [if_pos hs, if_neg (by omega)]; omega
  · rw [if_neg hs, if_pos (by omega)]; omega
theorem from_bits (f : Nat) (hf : f < two64) (hc : f = canonF f) : fromOK (bitsF f) = true ∧ fromF (bitsF f) = f := by
  have e := (fromW_bits f hf hc).1
  have ho : fromOK (bitsF f) = true := by unfold fromOK; rw [e]; exact decide_eq_true hc
  exact ⟨ho, by unfold fromF; rw [if_pos ho, e]⟩
theorem goodV_kind {k n : Int} {f : Nat} {s : ByteArray} (h : goodV k n f s = true) : k = 0 ∨ k = 1 ∨ k = 2 ∨ k = 3 ∨ k = 4 := by
  unfold goodV at h
  by_cases h0 : k = 0
  · exact Or.inl h0
  by_cases h1 : k = 1
  · exact Or.inr (Or.inl h1)
  by_cases h2 : k = 2
  · exact Or.inr (Or.inr (Or.inl h2))
  by_cases h3 : k = 3
  · exact Or.inr (Or.inr (Or.inr (Or.inl h3)))
  by_cases h4 : k = 4
  · exact Or.inr (Or.inr (Or.inr (Or.inr h4)))
  rw [if_neg h0, if_neg h1, if_neg h2, if_neg h3, if_neg h4] at h
  exact absurd h (by simp)
theorem good0 (n : Int) (f : Nat) (s : ByteArray) : goodV 0 n f s = true ↔ n = 0 ∧ f = 0 ∧ s = ⟨#[]⟩ := by
  have := emp_iff s
  unfold goodV
  simp [this, and_assoc]
theorem good1 (n : Int) (f : Nat) (s : ByteArray) : goodV 1 n f s = true ↔ (f = 0 ∧ s = ⟨#[]⟩) ∧ (n = 0 ∨ n = 1) := by
  have := emp_iff s
  unfold goodV
  simp [this, and_assoc]
theorem good2 (n : Int) (f : Nat) (s : ByteArray) : goodV 2 n f s = true ↔ f = 0 ∧ s = ⟨#[]⟩ := by
  have := emp_iff s
  unfold goodV
  simp [this]
theorem good3 (n : Int) (f : Nat) (s : ByteArray) : goodV 3 n f s = true ↔ (n = 0 ∧ s = ⟨#[]⟩) ∧ f = canonF f := by
  have := emp_iff s
  unfold goodV
  simp [this]
theorem good4 (n : Int) (f : Nat) (s : ByteArray) : goodV 4 n f s = true ↔ (n = 0 ∧ f = 0) ∧ s.size ≤ 256 := by
  unfold goodV
  simp
theorem encV_size (k n : Int) (f : Nat) (s : ByteArray) : (encV k n f s).size = 1 + (bodyE k n f s).size := by
  unfold encV
  rw [ByteArray.size_append, bs_size]
  rfl

theorem gotA_some {s : ByteArray} {a : Nat} {v : Val} {n : Nat} (h : gotA s a = some (v, n)) : a < s.size ∧ ∃ m, n = m + 1 ∧ rawV s a = some (v, m) ∧ goodV v.kind v.n v.f v.s = true := by
  unfold gotA at h
  split at h
  · rename_i ha
    refine ⟨ha, ?_⟩
    cases hr : rawV s a with
    | none => rw [hr] at h; exact absurd h (by simp)
    | some x =>
      rw [hr] at h
      simp only [Option.bind_some] at h
      split at h
      · rename_i hg
        injection h with h
        obtain ⟨y, m⟩ := x
        injection h with e1 e2
        subst e1
        exact ⟨m, e2.symm, rfl, hg⟩
      · exact absurd h (by simp)
  · exact absurd h (by simp)
theorem gotA_mk {s : ByteArray} {a : Nat} {v : Val} {m : Nat} (ha : a < s.size) (hr : rawV s a = some (v, m)) (hg : goodV v.kind v.n v.f v.s = true) : gotA s a = some (v, m + 1) := by
  unfold gotA
  rw [if_pos ha, hr]
  simp only [Option.bind_some]
  rw [if_pos hg]

/-- What was decoded is encoded as it stood. -/
theorem enc_raw {s : ByteArray} {a : Nat} {v : Val} {m : Nat} (ha : a < s.size) (h : rawV s a = some (v, m)) (hg : goodV v.kind v.n v.f v.s = true) :
    a + 1 + m ≤ s.size ∧ encV v.kind v.n v.f v.s = s.extract a (a + 1 + m) := by
  have hc := cat_extract s a (a + 1)
  have hb := bs_one s a ha
  unfold rawV at h
  by_cases h0 : sAt s a = 0
  · rw [if_pos h0] at h
    injection h with h; injection h with e1 e2; subst e1; subst e2
    refine ⟨by omega, ?_⟩
    rw [h0] at hb
    exact (append_nil _).trans hb
  rw [if_neg h0] at h
  by_cases h1 : sAt s a = 1
  · rw [if_pos h1] at h
    split at h
    · rename_i hs
      injection h with h; injection h with e1 e2; subst e1; subst e2
      refine ⟨by omega, ?_⟩
      rw [h1] at hb
      show bs [1] ++ bs [((sAt s (a + 1) : Nat) : Int).toNat] = _
      rw [Int.toNat_natCast, bs_one s (a + 1) (by omega), hb]
      exact hc _ (by omega) (by omega) (by omega)
    · exact absurd h (by simp)
  rw [if_neg h1] at h
  by_cases h2 : sAt s a = 2
  · rw [if_pos h2] at h
    split at h
    · rename_i hs
      injection h with h; injection h with e1 e2; subst e1; subst e2
      refine ⟨by omega, ?_⟩
      rw [h2] at hb
      show bs [2] ++ bs (be (nu (sg (numB s (a + 1) 8))) 8) = _
      rw [nu_sg _ (numB_lt s (a + 1) 8), be_numB s (a + 1) 8 (by omega), hb]
      exact hc _ (by omega) (by omega) (by omega)
    · exact absurd h (by simp)
  rw [if_neg h2] at h
  by_cases h3 : sAt s a = 3
  · rw [if_pos h3] at h
    split at h
    · rename_i hs
      injection h with h; injection h with e1 e2; subst e1; subst e2
      refine ⟨by omega, ?_⟩
      rw [h3] at hb
      show bs [3] ++ bs (be (bitsF (fromF (numB s (a + 1) 8))) 8) = _
      rw [bits_fromF _ (numB_lt s (a + 1) 8) hs.2, be_numB s (a + 1) 8 (by omega), hb]
      exact hc _ (by omega) (by omega) (by omega)
    · exact absurd h (by simp)
  rw [if_neg h3] at h
  by_cases h4 : sAt s a = 4
  · rw [if_pos h4] at h
    split at h
    · rename_i hs
      injection h with h; injection h with e1 e2; subst e1; subst e2
      refine ⟨by omega, ?_⟩
      rw [h4] at hb
      have hz : (s.extract (a + 3) (a + 3 + numB s (a + 1) 2)).size = numB s (a + 1) 2 := by rw [size_extract _ _ _ hs.2]; omega
      show bs [4] ++ (bs [(s.extract (a + 3) (a + 3 + numB s (a + 1) 2)).size / 256, (s.extract (a + 3) (a + 3 + numB s (a + 1) 2)).size % 256] ++ s.extract (a + 3) (a + 3 + numB s (a + 1) 2)) = _
      rw [hz, bs_two _ (numB_lt s (a + 1) 2), be_numB s (a + 1) 2 (by omega), hb, cat_extract s (a + 1) (a + 1 + 2) _ (by omega) (by omega) hs.2, hc _ (by omega) (by omega) (by omega)]
      congr 1
      omega
    · exact absurd h (by simp)
  · rw [if_neg h4] at h
    exact absurd h (by simp)
theorem enc_got {s : ByteArray} {a : Nat} {v : Val} {n : Nat} (h : gotA s a = some (v, n)) : a + n ≤ s.size ∧ 1 ≤ n ∧ goodV v.kind v.n v.f v.s = true ∧ encV v.kind v.n v.f v.s = s.extract a (a + n) := by
  obtain ⟨ha, m, rfl, hr, hg⟩ := gotA_some h
  obtain ⟨h1, h2⟩ := enc_raw ha hr hg
  have e : a + (m + 1) = a + 1 + m := by omega
  exact ⟨by omega, by omega, hg, by rw [h2, e]⟩
/-- What was encoded is decoded as it was, wherever it stands. -/
theorem got_enc (v : Val) (hg : goodV v.kind v.n v.f v.s = true) (hn1 : -9223372036854775808 ≤ v.n) (hn2 : v.n < 9223372036854775808) (hf : v.f < two64) (t : ByteArray) (a : Nat)
    (hs : a + (encV v.kind v.n v.f v.s).size ≤ t.size) (hb : ∀ i, i < (encV v.kind v.n v.f v.s).size → sAt t (a + i) = sAt (encV v.kind v.n v.f v.s) i) :
    gotA t a = some (v, (encV v.kind v.n v.f v.s).size) := by
  obtain ⟨k, n, f, s⟩ := v
  simp only at *
  have hk := goodV_kind hg
  have hz := encV_size k n f s
  have h0 : sAt t a = k.toNat := by
    have := hb 0 (by omega)
    rw [Nat.add_zero] at this
    rw [this]
    unfold encV
    rw [sAt_append_left _ _ _ (by rw [bs_size]; simp), sAt_bs _ _ (by simp) (by simp; omega)]
    rfl
  have h1 : ∀ j, j < (bodyE k n f s).size → sAt t (a + 1 + j) = sAt (bodyE k n f s) j := fun j hj => by
    have := hb (1 + j) (by omega)
    rw [← Nat.add_assoc] at this
    rw [this]
    unfold encV
    exact sAt_append_right (bs [k.toNat]) _ j
  rw [hz] at hs ⊢
  have ha : a < t.size := by omega
  clear hz hb
  rw [Nat.add_comm 1]
  rcases hk with rfl | rfl | rfl | rfl | rfl
  · have h0 : sAt t a = 0 := h0
    obtain ⟨rfl, rfl, rfl⟩ := (good0 _ _ _).1 hg
    refine gotA_mk ha ?_ hg
    unfold rawV
    rw [if_pos h0]
    rfl
  · have h0 : sAt t a = 1 := h0
    obtain ⟨⟨rfl, rfl⟩, hn⟩ := (good1 _ _ _).1 hg
    have hb : bodyE 1 n 0 ⟨#[]⟩ = bs [n.toNat] := rfl
    rw [hb, bs_size] at h1 hs ⊢
    have h2 := h1 0 (by simp)
    rw [Nat.add_zero, sAt_bs _ _ (by simp) (by simp; omega)] at h2
    have h2 : sAt t (a + 1) = n.toNat := h2
    refine gotA_mk ha ?_ hg
    unfold rawV
    have e : ((n.toNat : Nat) : Int) = n := by omega
    rw [if_neg (by rw [h0]; decide), if_pos h0, if_pos (by simp at hs; omega), h2, e]
    rfl
  · have h0 : sAt t a = 2 := h0
    obtain ⟨rfl, rfl⟩ := (good2 _ _ _).1 hg
    have hb : bodyE 2 n 0 ⟨#[]⟩ = bs (be (nu n) 8) := rfl
    rw [hb, bs_size, be_len] at h1 hs ⊢
    have h2 : numB t (a + 1) 8 = nu n := numB_of _ _ _ _ (nu_lt n) fun i hi => by rw [h1 i hi, sAt_be _ _ _ hi]
    refine gotA_mk ha ?_ hg
    unfold rawV
    rw [if_neg (by rw [h0]; decide), if_neg (by rw [h0]; decide), if_pos h0, if_pos (by omega), h2, sg_nu n hn1 hn2]
  · have h0 : sAt t a = 3 := h0
    obtain ⟨⟨rfl, rfl⟩, hc⟩ := (good3 _ _ _).1 hg
    obtain ⟨ho, he⟩ := from_bits f hf hc
    have hb : bodyE 3 0 f ⟨#[]⟩ = bs (be (bitsF f) 8) := rfl
    rw [hb, bs_size, be_len] at h1 hs ⊢
    have h2 : numB t (a + 1) 8 = bitsF f := numB_of _ _ _ _ (fromW_bits f hf hc).2 fun i hi => by rw [h1 i hi, sAt_be _ _ _ hi]
    refine gotA_mk ha ?_ hg
    unfold rawV
    rw [if_neg (by rw [h0]; decide), if_neg (by rw [h0]; decide), if_neg (by rw [h0]; decide), if_pos h0, h2, if_pos ⟨by omega, ho⟩, he]
  · have h0 : sAt t a = 4 := h0
    obtain ⟨⟨rfl, rfl⟩, hc⟩ := (good4 _ _ _).1 hg
    have hb : bodyE 4 0 0 s = bs (be s.size 2) ++ s := by
      show bs [s.size / 256, s.size % 256] ++ s = _
      rw [bs_two _ (by omega)]
    have hz : (bs (be s.size 2) ++ s).size = 2 + s.size := by rw [ByteArray.size_append, bs_size, be_len]
    rw [hb, hz] at h1 hs ⊢
    have h2 : numB t (a + 1) 2 = s.size := numB_of _ _ _ _ (by omega) fun i hi => by
      rw [h1 i (by omega), sAt_append_left _ _ _ (by rw [bs_size, be_len]; exact hi), sAt_be _ _ _ hi]
    have h3 : t.extract (a + 3) (a + 3 + s.size) = s := by
      refine ext_sAt (by rw [size_extract _ _ _ (by omega)]; omega) fun i hi => ?_
      rw [size_extract _ _ _ (by omega)] at hi
      rw [sAt_extract _ _ _ _ (by omega) hi]
      have := h1 (2 + i) (by omega)
      have e := sAt_append_right (bs (be s.size 2)) s i
      rw [bs_size, be_len] at e
      rw [e] at this
      rw [← this]
      congr 1
      omega
    refine gotA_mk ha ?_ hg
    unfold rawV
    rw [if_neg (by rw [h0]; decide), if_neg (by rw [h0]; decide), if_neg (by rw [h0]; decide), if_neg (by rw [h0]; decide), if_pos h0, h2, if_pos ⟨by omega, by omega⟩, h3]

/-! ### Rows as bytes -/
abbrev gd (v : Val) : Bool := goodV v.kind v.n v.f v.s
abbrev ev (v : Val) : ByteArray := encV v.kind v.n v.f v.s
def Val.ok (v : Val) : Prop := (-9223372036854775808 ≤ v.n ∧ v.n < 9223372036854775808) ∧ v.f < two64
def encL (l : List Val) : ByteArray := l.foldl (fun b v => b ++ ev v) ⟨#[]⟩
def rowB (l : List Val) : ByteArray := bs [l.length] ++ encL l
def rowG (l : List Val) : Bool := decide (l.length ≤ 6) && l.all gd
def rowS (l : List Val) : ByteArray := if rowG l then rowB l else ⟨#[]⟩
def rowE (l : List Val) : Int := if 6 < l.length then 3 else if l.all gd then 0 else 11
theorem encL_snoc (l : List Val) (v : Val) : encL (l ++ [v]) = encL l ++ ev v := by unfold encL; rw [List.foldl_append]; rfl
theorem encL_step (l : List Val) (k : Nat) (h : k < l.length) : bs [l.length] ++ encL (l.take (k + 1)) = bs [l.length] ++ encL (l.take k) ++ ev l[k] := by
  rw [List.take_succ_eq_append_getElem h, encL_snoc, ByteArray.append_assoc]
theorem all_step (l : List Val) (k : Nat) (h : k < l.length) : (l.take (k + 1)).all gd = ((l.take k).all gd && gd l[k]) := by
  rw [List.take_succ_eq_append_getElem h, List.all_append]
  simp
theorem all_bad (l : List Val) (k : Nat) (h : k < l.length) (hb : gd l[k] = false) : l.all gd = false := by
  rw [List.all_eq_false]
  exact ⟨l[k], List.getElem_mem h, by rw [hb]; simp⟩
/-- k values that stand one behind the other, and where they end. -/
def seqA (s : ByteArray) (a : Nat) : Nat → Option (List Val × Nat)
  | 0 => some ([], a)
  | k + 1 => (seqA s a k).bind fun x => (gotA s x.2).bind fun y => some (x.1 ++ [y.1], x.2 + y.2)
theorem seqA_none (s : ByteArray) (a k : Nat) (h : seqA s a k = none) : ∀ n, k ≤ n → seqA s a n = none := by
  intro n hn
  induction n with
  | zero => obtain rfl : k = 0 := by omega
            exact h
  | succ n ih =>
    rcases Nat.lt_or_ge n k with h1 | h1
    · obtain rfl : k = n + 1 := by omega
      exact h
    · rw [seqA, ih h1]; rfl
theorem seqA_succ (s : ByteArray) (a k : Nat) (l : List Val) (e : Nat) (h : seqA s a k = some (l, e)) : seqA s a (k + 1) = (gotA s e).bind fun y => some (l ++ [y.1], e + y.2) := by
  rw [seqA, h]; rfl
theorem seqA_ok (s : ByteArray) (a : Nat) (ha : a ≤ s.size) : ∀ (k : Nat) (l : List Val) (e : Nat), seqA s a k = some (l, e) → l.length = k ∧ a ≤ e ∧ e ≤ s.size ∧ l.all gd = true ∧ encL l = s.extract a e := by
  intro k
  induction k with
  | zero =>
    intro l e h
    rw [seqA] at h
    injection h with h; injection h with h1 h2
    subst h1; subst h2
    refine ⟨rfl, Nat.le_refl _, ha, rfl, ext_sAt (by rw [size_extract _ _ _ ha, Nat.sub_self]; rfl) fun i hi => absurd hi (by show ¬ i < 0; omega)⟩
  | succ k ih =>
    intro l e h
    cases hk : seqA s a k with
    | none => rw [seqA, hk] at h; exact absurd h (by simp)
    | some x =>
      obtain ⟨l0, e0⟩ := x
      rw [seqA_succ _ _ _ _ _ hk] at h
      obtain ⟨i1, i2, i3, i4, i5⟩ := ih l0 e0 hk
      cases hg : gotA s e0 with
      | none => rw [hg] at h; exact absurd h (by simp)
      | some y =>
        obtain ⟨v, n⟩ := y
        rw [hg] at h
        simp only [Option.bind_some] at h
        injection h with h; injection h with h1 h2
        subst h1; subst h2
        obtain ⟨g1, g2, g3, g4⟩ := enc_got hg
        refine ⟨by simp [i1], by omega, g1, by rw [List.all_append, i4]; simp [gd, g3], ?_⟩
        rw [encL_snoc, i5, show ev v = _ from g4]
        exact cat_extract _ _ _ _ i2 (by omega) g1
/-- The row that stands at a place, and where it ends. -/
def takA (s : ByteArray) (a : Nat) : Option (List Val × Nat) := if a < s.size ∧ sAt s a ≤ 6 then seqA s (a + 1) (sAt s a) else none
/-- The row of bytes. -/
def valsO (s : ByteArray) : Option (List Val) := (takA s 0).bind fun x => if x.2 = s.size then some x.1 else none
def valsL (s : ByteArray) : List Val := (valsO s).getD []
def valsE (s : ByteArray) : Int := if (valsO s).isSome then 0 else 11
theorem seqA_len (s : ByteArray) (a k : Nat) (ha : a ≤ s.size) (l : List Val) (e : Nat) (h : seqA s a k = some (l, e)) : l.length = k := (seqA_ok s a ha k l e h).1
theorem valsL_len (s : ByteArray) : (valsL s).length ≤ 6 := by
  unfold valsL valsO takA
  split
  · rename_i h
    cases hk : seqA s (0 + 1) (sAt s 0) with
    | none => simp
    | some x =>
      obtain ⟨l, e⟩ := x
      have := seqA_len _ _ _ (by omega) _ _ hk
      simp only [Option.bind_some]
      split
      · simp; omega
      · simp
  · simp
end Go.Proofs.Ytmgpecomgffelaa
