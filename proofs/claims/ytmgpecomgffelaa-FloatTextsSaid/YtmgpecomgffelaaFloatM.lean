/- Contracts of the reference of package float: the text of a number, the number of a text. -/
import Derived.Test.YtmgpecomgffelaaFloatK
namespace Go.Proofs.Ytmgpecomgffelaa
open Go.RowKit
set_option linter.unusedVariables false
/-- The last k digits of a word behind zeros. -/
def digArr' (u k : Nat) : Array Value := ((List.replicate (16 - k) 0 ++ (digs u 16).drop (16 - k)).map fun (d : Nat) => Value.int IntKind.u8 (d : Int)).toArray
theorem digArr'_size (u k : Nat) (h : k ≤ 16) : (digArr' u k).size = 16 := by
  unfold digArr'
  simp [digs_len]
theorem digArr'_at (u k : Nat) (h : k < 16) : (digArr' u k)[15 - k]? = some (.int .u8 0) := by
  unfold digArr'
  simp only [List.map_append, List.map_replicate, List.getElem?_toArray]
  rw [List.getElem?_append_left (by simp; omega)]
  simp [List.getElem?_replicate]
  omega
theorem digArr'_step (u k : Nat) (h : k < 16) : (digArr' u k).setIfInBounds (15 - k) (.int .u8 (dig (u / 16 ^ k % 16) : Nat)) = digArr' u (k + 1) := by
  unfold digArr'
  obtain ⟨m, hm⟩ : ∃ m, 16 - k = m + 1 := ⟨15 - k, by omega⟩
  have hm' : 16 - (k + 1) = m := by omega
  have hm2 : 15 - k = m := by omega
  have hm3 : k = 15 - m := by omega
  have hd : (digs u 16).drop m = dig (u / 16 ^ k % 16) :: (digs u 16).drop (m + 1) := by
    rw [List.drop_eq_getElem_cons (by rw [digs_len]; omega)]
    congr 1
    unfold digs
    simp
    rw [hm3]
  rw [hm, hm', hm2, hd, List.replicate_succ']
  simp
theorem digArr'_end (u : Nat) : digArr' u 16 = digArr u 16 := by
  unfold digArr' digArr
  simp

set_option maxRecDepth 100000 in
theorem rtext_any (a : Nat) (h : a < two64) (w : World) : Calls Try.prog 69 #[.float .f64 a] w fun e w' => e = .returned (.string (textF (canonF a))) ∧ Below w.heap.size w w' := by
  have h1 := run_bits
  have h2 := mk16
  have hc := rcanon_any a
  have hl := canon_lt a h
  generalize canonF a = b at *
  have hl : b < 18446744073709551616 := hl
  go_enter Try.func69, Try.ntmps69
  go_wp2_with fail
  refine (hc _).mono ?_
  rintro e w1 ⟨rfl, rfl⟩
  go_wp2_with fail
  go_loopw [3, 5] (fun u i wr => ∃ k : Nat, k ≤ 16 ∧ u = .int .u64 (b / 16 ^ k : Nat) ∧ wr = w.alloc (.cells (digArr' b k) 5) ∧ ((∃ p : Nat, p + k = 15 ∧ i = .int .i64 p) ∨ (k = 16 ∧ i = .int .i64 (-1)))) (fun _ i _ => (intOf i + 1).toNat)
  case atStart => exact ⟨0, by omega, by rw [Nat.pow_zero, Nat.div_one], by rfl, Or.inl ⟨15, rfl, rfl⟩⟩
  case round =>
    obtain ⟨k, hk, rfl, rfl, hi⟩ := hrel
    rcases hi with ⟨p, hp, rfl⟩ | ⟨rfl, rfl⟩
    · have hlt : k < 16 := by omega
      have hpk : 15 - k = p := by omega
      have hstep := digArr'_step b k hlt
      have hat := digArr'_at b k hlt
      have hsz := digArr'_size b k hk
      have Hu := Lib.hid (show b / 16 ^ (k + 1) = b / 16 ^ k / 16 by rw [Nat.pow_succ, Nat.div_div_eq_div_mul])
      have hx : b / 16 ^ k < 18446744073709551616 := Nat.lt_of_le_of_lt (Nat.div_le_self _ _) hl
      rw [hpk] at hstep hat
      generalize b / 16 ^ k = x at *
      have Hs := Lib.hid hstep
      have hm1 : ((x : Int).tmod 16) = ((x % 16 : Nat) : Int) := by
        rw [Int.tmod_eq_emod_of_nonneg (by omega)]; omega
      have hm2 : x % 16 < 16 := Nat.mod_lt _ (by decide)
      have hm3 : ((x : Int).tdiv 16) = ((x / 16 : Nat) : Int) := by
        rw [Int.tdiv_eq_ediv_of_nonneg (by omega)]; omega
      clear hstep h2 hpk
      go_wp2_with fail
      refine ⟨⟨k + 1, by omega, by rw [Hu.out]; simp, by rw [← Hs.out, byte_at], ?_⟩, by simp [intOf]⟩
      by_cases hp0 : p = 0
      · exact Or.inr ⟨by omega, by rw [hp0]; rfl⟩
      · exact Or.inl ⟨p - 1, by omega, by go_num⟩
    · have hcv := text_conv b w
      rw [← digArr'_end] at hcv
      go_wp2_with fail
      go_ret
      exact ⟨rfl, (Below.refl _ _).alloc (Nat.le_refl _) _⟩
end Go.Proofs.Ytmgpecomgffelaa
