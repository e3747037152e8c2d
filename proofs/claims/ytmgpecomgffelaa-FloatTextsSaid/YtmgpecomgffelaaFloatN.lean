/- Contract of the reference of package float: the number of a text. -/
import Derived.Test.YtmgpecomgffelaaFloatM
import Derived.Deep.QuietTactic
import Derived.BigQuiet
namespace Go.Proofs.Ytmgpecomgffelaa
open Go.RowKit
set_option linter.unusedVariables false
theorem dig_eq (c k : Nat) (hk : k < 16) : dig k = c ↔ isHex c ∧ hexv c = k := by
  unfold dig isHex hexv
  split <;> split <;> omega
/-- What the reference's search among the first k digits found. -/
def found (c k : Nat) : Int := if isHex c ∧ hexv c < k then (hexv c : Int) else -1
theorem found_succ (c k : Nat) (hk : k < 16) : found c (k + 1) = if dig k = c then (k : Int) else found c k := by
  unfold found
  by_cases h : dig k = c
  · have h2 := (dig_eq c k hk).1 h
    rw [if_pos h, if_pos ⟨h2.1, by omega⟩, h2.2]
  · rw [if_neg h]
    by_cases h3 : isHex c ∧ hexv c < k
    · rw [if_pos h3, if_pos ⟨h3.1, by omega⟩]
    · rw [if_neg h3, if_neg]
      intro h4
      refine h ((dig_eq c k hk).2 ⟨h4.1, ?_⟩)
      rcases Nat.lt_or_ge (hexv c) k with g | g
      · exact absurd ⟨h4.1, g⟩ h3
      · have := h4.2
        omega
theorem rparse_short (s : ByteArray) (w : World) (h : s.size ≠ 16) : Calls Try.prog 68 #[.string s] w fun e w' => e = .returned (.agg #[.float .f64 0, .bool false]) ∧ Below w.heap.size w w' := by
  have ht : ((s.size : Int) == 16) = false := by rw [beq_eq_false_iff_ne]; omega
  have hst := run_sf
  go_enter Try.func68, Try.ntmps68
  go_wp2
  exact bodyPost_ret (v := .agg #[.float .f64 0, .bool false]) (by simp [results, Try.results68, go_sem]) rfl ⟨rfl, (Below.refl _ _).alloc (Nat.le_refl _) _⟩

set_option maxRecDepth 100000 in
theorem rparse_ok (s : ByteArray) (w : World) (h : s.size = 16) (ho : okTo s 16) : Calls Try.prog 68 #[.string s] w fun e w' => e = .returned (.agg #[.float .f64 (parseV s), .bool (parseOK s)]) ∧ Below w.heap.size w w' := by
  have ht : ((s.size : Int) == 16) = true := by rw [h]; rfl
  have hst := run_sf
  have hc := run_from
  have Hi := Lib.hid ris_any
  have Ho := Lib.hid ho
  go_enter Try.func68, Try.ntmps68
  go_wp2
  go_loopw [3, 4] (fun u i wr => ∃ k m : Nat, k ≤ 16 ∧ i = .int .i64 k ∧ u = .int .u64 (num s k) ∧ wr = (w.alloc (.cells #[.float .f64 0, .bool false] 62)).drewN m) (fun _ i _ => 16 - (intOf i).toNat)
  case atStart => exact ⟨0, 0, by omega, rfl, rfl, rfl⟩
  case round =>
    obtain ⟨k, m0, hk, rfl, rfl, rfl⟩ := hrel
    by_cases hlt : k < 16
    · have hx := Ho.out k hlt
      have hsz : k < s.size := by omega
      have hsa := sAt_eq s k hsz
      have hnl := num_lt s k fun j hj => Ho.out j (by omega)
      have hp : (16 : Nat) ^ k ≤ 16 ^ 15 := Nat.pow_le_pow_right (by decide) (by omega)
      have h15 : (16 : Nat) ^ 15 = 1152921504606846976 := by decide
      have hv := hexv_lt _ hx
      have Hn := Lib.hid (show num s (k + 1) = num s k * 16 + hexv (sAt s k) from rfl)
      generalize sAt s k = c at *
      have hul : num s k < 1152921504606846976 := by omega
      clear hnl hp h15
      go_wp2_with fail
      go_loopw [5, 6] (fun d j wr => ∃ q m : Nat, q ≤ 16 ∧ j = .int .i64 q ∧ d = .int .i64 (found c q) ∧ wr = (w.alloc (.cells #[.float .f64 0, .bool false] 62)).drewN m) (fun _ j _ => 16 - (intOf j).toNat)
      case atStart => exact ⟨0, m0, by omega, rfl, by unfold found; rw [if_neg (by omega)], rfl⟩
      case round =>
        obtain ⟨q, m1, hq, rfl, rfl, rfl⟩ := hrel
        by_cases hq2 : q < 16
        · have hb : ∀ hq, ((ByteArray.mk #[48, 49, 50, 51, 52, 53, 54, 55, 56, 57, 97, 98, 99, 100, 101, 102])[q]'hq).toNat = dig q := fun hq => byte_at q hq
          have hf := found_succ c q hq2
          by_cases hdq : dig q = c
          · rw [if_pos hdq] at hf
            have Hf := Lib.hid hf
            have ht1 : (dig q == c) = true := by rw [beq_iff_eq]; exact hdq
            have ht2 : ((dig q : Int) == (c : Int)) = true := by rw [beq_iff_eq]; omega
            generalize dig q = dq at *
            generalize found c q = fq at *
            clear hf hdq
            go_wp2_with fail
            go_quiet (fail)
            go_wp2_with fail
            exact ⟨⟨q + 1, m1 + nq, by omega, by go_num, by rw [Hf.out], rfl⟩, by simp [intOf]; omega⟩
          · rw [if_neg hdq] at hf
            have Hf := Lib.hid hf
            have ht1 : (dig q == c) = false := by rw [beq_eq_false_iff_ne]; exact hdq
            have ht2 : ((dig q : Int) == (c : Int)) = false := by rw [beq_eq_false_iff_ne]; omega
            generalize dig q = dq at *
            generalize found c q = fq at *
            clear hf hdq
            go_wp2_with fail
            go_quiet (fail)
            go_wp2_with fail
            exact ⟨⟨q + 1, m1 + nq, by omega, by go_num, by rw [Hf.out], rfl⟩, by simp [intOf]; omega⟩
        · obtain rfl : q = 16 := by omega
          have hfd : found c 16 = (hexv c : Int) := by unfold found; rw [if_pos ⟨hx, hv⟩]
          rw [hfd]
          generalize hexv c = d at *
          generalize num s k = u at *
          have hw1 : IntKind.u64.wrap ((u : Int) * 16) = ((u * 16 : Nat) : Int) := by rw [IntKind.wrap_u64]; omega
          have hw2 : IntKind.u64.wrap (d : Int) = (d : Int) := wr d (by omega)
          have hw3 : IntKind.u64.wrap ((u : Int) * 16 + (d : Int)) = ((u * 16 + d : Nat) : Int) := by rw [IntKind.wrap_u64]; omega
          have hw4 : IntKind.u64.wrap (((u * 16 : Nat) : Int) + (d : Int)) = ((u * 16 + d : Nat) : Int) := by rw [IntKind.wrap_u64]; omega
          clear hfd
          go_wp2_with fail
          exact ⟨⟨k + 1, m1, by omega, by go_num, by rw [Hn.out]; simp, rfl⟩, by simp [intOf]; omega⟩
    · obtain rfl : k = 16 := by omega
      have hi := Hi.out (num s 16)
      by_cases hd : num s 16 = canonF (num s 16)
      · rw [decide_eq_true hd] at hi
        have Hd := Lib.hid hd
        clear hd
        go_wp2_with fail
        refine (hi _).mono ?_
        rintro e w1 ⟨rfl, rfl⟩
        go_wp2_with fail
        exact bodyPost_ret (v := .agg #[.float .f64 (num s 16), .bool true]) (by simp [results, Try.results68, go_sem]) rfl ⟨by rw [parseV, parseOK, if_pos Hd.out, decide_eq_true Hd.out], ((below_drewN ((Below.refl _ _).alloc (Nat.le_refl _) _) _).setCell (Nat.le_refl _) _).setCell (Nat.le_refl _) _⟩
      · rw [decide_eq_false hd] at hi
        have Hd := Lib.hid hd
        clear hd
        go_wp2_with fail
        refine (hi _).mono ?_
        rintro e w1 ⟨rfl, rfl⟩
        go_wp2_with fail
        exact bodyPost_ret (v := .agg #[.float .f64 0, .bool false]) (by simp [results, Try.results68, go_sem]) rfl ⟨by rw [parseV, parseOK, if_neg Hd.out, decide_eq_false Hd.out], ((below_drewN ((Below.refl _ _).alloc (Nat.le_refl _) _) _).setCell (Nat.le_refl _) _).setCell (Nat.le_refl _) _⟩

set_option maxRecDepth 100000 in
theorem rparse_no (s : ByteArray) (w : World) (h : s.size = 16) (ho : ¬ okTo s 16) : Calls Try.prog 68 #[.string s] w fun e w' => e = .returned (.agg #[.float .f64 0, .bool false]) ∧ Below w.heap.size w w' := by
  have ht : ((s.size : Int) == 16) = true := by rw [h]; rfl
  have hst := run_sf
  have hc := run_from
  obtain ⟨m, hm, ho, hbad⟩ := not_all s 16 ho
  have Ho := Lib.hid ho
  have Hb := Lib.hid hbad
  clear ho hbad
  go_enter Try.func68, Try.ntmps68
  go_wp2
  go_loopw [3, 4] (fun u i wr => ∃ k m' : Nat, k ≤ m ∧ i = .int .i64 k ∧ u = .int .u64 (num s k) ∧ wr = (w.alloc (.cells #[.float .f64 0, .bool false] 62)).drewN m') (fun _ i _ => 16 - (intOf i).toNat)
  case atStart => exact ⟨0, 0, by omega, rfl, rfl, rfl⟩
  case round =>
    obtain ⟨k, m0, hk, rfl, rfl, rfl⟩ := hrel
    have hlt : k < 16 := by omega
    by_cases hlm : k < m
    · have hx := Ho.out k hlm
      have hsz : k < s.size := by omega
      have hsa := sAt_eq s k hsz
      have hnl := num_lt s k fun j hj => Ho.out j (by omega)
      have hp : (16 : Nat) ^ k ≤ 16 ^ 15 := Nat.pow_le_pow_right (by decide) (by omega)
      have h15 : (16 : Nat) ^ 15 = 1152921504606846976 := by decide
      have hv := hexv_lt _ hx
      have Hn := Lib.hid (show num s (k + 1) = num s k * 16 + hexv (sAt s k) from rfl)
      generalize sAt s k = c at *
      have hul : num s k < 1152921504606846976 := by omega
      clear hnl hp h15
      go_wp2_with fail
      go_loopw [5, 6] (fun d j wr => ∃ q m : Nat, q ≤ 16 ∧ j = .int .i64 q ∧ d = .int .i64 (found c q) ∧ wr = (w.alloc (.cells #[.float .f64 0, .bool false] 62)).drewN m) (fun _ j _ => 16 - (intOf j).toNat)
      case atStart => exact ⟨0, m0, by omega, rfl, by unfold found; rw [if_neg (by omega)], rfl⟩
      case round =>
        obtain ⟨q, m1, hq, rfl, rfl, rfl⟩ := hrel
        by_cases hq2 : q < 16
        · have hb : ∀ hq, ((ByteArray.mk #[48, 49, 50, 51, 52, 53, 54, 55, 56, 57, 97, 98, 99, 100, 101, 102])[q]'hq).toNat = dig q := fun hq => byte_at q hq
          have hf := found_succ c q hq2
          by_cases hdq : dig q = c
          · rw [if_pos hdq] at hf
            have Hf := Lib.hid hf
            have ht1 : (dig q == c) = true := by rw [beq_iff_eq]; exact hdq
            have ht2 : ((dig q : Int) == (c : Int)) = true := by rw [beq_iff_eq]; omega
            generalize dig q = dq at *
            generalize found c q = fq at *
            clear hf hdq
            go_wp2_with fail
            go_quiet (fail)
            go_wp2_with fail
            exact ⟨⟨q + 1, m1 + nq, by omega, by go_num, by rw [Hf.out], rfl⟩, by simp [intOf]; omega⟩
          · rw [if_neg hdq] at hf
            have Hf := Lib.hid hf
            have ht1 : (dig q == c) = false := by rw [beq_eq_false_iff_ne]; exact hdq
            have ht2 : ((dig q : Int) == (c : Int)) = false := by rw [beq_eq_false_iff_ne]; omega
            generalize dig q = dq at *
            generalize found c q = fq at *
            clear hf hdq
            go_wp2_with fail
            go_quiet (fail)
            go_wp2_with fail
            exact ⟨⟨q + 1, m1 + nq, by omega, by go_num, by rw [Hf.out], rfl⟩, by simp [intOf]; omega⟩
        · obtain rfl : q = 16 := by omega
          have hfd : found c 16 = (hexv c : Int) := by unfold found; rw [if_pos ⟨hx, hv⟩]
          rw [hfd]
          generalize hexv c = d at *
          generalize num s k = u at *
          have hw1 : IntKind.u64.wrap ((u : Int) * 16) = ((u * 16 : Nat) : Int) := by rw [IntKind.wrap_u64]; omega
          have hw2 : IntKind.u64.wrap (d : Int) = (d : Int) := wr d (by omega)
          have hw3 : IntKind.u64.wrap ((u : Int) * 16 + (d : Int)) = ((u * 16 + d : Nat) : Int) := by rw [IntKind.wrap_u64]; omega
          have hw4 : IntKind.u64.wrap (((u * 16 : Nat) : Int) + (d : Int)) = ((u * 16 + d : Nat) : Int) := by rw [IntKind.wrap_u64]; omega
          clear hfd
          go_wp2_with fail
          exact ⟨⟨k + 1, m1, by omega, by go_num, by rw [Hn.out]; simp, rfl⟩, by simp [intOf]; omega⟩
    · obtain rfl : k = m := by omega
      have hx := Hb.out
      have hsz : k < s.size := by omega
      have hsa := sAt_eq s k hsz
      generalize sAt s k = c at *
      go_wp2_with fail
      go_loopw [5, 6] (fun d j wr => ∃ q m : Nat, q ≤ 16 ∧ j = .int .i64 q ∧ d = .int .i64 (found c q) ∧ wr = (w.alloc (.cells #[.float .f64 0, .bool false] 62)).drewN m) (fun _ j _ => 16 - (intOf j).toNat)
      case atStart => exact ⟨0, m0, by omega, rfl, by unfold found; rw [if_neg (by omega)], rfl⟩
      case round =>
        obtain ⟨q, m1, hq, rfl, rfl, rfl⟩ := hrel
        by_cases hq2 : q < 16
        · have hb : ∀ hq, ((ByteArray.mk #[48, 49, 50, 51, 52, 53, 54, 55, 56, 57, 97, 98, 99, 100, 101, 102])[q]'hq).toNat = dig q := fun hq => byte_at q hq
          have hf := found_succ c q hq2
          by_cases hdq : dig q = c
          · rw [if_pos hdq] at hf
            have Hf := Lib.hid hf
            have ht1 : (dig q == c) = true := by rw [beq_iff_eq]; exact hdq
            have ht2 : ((dig q : Int) == (c : Int)) = true := by rw [beq_iff_eq]; omega
            generalize dig q = dq at *
            generalize found c q = fq at *
            clear hf hdq
            go_wp2_with fail
            go_quiet (fail)
            go_wp2_with fail
            exact ⟨⟨q + 1, m1 + nq, by omega, by go_num, by rw [Hf.out], rfl⟩, by simp [intOf]; omega⟩
          · rw [if_neg hdq] at hf
            have Hf := Lib.hid hf
            have ht1 : (dig q == c) = false := by rw [beq_eq_false_iff_ne]; exact hdq
            have ht2 : ((dig q : Int) == (c : Int)) = false := by rw [beq_eq_false_iff_ne]; omega
            generalize dig q = dq at *
            generalize found c q = fq at *
            clear hf hdq
            go_wp2_with fail
            go_quiet (fail)
            go_wp2_with fail
            exact ⟨⟨q + 1, m1 + nq, by omega, by go_num, by rw [Hf.out], rfl⟩, by simp [intOf]; omega⟩
        · obtain rfl : q = 16 := by omega
          have hfd : found c 16 = -1 := by unfold found; rw [if_neg (fun g => hx g.1)]
          rw [hfd]
          clear hfd hx
          go_wp2_with fail
          exact bodyPost_ret (v := .agg #[.float .f64 0, .bool false]) (by simp [results, Try.results68, go_sem]) rfl ⟨rfl, ((below_drewN ((Below.refl _ _).alloc (Nat.le_refl _) _) _).setCell (Nat.le_refl _) _).setCell (Nat.le_refl _) _⟩
end Go.Proofs.Ytmgpecomgffelaa
