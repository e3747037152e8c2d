/- Contracts of package float: the number of a text. -/
import Derived.Test.YtmgpecomgffelaaFloatG
import Derived.Deep.DeepCutAuto
import Derived.Deep.CutBlock
import Derived.Deep.LoopGhost
namespace Go.Proofs.Ytmgpecomgffelaa
open Go.RowKit
set_option linter.unusedVariables false

def sAt (s : ByteArray) (k : Nat) : Nat := if h : k < s.size then s[k].toNat else 0
theorem sAt_eq (s : ByteArray) (k : Nat) (h : k < s.size) : s[k].toNat = sAt s k := by unfold sAt; rw [dif_pos h]
def isHex (c : Nat) : Prop := (48 ≤ c ∧ c ≤ 57) ∨ (97 ≤ c ∧ c ≤ 102)
instance (c : Nat) : Decidable (isHex c) := by unfold isHex; infer_instance
def hexv (c : Nat) : Nat := if c ≤ 57 then c - 48 else c - 87
def num (s : ByteArray) : Nat → Nat
  | 0 => 0
  | k + 1 => num s k * 16 + hexv (sAt s k)
def okTo (s : ByteArray) (k : Nat) : Prop := ∀ j, j < k → isHex (sAt s j)

theorem hexv_lt (c : Nat) (h : isHex c) : hexv c < 16 := by
  unfold hexv isHex at *
  split <;> omega
theorem num_lt (s : ByteArray) : ∀ k, okTo s k → num s k < 16 ^ k
  | 0, _ => by simp [num]
  | k + 1, h => by
    have h1 := num_lt s k fun j hj => h j (by omega)
    have h2 := hexv_lt _ (h k (by omega))
    rw [num, Nat.pow_succ]
    omega
theorem okTo_succ (s : ByteArray) (k : Nat) (h : okTo s k) (hk : isHex (sAt s k)) : okTo s (k + 1) := fun j hj => by
  rcases Nat.lt_or_ge j k with h1 | h1
  · exact h j h1
  · obtain rfl : j = k := by omega
    exact hk
theorem shl4 (u d : Nat) (hu : u < 1152921504606846976) (hd : d < 16) : bits .or .u64 (IntKind.u64.wrap ((u : Int) * 16)) (d : Int) = ((u * 16 + d : Nat) : Int) := by
  have e : IntKind.u64.wrap ((u : Int) * 16) = ((u * 16 : Nat) : Int) := by
    rw [show ((u : Int) * 16) = ((u * 16 : Nat) : Int) by simp]
    exact wr _ (by omega)
  rw [e]
  unfold bits
  simp only
  rw [ofi, ofi]
  have h16 : u * 16 = 2 ^ 4 * u := by omega
  have h17 : 2 ^ 4 * u + d = u * 16 + d := by omega
  have e : (BitVec.ofNat 64 (u * 16) ||| BitVec.ofNat 64 d).toNat = u * 16 + d := by
    rw [BitVec.toNat_or, BitVec.toNat_ofNat, BitVec.toNat_ofNat, Nat.mod_eq_of_lt (by omega), Nat.mod_eq_of_lt (by omega), h16, ← Nat.two_pow_add_eq_or_of_lt (i := 4) hd, h17]
  exact (congrArg (fun n : Nat => IntKind.u64.wrap (n : Int)) e).trans (wr _ (by omega))

theorem parse_short (s : ByteArray) (w : World) (h : s.size ≠ 16) : Calls Try.prog 67 #[.string s] w fun e w' => e = .returned (.tuple #[.float .f64 0, .bool false]) ∧ w = w' := by
  have ht : ((s.size : Int) == 16) = false := by rw [beq_eq_false_iff_ne]; omega
  go_enter Try.func67, Try.ntmps67
  go_wp2
  go_ret2
  exact ⟨rfl, rfl⟩

/-- The digits all read: what the number is. -/
def parseV (s : ByteArray) : Nat := if num s 16 = canonF (num s 16) then num s 16 else 0
def parseOK (s : ByteArray) : Bool := decide (num s 16 = canonF (num s 16))

set_option maxRecDepth 100000 in
theorem parse_ok (s : ByteArray) (w : World) (h : s.size = 16) (ho : okTo s 16) : Calls Try.prog 67 #[.string s] w fun e w' => e = .returned (.tuple #[.float .f64 (parseV s), .bool (parseOK s)]) ∧ w = w' := by
  have ht : ((s.size : Int) == 16) = true := by rw [h]; rfl
  have hc := run_from
  have Hi := Lib.hid is_any
  have Ho := Lib.hid ho
  go_enter Try.func67, Try.ntmps67
  go_wp2
  go_loop [4, 14] (fun u i => ∃ k : Nat, k ≤ 16 ∧ i = .int .i64 k ∧ u = .int .u64 (num s k)) (fun _ i => 16 - (intOf i).toNat)
  case atStart => exact ⟨0, by omega, rfl, rfl⟩
  case round =>
    obtain ⟨k, hk, rfl, rfl⟩ := hrel
    by_cases hlt : k < 16
    · have hx := Ho.out k hlt
      have hsz : k < s.size := by omega
      have hsa := sAt_eq s k hsz
      have hnl := num_lt s k fun j hj => Ho.out j (by omega)
      have hp : (16 : Nat) ^ k ≤ 16 ^ 15 := Nat.pow_le_pow_right (by decide) (by omega)
      have h15 : (16 : Nat) ^ 15 = 1152921504606846976 := by decide
      have hv := hexv_lt _ hx
      have hsh := shl4 (num s k) (hexv (sAt s k)) (by omega) hv
      have Hn := Lib.hid (show num s (k + 1) = num s k * 16 + hexv (sAt s k) from rfl)
      have hz : hexv (sAt s k) = if sAt s k ≤ 57 then sAt s k - 48 else sAt s k - 87 := rfl
      generalize hexv (sAt s k) = d at *
      generalize num s k = u at *
      generalize sAt s k = c at *
      clear hnl hp h15
      rcases hx with hx | hx
      · rw [if_pos hx.2] at hz
        have hw : IntKind.u8.wrap ((c : Int) - 48) = (d : Int) := by rw [hz, IntKind.wrap_u8]; omega
        have hw2 : IntKind.u64.wrap (d : Int) = (d : Int) := wr d (by omega)
        have t1 : decide ((48 : Int) ≤ (c : Int)) = true := by rw [decide_eq_true]; omega
        have t2 : decide ((c : Int) ≤ 57) = true := by rw [decide_eq_true]; omega
        clear hz hx
        go_wp2_with fail
        exact ⟨⟨k + 1, by omega, by go_num, by rw [Hn.out]; simp⟩, by simp [intOf]; omega⟩
      · rw [if_neg (by omega)] at hz
        have hw : IntKind.u8.wrap ((c : Int) - 97) = ((c - 97 : Nat) : Int) := by rw [IntKind.wrap_u8]; omega
        have hw2 : IntKind.u64.wrap ((c - 97 : Nat) : Int) = ((c - 97 : Nat) : Int) := wr _ (by omega)
        have hw3 : IntKind.u64.wrap (((c - 97 : Nat) : Int) + 10) = (d : Int) := by rw [hz, IntKind.wrap_u64]; omega
        have t1 : decide ((48 : Int) ≤ (c : Int)) = true := by rw [decide_eq_true]; omega
        have t2 : decide ((c : Int) ≤ 57) = false := by rw [decide_eq_false]; omega
        have t3 : decide ((97 : Int) ≤ (c : Int)) = true := by rw [decide_eq_true]; omega
        have t4 : decide ((c : Int) ≤ 102) = true := by rw [decide_eq_true]; omega
        clear hz hx
        go_wp2_with fail
        exact ⟨⟨k + 1, by omega, by go_num, by rw [Hn.out]; simp⟩, by simp [intOf]; omega⟩
    · obtain rfl : k = 16 := by omega
      have hi := Hi.out (num s 16)
      by_cases hd : num s 16 = canonF (num s 16)
      · rw [decide_eq_true hd] at hi
        have Hd := Lib.hid hd
        clear hd
        go_wp2_with fail
        refine (hi _).mono ?_
        rintro e w1 ⟨rfl, rfl⟩
        go_wp2_with fail
        go_ret2
        exact ⟨by rw [parseV, parseOK, if_pos Hd.out, decide_eq_true Hd.out]; rfl, rfl⟩
      · rw [decide_eq_false hd] at hi
        have Hd := Lib.hid hd
        clear hd
        go_wp2_with fail
        refine (hi _).mono ?_
        rintro e w1 ⟨rfl, rfl⟩
        go_wp2_with fail
        go_ret2
        exact ⟨by rw [parseV, parseOK, if_neg Hd.out, decide_eq_false Hd.out]; rfl, rfl⟩

/-- Where the digits end, and a byte that is none stands. -/
theorem not_all (s : ByteArray) : ∀ n, ¬ okTo s n → ∃ k, k < n ∧ okTo s k ∧ ¬ isHex (sAt s k)
  | 0, h => absurd (fun j hj => absurd hj (by omega)) h
  | n + 1, h => by
    by_cases h1 : okTo s n
    · exact ⟨n, by omega, h1, fun h2 => h (okTo_succ s n h1 h2)⟩
    · obtain ⟨k, hk, h2⟩ := not_all s n h1
      exact ⟨k, by omega, h2⟩

set_option maxRecDepth 100000 in
theorem parse_no (s : ByteArray) (w : World) (h : s.size = 16) (ho : ¬ okTo s 16) : Calls Try.prog 67 #[.string s] w fun e w' => e = .returned (.tuple #[.float .f64 0, .bool false]) ∧ w = w' := by
  have ht : ((s.size : Int) == 16) = true := by rw [h]; rfl
  have hc := run_from
  obtain ⟨m, hm, ho, hbad⟩ := not_all s 16 ho
  have Ho := Lib.hid ho
  have Hb := Lib.hid hbad
  clear ho hbad
  go_enter Try.func67, Try.ntmps67
  go_wp2
  go_loop [4, 14] (fun u i => ∃ k : Nat, k ≤ m ∧ i = .int .i64 k ∧ u = .int .u64 (num s k)) (fun _ i => 16 - (intOf i).toNat)
  case atStart => exact ⟨0, by omega, rfl, rfl⟩
  case round =>
    obtain ⟨k, hk, rfl, rfl⟩ := hrel
    have hlt : k < 16 := by omega
    have hsz : k < s.size := by omega
    have hsa := sAt_eq s k hsz
    by_cases hlm : k < m
    · have hx := Ho.out k hlm
      have hnl := num_lt s k fun j hj => Ho.out j (by omega)
      have hp : (16 : Nat) ^ k ≤ 16 ^ 15 := Nat.pow_le_pow_right (by decide) (by omega)
      have h15 : (16 : Nat) ^ 15 = 1152921504606846976 := by decide
      have hv := hexv_lt _ hx
      have hsh := shl4 (num s k) (hexv (sAt s k)) (by omega) hv
      have Hn := Lib.hid (show num s (k + 1) = num s k * 16 + hexv (sAt s k) from rfl)
      have hz : hexv (sAt s k) = if sAt s k ≤ 57 then sAt s k - 48 else sAt s k - 87 := rfl
      generalize hexv (sAt s k) = d at *
      generalize num s k = u at *
      generalize sAt s k = c at *
      clear hnl hp h15
      rcases hx with hx | hx
      · rw [if_pos hx.2] at hz
        have hw : IntKind.u8.wrap ((c : Int) - 48) = (d : Int) := by rw [hz, IntKind.wrap_u8]; omega
        have hw2 : IntKind.u64.wrap (d : Int) = (d : Int) := wr d (by omega)
        have t1 : decide ((48 : Int) ≤ (c : Int)) = true := by rw [decide_eq_true]; omega
        have t2 : decide ((c : Int) ≤ 57) = true := by rw [decide_eq_true]; omega
        clear hz hx
        go_wp2_with fail
        exact ⟨⟨k + 1, by omega, by go_num, by rw [Hn.out]; simp⟩, by simp [intOf]; omega⟩
      · rw [if_neg (by omega)] at hz
        have hw : IntKind.u8.wrap ((c : Int) - 97) = ((c - 97 : Nat) : Int) := by rw [IntKind.wrap_u8]; omega
        have hw2 : IntKind.u64.wrap ((c - 97 : Nat) : Int) = ((c - 97 : Nat) : Int) := wr _ (by omega)
        have hw3 : IntKind.u64.wrap (((c - 97 : Nat) : Int) + 10) = (d : Int) := by rw [hz, IntKind.wrap_u64]; omega
        have t1 : decide ((48 : Int) ≤ (c : Int)) = true := by rw [decide_eq_true]; omega
        have t2 : decide ((c : Int) ≤ 57) = false := by rw [decide_eq_false]; omega
        have t3 : decide ((97 : Int) ≤ (c : Int)) = true := by rw [decide_eq_true]; omega
        have t4 : decide ((c : Int) ≤ 102) = true := by rw [decide_eq_true]; omega
        clear hz hx
        go_wp2_with fail
        exact ⟨⟨k + 1, by omega, by go_num, by rw [Hn.out]; simp⟩, by simp [intOf]; omega⟩
    · obtain rfl : k = m := by omega
      have hx := Hb.out
      generalize num s k = u at *
      generalize sAt s k = c at *
      unfold isHex at hx
      by_cases h1 : c < 48
      · have t1 : decide ((48 : Int) ≤ (c : Int)) = false := by rw [decide_eq_false]; omega
        have t3 : decide ((97 : Int) ≤ (c : Int)) = false := by rw [decide_eq_false]; omega
        clear hx
        go_wp2_with fail
        go_ret2
        exact ⟨rfl, rfl⟩
      · by_cases h2 : c < 97
        · have t1 : decide ((48 : Int) ≤ (c : Int)) = true := by rw [decide_eq_true]; omega
          have t2 : decide ((c : Int) ≤ 57) = false := by rw [decide_eq_false]; omega
          have t3 : decide ((97 : Int) ≤ (c : Int)) = false := by rw [decide_eq_false]; omega
          clear hx
          go_wp2_with fail
          go_ret2
          exact ⟨rfl, rfl⟩
        · have t1 : decide ((48 : Int) ≤ (c : Int)) = true := by rw [decide_eq_true]; omega
          have t2 : decide ((c : Int) ≤ 57) = false := by rw [decide_eq_false]; omega
          have t3 : decide ((97 : Int) ≤ (c : Int)) = true := by rw [decide_eq_true]; omega
          have t4 : decide ((c : Int) ≤ 102) = false := by rw [decide_eq_false]; omega
          clear hx
          go_wp2_with fail
          go_ret2
          exact ⟨rfl, rfl⟩
end Go.Proofs.Ytmgpecomgffelaa
