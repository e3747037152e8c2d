/- Bits of words of 64 bits with the sign's bit. -/
import Derived.Laws.Bits64
import Derived.Laws.Entries
namespace Go.Proofs.Ytmgpecomgffelaa
theorem ofi (b : Nat) : BitVec.ofInt IntKind.u64.bits (b : Int) = BitVec.ofNat 64 b := by
  show BitVec.ofInt 64 (b : Int) = _
  simp
theorem wr (n : Nat) (h : n < 18446744073709551616) : IntKind.u64.wrap (n : Int) = (n : Int) := by rw [IntKind.wrap_u64]; omega

theorem low_and (c : Nat) (h : c < 9223372036854775808) : c &&& 2 ^ 63 = 0 := by
  have e : c = c &&& (2 ^ 63 - 1) := by rw [Nat.and_two_pow_sub_one_eq_mod]; omega
  rw [e, Nat.and_assoc, show (2 ^ 63 - 1) &&& 2 ^ 63 = 0 by decide, Nat.and_zero]
theorem top_and (b : Nat) (h : b < 18446744073709551616) : b &&& 2 ^ 63 = if 9223372036854775808 ≤ b then 9223372036854775808 else 0 := by
  by_cases hb : 9223372036854775808 ≤ b
  · have e : b = 2 ^ 63 * 1 + (b - 9223372036854775808) := by omega
    have hc : b - 9223372036854775808 < 9223372036854775808 := by omega
    generalize b - 9223372036854775808 = c at *
    rw [if_pos hb, e, Nat.two_pow_add_eq_or_of_lt (i := 63) hc, Nat.and_or_distrib_right, low_and c hc]
    decide
  · rw [if_neg hb, low_and b (by omega)]

theorem b_and (b : Nat) (h : b < 18446744073709551616) : bits BinOp.and IntKind.u64 (b : Int) 9223372036854775808 = if 9223372036854775808 ≤ b then 9223372036854775808 else 0 := by
  have hs : BitVec.ofInt IntKind.u64.bits 9223372036854775808 = BitVec.ofNat 64 (2 ^ 63) := ofi _
  unfold bits
  simp only
  rw [ofi, hs]
  have e : (BitVec.ofNat 64 b &&& BitVec.ofNat 64 (2 ^ 63)).toNat = if 9223372036854775808 ≤ b then 9223372036854775808 else 0 := by
    rw [BitVec.toNat_and, BitVec.toNat_ofNat, BitVec.toNat_ofNat, Nat.mod_eq_of_lt h, Nat.mod_eq_of_lt (by decide), top_and b h]
  refine (congrArg (fun n : Nat => IntKind.u64.wrap (n : Int)) e).trans ?_
  by_cases hb : 9223372036854775808 ≤ b
  · rw [if_pos hb, if_pos hb]; exact wr _ (by decide)
  · rw [if_neg hb, if_neg hb]; exact wr _ (by decide)
theorem b_xor (b : Nat) (h : b < 18446744073709551616) : bits BinOp.xor IntKind.u64 IntKind.u64.max (b : Int) = (18446744073709551615 - b : Nat) := by
  have hs : BitVec.ofInt IntKind.u64.bits IntKind.u64.max = BitVec.allOnes 64 := by
    show BitVec.ofInt 64 18446744073709551615 = BitVec.allOnes 64
    decide
  unfold bits
  simp only
  rw [ofi, hs]
  have e : (BitVec.allOnes 64 ^^^ BitVec.ofNat 64 b).toNat = 18446744073709551615 - b := by
    rw [BitVec.allOnes_xor, BitVec.toNat_not, BitVec.toNat_ofNat, Nat.mod_eq_of_lt h]
  exact (congrArg (fun n : Nat => IntKind.u64.wrap (n : Int)) e).trans (wr _ (by omega))
theorem b_or (b : Nat) (h : b < 9223372036854775808) : bits BinOp.or IntKind.u64 (b : Int) 9223372036854775808 = (b + 9223372036854775808 : Nat) := by
  have hs : BitVec.ofInt IntKind.u64.bits 9223372036854775808 = BitVec.ofNat 64 (2 ^ 63 * 1) := ofi _
  unfold bits
  simp only
  rw [ofi, hs]
  have e : (BitVec.ofNat 64 b ||| BitVec.ofNat 64 (2 ^ 63 * 1)).toNat = b + 9223372036854775808 := by
    rw [BitVec.toNat_or, BitVec.toNat_ofNat, BitVec.toNat_ofNat, Nat.mod_eq_of_lt (by omega), Nat.mod_eq_of_lt (by decide), Nat.or_comm, ← Nat.two_pow_add_eq_or_of_lt (i := 63) h]
    omega
  exact (congrArg (fun n : Nat => IntKind.u64.wrap (n : Int)) e).trans (wr _ (by omega))
theorem b_andNot (b : Nat) (h : b < 18446744073709551616) (h0 : 9223372036854775808 ≤ b) : bits BinOp.andNot IntKind.u64 (b : Int) 9223372036854775808 = (b - 9223372036854775808 : Nat) := by
  have hs : ~~~ (BitVec.ofInt IntKind.u64.bits 9223372036854775808) = BitVec.ofNat 64 (2 ^ 63 - 1) := by
    show ~~~ (BitVec.ofInt 64 9223372036854775808) = BitVec.ofNat 64 (2 ^ 63 - 1)
    decide
  unfold bits
  simp only
  rw [ofi, hs]
  have e : (BitVec.ofNat 64 b &&& BitVec.ofNat 64 (2 ^ 63 - 1)).toNat = b - 9223372036854775808 := by
    rw [BitVec.toNat_and, BitVec.toNat_ofNat, BitVec.toNat_ofNat, Nat.mod_eq_of_lt (by omega), Nat.mod_eq_of_lt (by decide), Nat.and_two_pow_sub_one_eq_mod]
    omega
  exact (congrArg (fun n : Nat => IntKind.u64.wrap (n : Int)) e).trans (wr _ (by omega))
end Go.Proofs.Ytmgpecomgffelaa
