/- Plain facts on the sets of modes. No Go in sight. -/
import Derived.Test.YtobdooojdadgpaaModeB
namespace Go.Proofs.Ytobdooojdadgpaa
open Go.RowKit

theorem and_small (s : Int) (c : Nat) (hc : c < 512) : bits BinOp.and IntKind.i64 s (c : Int) = (((s % 512).toNat &&& c : Nat) : Int) := by
  have h1 : (BitVec.ofInt 64 s).toNat = (s % 18446744073709551616).toNat := by simp [BitVec.toNat_ofInt]
  have h2 : (BitVec.ofInt 64 (c : Int)).toNat = c := by
    rw [BitVec.ofInt_natCast, BitVec.toNat_ofNat]; exact Nat.mod_eq_of_lt (by omega)
  have h3 : (s % 18446744073709551616).toNat % 512 = (s % 512).toNat := by omega
  have h4 : (s % 18446744073709551616).toNat &&& c = (s % 512).toNat &&& c := by
    have hlt : (s % 18446744073709551616).toNat &&& c < 2 ^ 9 := Nat.and_lt_two_pow _ (by omega)
    have := Nat.and_mod_two_pow (a := (s % 18446744073709551616).toNat) (b := c) (n := 9)
    rw [Nat.mod_eq_of_lt hlt] at this
    rw [this, show (2:Nat) ^ 9 = 512 from rfl, h3, Nat.mod_eq_of_lt hc]
  have hx : (s % 512).toNat &&& c < 2 ^ 9 := Nat.and_lt_two_pow _ (by omega)
  show IntKind.i64.wrap ((BitVec.ofInt 64 s &&& BitVec.ofInt 64 (c : Int)).toNat : Int) = _
  rw [BitVec.toNat_and, h1, h2, h4, IntKind.wrap_i64]
  omega

def inM (s k : Int) : Bool := decide (1 ≤ k ∧ k ≤ 8) && (bits BinOp.and IntKind.i64 (s / 2 ^ k.toNat) 1 == 1)
def anyM (s m : Int) : Bool := bits BinOp.and IntKind.i64 s (withM m) != 0
def rAnyM (s m : Int) : Bool := ([1, 2, 3, 4, 5, 6, 7, 8] : List Int).any fun k => inM s k && decide (k ∈ lst m)

def ms : List Nat := [1, 2, 3, 4, 5, 6, 7, 8]
theorem table : ∀ m ∈ ms, ∀ t, t < 512 → ((t &&& (withM m).toNat) != 0) = ms.any fun k => (t / 2 ^ k % 2 == 1) && decide ((k : Int) ∈ lst m) := by
  decide +kernel

theorem in_eq (s : Int) (k : Nat) (h : k ∈ ms) : inM s k = ((s % 512).toNat / 2 ^ k % 2 == 1) := by
  have e : bits BinOp.and IntKind.i64 (s / 2 ^ (k : Int).toNat) 1 = (((s / 2 ^ (k : Int).toNat) % 512).toNat &&& 1 : Nat) := and_small _ 1 (by omega)
  unfold inM
  rw [e, Nat.and_one_is_mod]
  simp only [ms, List.mem_cons, List.not_mem_nil, or_false] at h
  rcases h with rfl | rfl | rfl | rfl | rfl | rfl | rfl | rfl <;> simp <;> rw [Bool.eq_iff_iff] <;> simp <;> omega

theorem any_eq (s m : Int) : anyM s m = rAnyM s m := by
  by_cases h : 1 ≤ m ∧ m ≤ 8
  · obtain ⟨n, rfl⟩ := Int.eq_ofNat_of_zero_le (a := m) (by omega)
    have hn : n ∈ ms := by
      have : n = 1 ∨ n = 2 ∨ n = 3 ∨ n = 4 ∨ n = 5 ∨ n = 6 ∨ n = 7 ∨ n = 8 := by omega
      rcases this with rfl | rfl | rfl | rfl | rfl | rfl | rfl | rfl <;> decide
    have hw : ∃ c : Nat, withM n = c ∧ c < 512 := by
      have : n = 1 ∨ n = 2 ∨ n = 3 ∨ n = 4 ∨ n = 5 ∨ n = 6 ∨ n = 7 ∨ n = 8 := by omega
      rcases this with rfl | rfl | rfl | rfl | rfl | rfl | rfl | rfl <;> exact ⟨_, rfl, by decide⟩
    obtain ⟨c, hc, hlt⟩ := hw
    have ht := table n hn (s % 512).toNat (by omega)
    rw [hc] at ht
    unfold anyM rAnyM
    rw [hc, and_small s c hlt]
    have e1 : ((((s % 512).toNat &&& c : Nat) : Int) != 0) = (((s % 512).toNat &&& c) != 0) := by
      rw [Bool.eq_iff_iff]; simp
    simp only [Int.toNat_natCast] at ht
    rw [e1, ht]
    have key : ∀ k ∈ ms, ((s % 512).toNat / 2 ^ k % 2 == 1 && decide ((k : Int) ∈ lst n)) = (inM s k && decide ((k : Int) ∈ lst n)) := fun k hk => by rw [in_eq s k hk]
    show ms.any _ = (ms.map (fun k : Nat => (k : Int))).any _
    rw [List.any_map]
    rw [Bool.eq_iff_iff, List.any_eq_true, List.any_eq_true]
    exact ⟨fun ⟨k, hk, hh⟩ => ⟨k, hk, (key k hk).symm.trans hh⟩, fun ⟨k, hk, hh⟩ => ⟨k, hk, (key k hk).trans hh⟩⟩
  · have e : withM m = 0 := by unfold withM; repeat (rw [if_neg (by omega)])
    have e2 := and_small s 0 (by omega)
    unfold anyM rAnyM
    rw [e, lst_no m (by omega)]
    simp at e2 ⊢
    exact e2

theorem with_eq (m : Int) : withM m = sumBits (lst m) := by
  by_cases h : 1 ≤ m ∧ m ≤ 8
  · have : m = 1 ∨ m = 2 ∨ m = 3 ∨ m = 4 ∨ m = 5 ∨ m = 6 ∨ m = 7 ∨ m = 8 := by omega
    rcases this with rfl | rfl | rfl | rfl | rfl | rfl | rfl | rfl <;> decide
  · have e : withM m = 0 := by unfold withM; repeat (rw [if_neg (by omega)])
    rw [e, lst_no m (by omega)]
    rfl
end Go.Proofs.Ytobdooojdadgpaa
