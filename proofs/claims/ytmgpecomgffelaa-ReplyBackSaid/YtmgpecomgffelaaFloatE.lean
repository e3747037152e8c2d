/- Contracts of package float: the text of a number. -/
import Derived.Test.YtmgpecomgffelaaFloatD
import Derived.Deep.DeepCutAuto
import Derived.Deep.CutBlock
import Derived.Deep.LoopGhost
import Derived.Laws.IdiomStrings
namespace Go.Proofs.Ytmgpecomgffelaa
open Go.RowKit
set_option linter.unusedVariables false
theorem mk16 (w : World) : (Instr.makeSlice 111 (.int .i64 16) (.int .i64 16)).run Try.prog w = .ok (.slice (some ⟨w.heap.size, 0, none⟩) 16 16) (w.alloc (.cells (Array.replicate 16 (.int .u8 0)) 5)) := by kernel_rfl

/-- The digit of a number below sixteen. -/
def dig (d : Nat) : Nat := if d < 10 then 48 + d else 87 + d
/-- The first k digits of a word. -/
def digs (u k : Nat) : List Nat := (List.range k).map fun i => dig (u / 16 ^ (15 - i) % 16)
def digArr (u k : Nat) : Array Value := ((digs u k ++ List.replicate (16 - k) 0).map fun (d : Nat) => Value.int IntKind.u8 (d : Int)).toArray

theorem byte_at (d : Nat) (h : d < (ByteArray.mk #[48, 49, 50, 51, 52, 53, 54, 55, 56, 57, 97, 98, 99, 100, 101, 102]).size) : ((ByteArray.mk #[48, 49, 50, 51, 52, 53, 54, 55, 56, 57, 97, 98, 99, 100, 101, 102])[d]'h).toNat = dig d := by
  have h' : d < 16 := h
  rcases (by omega : d = 0 ∨ d = 1 ∨ d = 2 ∨ d = 3 ∨ d = 4 ∨ d = 5 ∨ d = 6 ∨ d = 7 ∨ d = 8 ∨ d = 9 ∨ d = 10 ∨ d = 11 ∨ d = 12 ∨ d = 13 ∨ d = 14 ∨ d = 15) with h | h | h | h | h | h | h | h | h | h | h | h | h | h | h | h <;> subst h <;> rfl
theorem digArr_size (u k : Nat) (h : k ≤ 16) : (digArr u k).size = 16 := by
  unfold digArr digs
  simp
  omega
theorem digArr_at (u k : Nat) (h : k < 16) : (digArr u k)[k]? = some (.int .u8 0) := by
  unfold digArr digs
  simp
  rw [List.getElem?_append_right (by simp)]
  simp [List.getElem?_replicate]
  omega
theorem digArr_step (u k : Nat) (h : k < 16) : (digArr u k).setIfInBounds k (.int .u8 (dig (u / 16 ^ (15 - k) % 16) : Nat)) = digArr u (k + 1) := by
  unfold digArr digs
  obtain ⟨m, hm⟩ : ∃ m, 16 - k = m + 1 := ⟨15 - k, by omega⟩
  have hm' : 16 - (k + 1) = m := by omega
  rw [hm, hm', List.replicate_succ, List.range_succ]
  simp
theorem and15 (b : Nat) (k : Nat) (h : b < 18446744073709551616) (hk : k < 16) : bits BinOp.and IntKind.u64 ((b : Int) / 2 ^ (60 - 4 * k)) 15 = ((b / 16 ^ (15 - k) % 16 : Nat) : Int) := by
  have e : ((b : Int) / 2 ^ (60 - 4 * k)) = ((b / 2 ^ (60 - 4 * k) : Nat) : Int) := by simp
  have e2 : (2 : Nat) ^ (60 - 4 * k) = 16 ^ (15 - k) := by
    rw [show (16 : Nat) = 2 ^ 4 by decide, ← Nat.pow_mul]; congr 1; omega
  rw [e, e2]
  have hx : b / 16 ^ (15 - k) < 18446744073709551616 := Nat.lt_of_le_of_lt (Nat.div_le_self _ _) h
  generalize b / 16 ^ (15 - k) = x at *
  have hs : BitVec.ofInt IntKind.u64.bits 15 = BitVec.ofNat 64 (2 ^ 4 - 1) := ofi _
  unfold bits
  simp only
  rw [ofi, hs]
  have e : (BitVec.ofNat 64 x &&& BitVec.ofNat 64 (2 ^ 4 - 1)).toNat = x % 16 := by
    rw [BitVec.toNat_and, BitVec.toNat_ofNat, BitVec.toNat_ofNat, Nat.mod_eq_of_lt hx, Nat.mod_eq_of_lt (by decide), Nat.and_two_pow_sub_one_eq_mod]
  exact (congrArg (fun n : Nat => IntKind.u64.wrap (n : Int)) e).trans (wr _ (by omega))

def textF (u : Nat) : ByteArray := ⟨((digs u 16).map UInt8.ofNat).toArray⟩
theorem dig_lt (d : Nat) (h : d < 16) : dig d < 256 := by unfold dig; split <;> omega
theorem digs_len (u k : Nat) : (digs u k).length = k := by unfold digs; simp
theorem text_conv (u : Nat) (w : World) : (convert 111 9 (.slice (some ⟨w.heap.size, 0, none⟩) 16 16)).run Try.prog (w.alloc (.cells (digArr u 16) 5)) = .ok (.string (textF u)) (w.alloc (.cells (digArr u 16) 5)) := by
  have h := run_convert_bytes_back (P := Try.prog) (w.alloc (.cells (digArr u 16) 5)) 111 9 5 ⟨w.heap.size, 0, none⟩ 16 ((digs u 16).map UInt8.ofNat) Try.underlying111 Try.underlying5 Try.underlying9 (fun j hj => by
    have e : (⟨w.heap.size, 0, none⟩ : Addr).add j = ⟨w.heap.size, j, none⟩ := by unfold Addr.add; split <;> simp_all
    rw [e, World.cell?_alloc_new]
    have hj' : j < 16 := by simpa [digs_len] using hj
    unfold digArr digs
    simp [hj']
    have := dig_lt (u / 16 ^ (15 - j) % 16) (Nat.mod_lt _ (by decide))
    omega)
  have hl : ((digs u 16).map UInt8.ofNat).length = 16 := by simp [digs_len]
  rw [hl] at h
  exact h

set_option maxRecDepth 100000 in
theorem text_any (a : Nat) (h : a < two64) (w : World) : Calls Try.prog 66 #[.float .f64 a] w fun e w' => e = .returned (.string (textF (canonF a))) ∧ Below w.heap.size w w' := by
  have h1 := run_bits
  have h2 := mk16
  have hc := canon_any a
  have hl := canon_lt a h
  generalize canonF a = b at *
  have hl : b < 18446744073709551616 := hl
  go_enter Try.func66, Try.ntmps66
  go_wp2_with fail
  refine (hc _).mono ?_
  rintro e w1 ⟨rfl, rfl⟩
  go_wp2_with fail
  go_loopw [12] (fun i wr => ∃ k : Nat, k ≤ 16 ∧ i = .int .i64 k ∧ wr = w.alloc (.cells (digArr b k) 5)) (fun i _ => (16 - intOf i).toNat)
  case atStart => exact ⟨0, by omega, rfl, by rfl⟩
  case round =>
    obtain ⟨k, hk, rfl, rfl⟩ := hrel
    by_cases hlt : k < 16
    · have hd := and15 b k hl hlt
      have hd2 : b / 16 ^ (15 - k) % 16 < 16 := Nat.mod_lt _ (by decide)
      have hstep := digArr_step b k hlt
      have hat := digArr_at b k hlt
      have hsz := digArr_size b k hk
      generalize b / 16 ^ (15 - k) % 16 = d at *
      have Hs := Lib.hid hstep
      clear hstep h2
      go_wp2_with fail
      refine ⟨⟨k + 1, by omega, by go_num, ?_⟩, ?_⟩
      · rw [← Hs.out, byte_at]
      · simp [intOf]; omega
    · obtain rfl : k = 16 := by omega
      have hcv := text_conv b w
      go_wp2_with fail
      go_ret
      exact ⟨rfl, (Below.refl _ _).alloc (Nat.le_refl _) _⟩
end Go.Proofs.Ytmgpecomgffelaa
