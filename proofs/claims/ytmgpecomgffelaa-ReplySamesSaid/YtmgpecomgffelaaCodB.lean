/- Contracts: a number's eight bytes, and the number of bytes, of the program and of the reference. -/
import Derived.Test.YtmgpecomgffelaaCodA
namespace Go.Proofs.Ytmgpecomgffelaa
open Go.RowKit
set_option linter.unusedVariables false
theorem mk8 (w : World) : (Instr.makeSlice 111 (.int .i64 8) (.int .i64 8)).run Try.prog w = .ok (.slice (some ⟨w.heap.size, 0, none⟩) 8 8) (w.alloc (.cells (Array.replicate 8 (.int .u8 0)) 5)) := by kernel_rfl
def beArr (u k : Nat) : Array Value := (((List.range k).map (beAt u 8) ++ List.replicate (8 - k) 0).map fun (d : Nat) => Value.int IntKind.u8 (d : Int)).toArray
theorem beArr_size (u k : Nat) (h : k ≤ 8) : (beArr u k).size = 8 := by
  unfold beArr
  simp
  omega
theorem beArr_at (u k : Nat) (h : k < 8) : (beArr u k)[k]? = some (.int .u8 0) := by
  unfold beArr
  simp
  rw [List.getElem?_append_right (by simp)]
  simp [List.getElem?_replicate]
  omega
theorem beArr_step (u k : Nat) (h : k < 8) : (beArr u k).setIfInBounds k (.int .u8 (beAt u 8 k : Nat)) = beArr u (k + 1) := by
  unfold beArr
  obtain ⟨m, hm⟩ : ∃ m, 8 - k = m + 1 := ⟨7 - k, by omega⟩
  have hm' : 8 - (k + 1) = m := by omega
  rw [hm, hm', List.replicate_succ, List.range_succ]
  simp
def beArr' (u k : Nat) : Array Value := ((List.replicate (8 - k) 0 ++ (be u 8).drop (8 - k)).map fun (d : Nat) => Value.int IntKind.u8 (d : Int)).toArray
theorem beArr'_size (u k : Nat) (h : k ≤ 8) : (beArr' u k).size = 8 := by
  unfold beArr'
  simp [be_len]
theorem beArr'_at (u k : Nat) (h : k < 8) : (beArr' u k)[7 - k]? = some (.int .u8 0) := by
  unfold beArr'
  simp only [List.map_append, List.map_replicate, List.getElem?_toArray]
  rw [List.getElem?_append_left (by simp; omega)]
  simp [List.getElem?_replicate]
  omega
theorem beArr'_step (u k : Nat) (h : k < 8) : (beArr' u k).setIfInBounds (7 - k) (.int .u8 (u / 256 ^ k % 256 : Nat)) = beArr' u (k + 1) := by
  unfold beArr'
  obtain ⟨m, hm⟩ : ∃ m, 8 - k = m + 1 := ⟨7 - k, by omega⟩
  have hm' : 8 - (k + 1) = m := by omega
  have hm2 : 7 - k = m := by omega
  have hm3 : k = 7 - m := by omega
  have hd : (be u 8).drop m = (u / 256 ^ k % 256) :: (be u 8).drop (m + 1) := by
    rw [List.drop_eq_getElem_cons (by rw [be_len]; omega)]
    congr 1
    unfold be beAt
    simp
    rw [hm3]
  rw [hm, hm', hm2, hd, List.replicate_succ']
  simp
theorem beArr'_end (u : Nat) : beArr' u 8 = beArr u 8 := by
  unfold beArr' beArr be
  simp
theorem conv8 (u : Nat) (w : World) : (convert 111 9 (.slice (some ⟨w.heap.size, 0, none⟩) 8 8)).run Try.prog (w.alloc (.cells (beArr u 8) 5)) = .ok (.string (bs (be u 8))) (w.alloc (.cells (beArr u 8) 5)) := by
  have h := run_convert_bytes_back (P := Try.prog) (w.alloc (.cells (beArr u 8) 5)) 111 9 5 ⟨w.heap.size, 0, none⟩ 8 ((be u 8).map UInt8.ofNat) Try.underlying111 Try.underlying5 Try.underlying9 (fun j hj => by
    have e : (⟨w.heap.size, 0, none⟩ : Addr).add j = ⟨w.heap.size, j, none⟩ := by unfold Addr.add; split <;> simp_all
    rw [e, World.cell?_alloc_new]
    have hj' : j < 8 := by simpa [be_len] using hj
    unfold beArr be
    simp [hj']
    have := beAt_lt u 8 j
    omega)
  have hl : ((be u 8).map UInt8.ofNat).length = 8 := by simp [be_len]
  rw [hl] at h
  exact h
theorem shr8 (u k : Nat) (h : k < 8) : IntKind.u8.wrap ((u : Int) / 2 ^ (56 - 8 * k)) = ((beAt u 8 k : Nat) : Int) := by
  have e : ((u : Int) / 2 ^ (56 - 8 * k)) = ((u / 2 ^ (56 - 8 * k) : Nat) : Int) := by simp
  have e2 : (2 : Nat) ^ (56 - 8 * k) = 256 ^ (8 - 1 - k) := by
    rw [show (256 : Nat) = 2 ^ 8 by decide, ← Nat.pow_mul]; congr 1; omega
  unfold beAt
  rw [e, e2, IntKind.wrap_u8]
  omega

set_option maxRecDepth 100000 in
theorem eight_any (u : Nat) (h : u < 18446744073709551616) (w : World) : Calls Try.prog 91 #[.int .u64 u] w fun e w' => e = .returned (.string (bs (be u 8))) ∧ Below w.heap.size w w' := by
  have h2 := mk8
  go_enter Try.func91, Try.ntmps91
  go_wp2_with fail
  go_loopw [8] (fun i wr => ∃ k : Nat, k ≤ 8 ∧ i = .int .i64 k ∧ wr = w.alloc (.cells (beArr u k) 5)) (fun i _ => (8 - intOf i).toNat)
  case atStart => exact ⟨0, by omega, rfl, by rfl⟩
  case round =>
    obtain ⟨k, hk, rfl, rfl⟩ := hrel
    by_cases hlt : k < 8
    · have hd := shr8 u k hlt
      have hd2 : beAt u 8 k < 256 := beAt_lt u 8 k
      have hstep := beArr_step u k hlt
      have hat := beArr_at u k hlt
      have hsz := beArr_size u k hk
      generalize beAt u 8 k = d at *
      have Hs := Lib.hid hstep
      clear hstep h2
      go_wp2_with fail
      refine ⟨⟨k + 1, by omega, by go_num, ?_⟩, ?_⟩
      · rw [← Hs.out]
      · simp [intOf]; omega
    · obtain rfl : k = 8 := by omega
      have hcv := conv8 u w
      go_wp2_with fail
      go_ret
      exact ⟨rfl, (Below.refl _ _).alloc (Nat.le_refl _) _⟩

set_option maxRecDepth 100000 in
theorem reight_any (u : Nat) (h : u < 18446744073709551616) (w : World) : Calls Try.prog 92 #[.int .u64 u] w fun e w' => e = .returned (.string (bs (be u 8))) ∧ Below w.heap.size w w' := by
  have h2 := mk8
  go_enter Try.func92, Try.ntmps92
  go_wp2_with fail
  go_loopw [0, 4] (fun u' i wr => ∃ k : Nat, k ≤ 8 ∧ u' = .int .u64 (u / 256 ^ k : Nat) ∧ wr = w.alloc (.cells (beArr' u k) 5) ∧ ((∃ p : Nat, p + k = 7 ∧ i = .int .i64 p) ∨ (k = 8 ∧ i = .int .i64 (-1)))) (fun _ i _ => (intOf i + 1).toNat)
  case atStart => exact ⟨0, by omega, by rw [Nat.pow_zero, Nat.div_one], by rfl, Or.inl ⟨7, rfl, rfl⟩⟩
  case round =>
    obtain ⟨k, hk, rfl, rfl, hi⟩ := hrel
    rcases hi with ⟨p, hp, rfl⟩ | ⟨rfl, rfl⟩
    · have hlt : k < 8 := by omega
      have hpk : 7 - k = p := by omega
      have hstep := beArr'_step u k hlt
      have hat := beArr'_at u k hlt
      have hsz := beArr'_size u k hk
      have Hu := Lib.hid (show u / 256 ^ (k + 1) = u / 256 ^ k / 256 by rw [Nat.pow_succ, Nat.div_div_eq_div_mul])
      have hx : u / 256 ^ k < 18446744073709551616 := Nat.lt_of_le_of_lt (Nat.div_le_self _ _) h
      rw [hpk] at hstep hat
      generalize u / 256 ^ k = x at *
      have Hs := Lib.hid hstep
      have hm1 : ((x : Int).tmod 256) = ((x % 256 : Nat) : Int) := by
        rw [Int.tmod_eq_emod_of_nonneg (by omega)]; omega
      have hm2 : x % 256 < 256 := Nat.mod_lt _ (by decide)
      have hm3 : ((x : Int).tdiv 256) = ((x / 256 : Nat) : Int) := by
        rw [Int.tdiv_eq_ediv_of_nonneg (by omega)]; omega
      have hm4 : IntKind.u8.wrap ((x : Int) % 256) = ((x % 256 : Nat) : Int) := by rw [IntKind.wrap_u8]; omega
      clear hstep h2 hpk
      go_wp2_with fail
      refine ⟨⟨k + 1, by omega, by rw [Hu.out]; simp, by rw [← Hs.out]; simp, ?_⟩, by simp [intOf]⟩
      by_cases hp0 : p = 0
      · exact Or.inr ⟨by omega, by rw [hp0]; rfl⟩
      · exact Or.inl ⟨p - 1, by omega, by go_num⟩
    · have hcv := conv8 u w
      rw [← beArr'_end] at hcv
      go_wp2_with fail
      go_ret
      exact ⟨rfl, (Below.refl _ _).alloc (Nat.le_refl _) _⟩

theorem shl8 (u d : Nat) (hu : u < 72057594037927936) (hd : d < 256) : bits .or .u64 (IntKind.u64.wrap ((u : Int) * 256)) (d : Int) = ((u * 256 + d : Nat) : Int) := by
  have e : IntKind.u64.wrap ((u : Int) * 256) = ((u * 256 : Nat) : Int) := by
    rw [show ((u : Int) * 256) = ((u * 256 : Nat) : Int) by simp]
    exact wr _ (by omega)
  rw [e]
  unfold bits
  simp only
  rw [ofi, ofi]
  have h16 : u * 256 = 2 ^ 8 * u := by omega
  have h17 : 2 ^ 8 * u + d = u * 256 + d := by omega
  have e : (BitVec.ofNat 64 (u * 256) ||| BitVec.ofNat 64 d).toNat = u * 256 + d := by
    rw [BitVec.toNat_or, BitVec.toNat_ofNat, BitVec.toNat_ofNat, Nat.mod_eq_of_lt (by omega), Nat.mod_eq_of_lt (by omega), h16, ← Nat.two_pow_add_eq_or_of_lt (i := 8) hd, h17]
  exact (congrArg (fun n : Nat => IntKind.u64.wrap (n : Int)) e).trans (wr _ (by omega))
theorem numB_bd (s : ByteArray) (k : Nat) (h : k < 8) : numB s 0 k < 72057594037927936 := by
  have h1 := numB_lt s 0 k
  have h2 : (256 : Nat) ^ k ≤ 256 ^ 7 := Nat.pow_le_pow_right (by decide) (by omega)
  have h3 : (256 : Nat) ^ 7 = 72057594037927936 := by decide
  omega

set_option maxRecDepth 100000 in
theorem number_any (s : ByteArray) (h : s.size ≤ 8) (w : World) : Calls Try.prog 138 #[.string s] w fun e w' => e = .returned (.int .u64 (numB s 0 s.size : Nat)) ∧ w = w' := by
  go_enter Try.func138, Try.ntmps138
  go_wp2_with fail
  go_loop [3, 7] (fun u i => ∃ k : Nat, k ≤ s.size ∧ i = .int .i64 k ∧ u = .int .u64 (numB s 0 k : Nat)) (fun _ i => s.size - (intOf i).toNat)
  case atStart => exact ⟨0, by omega, rfl, rfl⟩
  case round =>
    obtain ⟨k, hk, rfl, rfl⟩ := hrel
    by_cases hlt : k < s.size
    · have hsa := sAt_eq s k hlt
      have hc := sAt_lt s k
      have hbd := numB_bd s k (by omega)
      have Hn := Lib.hid (show numB s 0 (k + 1) = numB s 0 k * 256 + sAt s k by rw [numB, Nat.zero_add])
      have hw2 : IntKind.u64.wrap ((sAt s k : Nat) : Int) = ((sAt s k : Nat) : Int) := wr _ (by omega)
      generalize numB s 0 k = u at *
      generalize sAt s k = c at *
      have hsh := shl8 u c hbd hc
      have hw3 : IntKind.u64.wrap ((u : Int) * 256) = (u : Int) * 256 := by rw [IntKind.wrap_u64]; omega
      rw [hw3] at hsh
      go_wp2_with fail
      exact ⟨⟨k + 1, by omega, by go_num, by rw [Hn.out]; simp⟩, by simp [intOf]; omega⟩
    · obtain rfl : k = s.size := by omega
      go_wp2_with fail
      go_ret
      exact ⟨rfl, rfl⟩

set_option maxRecDepth 100000 in
theorem rnumber_any (s : ByteArray) (h : s.size ≤ 8) (w : World) : Calls Try.prog 94 #[.string s] w fun e w' => e = .returned (.int .u64 (numB s 0 s.size : Nat)) ∧ w = w' := by
  go_enter Try.func94, Try.ntmps94
  go_wp2_with fail
  go_loop [3, 4] (fun u i => ∃ k : Nat, k ≤ s.size ∧ i = .int .i64 k ∧ u = .int .u64 (numB s 0 k : Nat)) (fun _ i => s.size - (intOf i).toNat)
  case atStart => exact ⟨0, by omega, rfl, rfl⟩
  case round =>
    obtain ⟨k, hk, rfl, rfl⟩ := hrel
    by_cases hlt : k < s.size
    · have hsa := sAt_eq s k hlt
      have hc := sAt_lt s k
      have hbd := numB_bd s k (by omega)
      have Hn := Lib.hid (show numB s 0 (k + 1) = numB s 0 k * 256 + sAt s k by rw [numB, Nat.zero_add])
      have hw2 : IntKind.u64.wrap ((sAt s k : Nat) : Int) = ((sAt s k : Nat) : Int) := wr _ (by omega)
      generalize numB s 0 k = u at *
      generalize sAt s k = c at *
      have hw1 : IntKind.u64.wrap ((u : Int) * 256) = ((u * 256 : Nat) : Int) := by rw [IntKind.wrap_u64]; omega
      have hw3 : IntKind.u64.wrap ((u : Int) * 256 + (c : Int)) = ((u * 256 + c : Nat) : Int) := by rw [IntKind.wrap_u64]; omega
      have hw4 : IntKind.u64.wrap (((u * 256 : Nat) : Int) + (c : Int)) = ((u * 256 + c : Nat) : Int) := by rw [IntKind.wrap_u64]; omega
      go_wp2_with fail
      exact ⟨⟨k + 1, by omega, by go_num, by rw [Hn.out]; simp⟩, by simp [intOf]; omega⟩
    · obtain rfl : k = s.size := by omega
      go_wp2_with fail
      go_ret
      exact ⟨rfl, rfl⟩
end Go.Proofs.Ytmgpecomgffelaa
