/- Contracts: a row's bytes, of the program and of the reference. -/
import Derived.Test.YtmgpecomgffelaaCodF
namespace Go.Proofs.Ytmgpecomgffelaa
open Go.RowKit
set_option linter.unusedVariables false
theorem ev_size (v : Val) (h : gd v = true) : (ev v).size ≤ 300 := by
  obtain ⟨k, n, f, s⟩ := v
  have hz := encV_size k n f s
  have hk := goodV_kind h
  show (encV k n f s).size ≤ 300
  rcases hk with rfl | rfl | rfl | rfl | rfl
  · have : (bodyE 0 n f s).size = 0 := rfl
    omega
  · have : (bodyE 1 n f s).size = 1 := bs_size _
    omega
  · have : (bodyE 2 n f s).size = 8 := (bs_size _).trans (be_len _ _)
    omega
  · have : (bodyE 3 n f s).size = 8 := (bs_size _).trans (be_len _ _)
    omega
  · have hs := ((good4 n f s).1 h).2
    have : (bodyE 4 n f s).size = 2 + s.size := by
      show (bs [s.size / 256, s.size % 256] ++ s).size = _
      rw [ByteArray.size_append, bs_size]
      rfl
    omega
theorem encL_size (l : List Val) (k : Nat) (hk : k ≤ l.length) (h : (l.take k).all gd = true) : (encL (l.take k)).size ≤ k * 300 := by
  induction k with
  | zero => exact Nat.le_refl _
  | succ k ih =>
    have hlt : k < l.length := by omega
    rw [all_step l k hlt, Bool.and_eq_true] at h
    rw [List.take_succ_eq_append_getElem hlt, encL_snoc, ByteArray.size_append]
    have := ih (by omega) h.1
    have := ev_size _ h.2
    omega
theorem take_size (l : List Val) (k : Nat) (hk : k ≤ l.length) (h6 : l.length ≤ 6) (h : (l.take k).all gd = true) : (bs [l.length] ++ encL (l.take k)).size ≤ 2000 := by
  have := encL_size l k hk h
  rw [ByteArray.size_append, bs_size]
  simp only [List.length_cons, List.length_nil]
  omega
theorem rows_ok (l : List Val) (h6 : l.length ≤ 6) (h : l.all gd = true) : rowS l = rowB l ∧ rowE l = 0 := by
  unfold rowS rowE rowG
  rw [decide_eq_true h6, h]
  exact ⟨rfl, (if_neg (by omega)).trans rfl⟩
theorem rows_bad (l : List Val) (h6 : l.length ≤ 6) (h : l.all gd = false) : rowS l = ⟨#[]⟩ ∧ rowE l = 11 := by
  unfold rowS rowE rowG
  rw [decide_eq_true h6, h]
  exact ⟨rfl, (if_neg (by omega)).trans rfl⟩

theorem row_many (A : Option Addr) (c n : Nat) (h : 6 < n) (w : World) : Calls Try.prog 31 #[.slice A n c] w fun e w' => e = .returned (.tuple #[.string ⟨#[]⟩, .int .i64 3]) ∧ w = w' := by
  have t1 : decide ((6 : Int) < (n : Int)) = true := by rw [decide_eq_true]; omega
  have t2 : decide (6 < n) = true := by rw [decide_eq_true]; omega
  go_enter Try.func31, Try.ntmps31
  go_wp2_with fail
  go_ret2
  exact ⟨rfl, rfl⟩
set_option maxRecDepth 100000 in
theorem row_few (A : Option Addr) (c : Nat) (l : List Val) (w : World) (h : RdV w A l) (hl : l.length ≤ 6) (hf : ∀ v ∈ l, v.f < two64) :
    Calls Try.prog 31 #[.slice A l.length c] w fun e w' => e = .returned (.tuple #[.string (rowS l), .int .i64 (rowE l)]) ∧ Below w.heap.size w w' := by
  have hst := run_sf
  have t1 : decide ((6 : Int) < (l.length : Int)) = false := by rw [decide_eq_false]; omega
  have t2 : decide (6 < l.length) = false := by rw [decide_eq_false]; omega
  have H := Lib.hid h
  have Hf := Lib.hid hf
  have hw8 : IntKind.u8.wrap (l.length : Int) = (l.length : Int) := by rw [IntKind.wrap_u8]; omega
  have c1 := conv1 w w.heap.size rfl (l.length : Int) (by omega) (by omega)
  rw [Int.toNat_natCast] at c1
  clear h hf
  go_enter Try.func31, Try.ntmps31
  go_wp2_with fail
  have hb0 : Below w.heap.size w (w.alloc (.cells #[.int .u8 (l.length : Int)] 5)) := (Below.refl _ _).alloc (Nat.le_refl _) _
  clear c1
  go_loopw [4, 19] (fun s i wr => ∃ k : Nat, k ≤ l.length ∧ i = .int .i64 k ∧ s = .string (bs [l.length] ++ encL (l.take k)) ∧ (l.take k).all gd = true ∧ Below w.heap.size w wr) (fun _ i _ => l.length - (intOf i).toNat)
  case atStart => exact ⟨0, by omega, rfl, by rw [List.take_zero]; exact congrArg Value.string (append_nil _).symm, rfl, hb0⟩
  case round =>
    obtain ⟨k, hk, rfl, rfl, hall, hb⟩ := hrel
    by_cases hlt : k < l.length
    · obtain ⟨ad, rfl, q0, q1, q2, q3⟩ := RdV.at (H.out.keep hb (Nat.le_refl _)) k hlt
      have hstep := encL_step l k hlt
      have hastep := all_step l k hlt
      have hbad := all_bad l k hlt
      have hcall := enc_any l[k].kind l[k].n l[k].f l[k].s (Hf.out _ (List.getElem_mem hlt))
      have hze := ev_size l[k]
      have hzt := take_size l k hk hl hall
      have hw1 : IntKind.i64.wrap ((k : Int) + 1) = (k : Int) + 1 := by rw [IntKind.wrap_i64]; omega
      rw [hall, Bool.true_and] at hastep
      generalize l[k] = x at *
      generalize bs [l.length] ++ encL (l.take k) = cur at *
      have Hs := Lib.hid hstep
      have Ha := Lib.hid hastep
      have Hb := Lib.hid hbad
      clear hstep hastep hbad
      cases hg : gd x with
      | true =>
        have e1 : encS x.kind x.n x.f x.s = ev x := if_pos hg
        have e2 : encE x.kind x.n x.f x.s = 0 := if_pos hg
        rw [e1, e2] at hcall
        have hze := hze hg
        have Hg := Lib.hid hg
        clear e1 e2 hg
        generalize ev x = y at *
        go_wp2_with fail
        refine (hcall _).mono ?_
        rintro e w1 ⟨rfl, h1⟩
        have hb1 := (hb.alloc hb.size _).trans (h1.mono (by have := hb.size; simp; omega))
        go_wp2_with fail
        exact ⟨⟨k + 1, by omega, by go_num, by rw [Hs.out], by rw [Ha.out]; exact Hg.out, hb1⟩, by simp [intOf]; omega⟩
      | false =>
        have e1 : encS x.kind x.n x.f x.s = ⟨#[]⟩ := if_neg (fun h => by rw [show goodV x.kind x.n x.f x.s = _ from hg] at h; exact absurd h (by simp))
        have e2 : encE x.kind x.n x.f x.s = 11 := if_neg (fun h => by rw [show goodV x.kind x.n x.f x.s = _ from hg] at h; exact absurd h (by simp))
        rw [e1, e2] at hcall
        have Hbb := Lib.hid (rows_bad l hl (Hb.out hg))
        clear e1 e2 hg hze
        go_wp2_with fail
        refine (hcall _).mono ?_
        rintro e w1 ⟨rfl, h1⟩
        have hb1 := (hb.alloc hb.size _).trans (h1.mono (by have := hb.size; simp; omega))
        go_wp2_with fail
        go_ret2
        exact ⟨by rw [Hbb.out.1, Hbb.out.2]; rfl, hb1⟩
    · obtain rfl : k = l.length := by omega
      rw [List.take_length] at *
      have Hall := Lib.hid (rows_ok l hl hall)
      clear hall
      go_wp2_with fail
      go_ret2
      exact ⟨by rw [Hall.out.1, Hall.out.2]; rfl, hb⟩
theorem row_any (A : Option Addr) (c : Nat) (l : List Val) (w : World) (h : RdV w A l) (hf : ∀ v ∈ l, v.f < two64) :
    Calls Try.prog 31 #[.slice A l.length c] w fun e w' => e = .returned (.tuple #[.string (rowS l), .int .i64 (rowE l)]) ∧ Below w.heap.size w w' := by
  by_cases h6 : 6 < l.length
  · have e1 : rowS l = ⟨#[]⟩ := by unfold rowS rowG; rw [decide_eq_false (by omega), Bool.false_and]; rfl
    have e2 : rowE l = 3 := if_pos h6
    rw [e1, e2]
    exact (row_many A c l.length h6 w).mono fun e w' ⟨h1, h2⟩ => ⟨h1, h2 ▸ Below.refl _ _⟩
  · exact row_few A c l w h (by omega) hf

theorem rrow_many (A : Option Addr) (c n : Nat) (h : 6 < n) (w : World) : Calls Try.prog 32 #[.slice A n c] w fun e w' => e = .returned (.tuple #[.string ⟨#[]⟩, .int .i64 3]) ∧ w = w' := by
  have t1 : decide ((6 : Int) < (n : Int)) = true := by rw [decide_eq_true]; omega
  have t2 : decide (6 < n) = true := by rw [decide_eq_true]; omega
  go_enter Try.func32, Try.ntmps32
  go_wp2_with fail
  go_ret2
  exact ⟨rfl, rfl⟩
set_option maxRecDepth 100000 in
theorem rrow_few (A : Option Addr) (c : Nat) (l : List Val) (w : World) (h : RdV w A l) (hl : l.length ≤ 6) (hf : ∀ v ∈ l, v.f < two64) :
    Calls Try.prog 32 #[.slice A l.length c] w fun e w' => e = .returned (.tuple #[.string (rowS l), .int .i64 (rowE l)]) ∧ Below w.heap.size w w' := by
  have hst := run_sf
  have t1 : decide ((6 : Int) < (l.length : Int)) = false := by rw [decide_eq_false]; omega
  have t2 : decide (6 < l.length) = false := by rw [decide_eq_false]; omega
  have H := Lib.hid h
  have Hf := Lib.hid hf
  have hw8 : IntKind.u8.wrap (l.length : Int) = (l.length : Int) := by rw [IntKind.wrap_u8]; omega
  have c1 := conv1 w w.heap.size rfl (l.length : Int) (by omega) (by omega)
  rw [Int.toNat_natCast] at c1
  clear h hf
  go_enter Try.func32, Try.ntmps32
  go_wp2_with fail
  have hb0 : Below w.heap.size w (w.alloc (.cells #[.int .u8 (l.length : Int)] 5)) := (Below.refl _ _).alloc (Nat.le_refl _) _
  clear c1
  go_loopw [4, 5] (fun s i wr => ∃ k : Nat, k ≤ l.length ∧ i = .int .i64 k ∧ s = .string (bs [l.length] ++ encL (l.take k)) ∧ (l.take k).all gd = true ∧ Below w.heap.size w wr) (fun _ i _ => l.length - (intOf i).toNat)
  case atStart => exact ⟨0, by omega, rfl, by rw [List.take_zero]; exact congrArg Value.string (append_nil _).symm, rfl, hb0⟩
  case round =>
    obtain ⟨k, hk, rfl, rfl, hall, hb⟩ := hrel
    by_cases hlt : k < l.length
    · obtain ⟨ad, rfl, q0, q1, q2, q3⟩ := RdV.at (H.out.keep hb (Nat.le_refl _)) k hlt
      have hstep := encL_step l k hlt
      have hastep := all_step l k hlt
      have hbad := all_bad l k hlt
      have hcall := renc_any l[k].kind l[k].n l[k].f l[k].s (Hf.out _ (List.getElem_mem hlt))
      have hze := ev_size l[k]
      have hzt := take_size l k hk hl hall
      have hw1 : IntKind.i64.wrap ((k : Int) + 1) = (k : Int) + 1 := by rw [IntKind.wrap_i64]; omega
      rw [hall, Bool.true_and] at hastep
      generalize l[k] = x at *
      generalize bs [l.length] ++ encL (l.take k) = cur at *
      have Hs := Lib.hid hstep
      have Ha := Lib.hid hastep
      have Hb := Lib.hid hbad
      clear hstep hastep hbad
      cases hg : gd x with
      | true =>
        have e1 : encS x.kind x.n x.f x.s = ev x := if_pos hg
        have e2 : encE x.kind x.n x.f x.s = 0 := if_pos hg
        rw [e1, e2] at hcall
        have hze := hze hg
        have Hg := Lib.hid hg
        clear e1 e2 hg
        generalize ev x = y at *
        go_wp2_with fail
        refine (hcall _).mono ?_
        rintro e w1 ⟨rfl, h1⟩
        have hb1 := hb.trans (h1.mono hb.size)
        go_wp2_with fail
        exact ⟨⟨k + 1, by omega, by go_num, by rw [Hs.out], by rw [Ha.out]; exact Hg.out, hb1⟩, by simp [intOf]; omega⟩
      | false =>
        have e1 : encS x.kind x.n x.f x.s = ⟨#[]⟩ := if_neg (fun h => by rw [show goodV x.kind x.n x.f x.s = _ from hg] at h; exact absurd h (by simp))
        have e2 : encE x.kind x.n x.f x.s = 11 := if_neg (fun h => by rw [show goodV x.kind x.n x.f x.s = _ from hg] at h; exact absurd h (by simp))
        rw [e1, e2] at hcall
        have Hbb := Lib.hid (rows_bad l hl (Hb.out hg))
        clear e1 e2 hg hze
        go_wp2_with fail
        refine (hcall _).mono ?_
        rintro e w1 ⟨rfl, h1⟩
        have hb1 := hb.trans (h1.mono hb.size)
        go_wp2_with fail
        go_ret2
        exact ⟨by rw [Hbb.out.1, Hbb.out.2]; rfl, hb1⟩
    · obtain rfl : k = l.length := by omega
      rw [List.take_length] at *
      have Hall := Lib.hid (rows_ok l hl hall)
      clear hall
      go_wp2_with fail
      go_ret2
      exact ⟨by rw [Hall.out.1, Hall.out.2]; rfl, hb⟩
theorem rrow_any (A : Option Addr) (c : Nat) (l : List Val) (w : World) (h : RdV w A l) (hf : ∀ v ∈ l, v.f < two64) :
    Calls Try.prog 32 #[.slice A l.length c] w fun e w' => e = .returned (.tuple #[.string (rowS l), .int .i64 (rowE l)]) ∧ Below w.heap.size w w' := by
  by_cases h6 : 6 < l.length
  · have e1 : rowS l = ⟨#[]⟩ := by unfold rowS rowG; rw [decide_eq_false (by omega), Bool.false_and]; rfl
    have e2 : rowE l = 3 := if_pos h6
    rw [e1, e2]
    exact (rrow_many A c l.length h6 w).mono fun e w' ⟨h1, h2⟩ => ⟨h1, h2 ▸ Below.refl _ _⟩
  · exact rrow_few A c l w h (by omega) hf
end Go.Proofs.Ytmgpecomgffelaa
