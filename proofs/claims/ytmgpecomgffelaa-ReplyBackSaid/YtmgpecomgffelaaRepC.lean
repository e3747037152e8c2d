/- Contracts of package reply and of its reference: two bytes, what is good, the bytes of rows. -/
import Derived.Test.YtmgpecomgffelaaRepB
namespace Go.Proofs.Ytmgpecomgffelaa
open Go.RowKit
set_option linter.unusedVariables false
def B3 (w : World) (b : Nat) (c n : Int) (A : Option Addr) (l k : Nat) : Prop := BoxT w b (a3 c n A l k)
theorem B3.cells {w : World} {b : Nat} {c n : Int} {A : Option Addr} {l k : Nat} (h : B3 w b c n A l k) : (w.cell? ⟨b, 0, none⟩ = some (.int .i64 c) ∧ w.frozen? ⟨b, 0, none⟩ = false) ∧ (w.cell? ⟨b, 1, none⟩ = some (.int .i64 n) ∧ w.frozen? ⟨b, 1, none⟩ = false) ∧ (w.cell? ⟨b, 2, none⟩ = some (.slice A l k) ∧ w.frozen? ⟨b, 2, none⟩ = false) :=
  ⟨h 0 _ rfl, h 1 _ rfl, h 2 _ rfl⟩
theorem B3.new (w : World) (c n : Int) (A : Option Addr) (l k : Nat) (t : TypeId) : B3 (w.alloc (.cells (a3 c n A l k) t)) w.heap.size c n A l k := BoxT.new w _ t
theorem B3.keep {w w' : World} {b : Nat} {c n : Int} {A : Option Addr} {l k : Nat} (h : B3 w b c n A l k) (hb : Below w.heap.size w w') : B3 w' b c n A l k := BoxT.keep h hb
set_option maxRecDepth 100000 in
theorem two_any (m : Nat) (h : m < 65536) (w : World) : Calls Try.prog 113 #[.int .i64 m] w fun e w' => e = .returned (.string (two m)) ∧ Below w.heap.size w w' := by
  have c2 := conv2 w w.heap.size rfl ((m : Int) / 256) ((m : Int) % 256) (by omega) (by omega) (by omega) (by omega)
  have k1 : IntKind.u8.wrap ((m : Int) / 256) = (m : Int) / 256 := by rw [IntKind.wrap_u8]; omega
  have k2 : IntKind.u8.wrap (m : Int) = (m : Int) % 256 := by rw [IntKind.wrap_u8]
  have k3 : IntKind.u8.wrap ((m : Int) % 256) = (m : Int) % 256 := by rw [IntKind.wrap_u8]; omega
  rw [show ((m : Int) / 256).toNat = m / 256 by omega, show ((m : Int) % 256).toNat = m % 256 by omega] at c2
  go_enter Try.func113, Try.ntmps113
  go_wp2_with fail
  go_ret
  exact ⟨rfl, (Below.refl _ _).alloc (Nat.le_refl _) _⟩
set_option maxRecDepth 100000 in
theorem rtwo_any (m : Nat) (h : m < 65536) (w : World) : Calls Try.prog 124 #[.int .i64 m] w fun e w' => e = .returned (.string (two m)) ∧ Below w.heap.size w w' := by
  have c2 := conv2 w w.heap.size rfl ((m : Int) / 256) ((m : Int) % 256) (by omega) (by omega) (by omega) (by omega)
  have k1 : IntKind.u8.wrap ((m : Int) / 256) = (m : Int) / 256 := by rw [IntKind.wrap_u8]; omega
  have k3 : IntKind.u8.wrap ((m : Int) % 256) = (m : Int) % 256 := by rw [IntKind.wrap_u8]; omega
  rw [show ((m : Int) / 256).toNat = m / 256 by omega, show ((m : Int) % 256).toNat = m % 256 by omega] at c2
  go_enter Try.func124, Try.ntmps124
  go_wp2_with fail
  go_ret
  exact ⟨rfl, (Below.refl _ _).alloc (Nat.le_refl _) _⟩
theorem rowE_iff (l : List Val) : rowE l = 0 ↔ rowG l = true := by
  rw [rowG_iff]
  unfold rowE
  by_cases h : 6 < l.length
  · rw [if_pos h]
    constructor
    · intro h2; exact absurd h2 (by decide)
    · rintro ⟨h2, _⟩; omega
  · rw [if_neg h]
    cases hg : l.all gd with
    | true => simp; omega
    | false => simp
theorem rowS_good {l : List Val} (h : rowG l = true) : rowS l = rowB l := if_pos h
set_option maxRecDepth 100000 in
theorem clo_bad (A : Option Addr) (c : Nat) (l : List Val) (w : World) (h : RdV w A l) (hf : ∀ v ∈ l, v.f < two64) : Calls Try.prog 126 #[.slice A l.length c] w fun e w' => e = .returned (.bool (!rowG l)) ∧ Below w.heap.size w w' := by
  have HC := Lib.hid (row_any A c l w h hf)
  cases hg : rowG l with
  | true =>
    have he := (rowE_iff l).2 hg
    rw [he] at HC
    clear he hg h hf
    go_enter Try.func126, Try.ntmps126
    go_wp2_with fail
    refine HC.out.mono ?_
    rintro e w1 ⟨rfl, b1⟩
    go_wp2_with fail
    go_ret
    exact ⟨rfl, b1⟩
  | false =>
    have he : ¬ rowE l = 0 := fun h => by rw [(rowE_iff l).1 h] at hg; cases hg
    have t1 : (rowE l == 0) = false := by rw [beq_eq_false_iff_ne]; exact he
    have t2 : (rowE l != 0) = true := by rw [bne, t1]; rfl
    clear he hg h hf
    generalize rowE l = z at *
    go_enter Try.func126, Try.ntmps126
    go_wp2_with fail
    refine HC.out.mono ?_
    rintro e w1 ⟨rfl, b1⟩
    go_wp2_with fail
    go_ret
    exact ⟨rfl, b1⟩
theorem allG_step (ls : List (List Val)) (k : Nat) (h : k < ls.length) (ha : (ls.take k).all rowG = true) : (ls.take (k + 1)).all rowG = rowG ls[k] := by
  rw [List.take_succ_eq_append_getElem h, List.all_append, ha]
  simp
theorem allG_bad (ls : List (List Val)) (k : Nat) (h : k < ls.length) (hb : rowG ls[k] = false) : ls.all rowG = false := by
  rw [List.all_eq_false]
  exact ⟨ls[k], List.getElem_mem h, by rw [hb]; simp⟩
def IdxP (ls : List (List Val)) (w : World) (e : Ending) (w' : World) : Prop := ∃ z : Int, e = .returned (.int .i64 z) ∧ decide (0 ≤ z) = (!ls.all rowG) ∧ Below w.heap.size w w'
set_option maxRecDepth 100000 in
set_option maxHeartbeats 1000000 in
theorem idx_any (A : Option Addr) (c : Nat) (ls : List (List Val)) (w : World) (h : RdRows w A ls) (hlen : ls.length ≤ 1000) (hf : ∀ l ∈ ls, ∀ v ∈ l, v.f < two64) : Calls Try.prog 140 #[.slice A ls.length c, .func (.func 126) #[] #[]] w (IdxP ls w) := by
  have H := Lib.hid h
  have HF := Lib.hid hf
  clear h hf
  go_enter Try.func140, Try.ntmps140
  go_wp2_with fail
  go_loopw [8] (fun i wr => ∃ k : Nat, k ≤ ls.length ∧ i = .int .i64 k ∧ (ls.take k).all rowG = true ∧ Below w.heap.size w wr) (fun i _ => ls.length - (intOf i).toNat)
  case atStart => exact ⟨0, by omega, rfl, rfl, Below.refl _ _⟩
  case round =>
    obtain ⟨k, hk, rfl, hall, hb⟩ := hrel
    by_cases hlt : k < ls.length
    · obtain ⟨ad, s, rfl, hc, hr, hn⟩ := (H.out.keep hb) k hlt
      have hcall := clo_bad s.A s.c ls[k] wr hr (HF.out _ (List.getElem_mem hlt))
      have hst := allG_step ls k hlt hall
      have hbd := allG_bad ls k hlt
      have hw1 : IntKind.i64.wrap ((k : Int) + 1) = (k : Int) + 1 := by rw [IntKind.wrap_i64]; omega
      generalize ls[k] = l at *
      cases hg : rowG l with
      | true =>
        rw [hg] at hcall
        have HC := Lib.hid hcall
        have Hs := Lib.hid (hst.trans hg)
        clear hcall hst hbd hr hn hall hg
        go_wp2_with fail
        refine HC.out.mono ?_
        rintro e w1 ⟨rfl, b1⟩
        have hb1 := hb.trans (b1.mono hb.size)
        go_wp2_with fail
        exact ⟨⟨k + 1, by omega, by go_num, Hs.out, hb1⟩, by simp [intOf]; omega⟩
      | false =>
        rw [hg] at hcall
        have HC := Lib.hid hcall
        have Hs := Lib.hid (hbd hg)
        clear hcall hst hbd hr hn hall hg
        go_wp2_with fail
        refine HC.out.mono ?_
        rintro e w1 ⟨rfl, b1⟩
        have hb1 := hb.trans (b1.mono hb.size)
        go_wp2_with fail
        go_ret
        exact ⟨k, rfl, by rw [Hs.out]; simp, hb1⟩
    · obtain rfl : k = ls.length := by omega
      rw [List.take_length] at hall
      have Hs := Lib.hid hall
      clear hall
      go_wp2_with fail
      go_ret
      exact ⟨-1, rfl, by rw [Hs.out]; rfl, hb⟩
set_option maxRecDepth 100000 in
theorem cont_any (A : Option Addr) (c : Nat) (ls : List (List Val)) (w : World) (h : RdRows w A ls) (hlen : ls.length ≤ 1000) (hf : ∀ l ∈ ls, ∀ v ∈ l, v.f < two64) : Calls Try.prog 125 #[.slice A ls.length c, .func (.func 126) #[] #[]] w fun e w' => e = .returned (.bool (!ls.all rowG)) ∧ Below w.heap.size w w' := by
  have HC := Lib.hid (idx_any A c ls w h hlen hf)
  clear h hf
  go_enter Try.func125, Try.ntmps125
  go_wp2_with fail
  refine HC.out.mono ?_
  rintro e w1 ⟨z, rfl, hz, b1⟩
  go_wp2_with fail
  go_ret
  exact ⟨rfl, b1⟩
set_option maxRecDepth 100000 in
theorem goodr_c0 (c n : Int) (A : Option Addr) (k : Nat) (ls : List (List Val)) (h : c < 0) (w : World) : Calls Try.prog 84 #[rv c n A ls.length k] w fun e w' => e = .returned (.bool false) ∧ Below w.heap.size w w' := by
  have t0 : decide (c < 0) = true := by rw [decide_eq_true]; omega
  clear h
  go_enter Try.func84, Try.ntmps84
  go_wp2_with fail
  go_ret
  exact ⟨rfl, (Below.refl _ _).alloc (Nat.le_refl _) _⟩
set_option maxRecDepth 100000 in
theorem goodr_c1 (c n : Int) (A : Option Addr) (k : Nat) (ls : List (List Val)) (h0 : 0 ≤ c) (h : 1000 < c) (w : World) : Calls Try.prog 84 #[rv c n A ls.length k] w fun e w' => e = .returned (.bool false) ∧ Below w.heap.size w w' := by
  have t0 : decide (c < 0) = false := by rw [decide_eq_false]; omega
  have t1 : decide ((1000 : Int) < c) = true := by rw [decide_eq_true]; omega
  clear h
  go_enter Try.func84, Try.ntmps84
  go_wp2_with fail
  go_ret
  exact ⟨rfl, (Below.refl _ _).alloc (Nat.le_refl _) _⟩
set_option maxRecDepth 100000 in
theorem goodr_n0 (c n : Int) (A : Option Addr) (k : Nat) (ls : List (List Val)) (h0 : 0 ≤ c ∧ c ≤ 1000) (h : n < 0) (w : World) : Calls Try.prog 84 #[rv c n A ls.length k] w fun e w' => e = .returned (.bool false) ∧ Below w.heap.size w w' := by
  have t0 : decide (c < 0) = false := by rw [decide_eq_false]; omega
  have t1 : decide ((1000 : Int) < c) = false := by rw [decide_eq_false]; omega
  have t2 : decide (n < 0) = true := by rw [decide_eq_true]; omega
  clear h
  go_enter Try.func84, Try.ntmps84
  go_wp2_with fail
  go_ret
  exact ⟨rfl, (Below.refl _ _).alloc (Nat.le_refl _) _⟩
set_option maxRecDepth 100000 in
theorem goodr_n1 (c n : Int) (A : Option Addr) (k : Nat) (ls : List (List Val)) (h0 : 0 ≤ c ∧ c ≤ 1000) (h1 : 0 ≤ n) (h : 65535 < n) (w : World) : Calls Try.prog 84 #[rv c n A ls.length k] w fun e w' => e = .returned (.bool false) ∧ Below w.heap.size w w' := by
  have t0 : decide (c < 0) = false := by rw [decide_eq_false]; omega
  have t1 : decide ((1000 : Int) < c) = false := by rw [decide_eq_false]; omega
  have t2 : decide (n < 0) = false := by rw [decide_eq_false]; omega
  have t3 : decide ((65535 : Int) < n) = true := by rw [decide_eq_true]; omega
  clear h
  go_enter Try.func84, Try.ntmps84
  go_wp2_with fail
  go_ret
  exact ⟨rfl, (Below.refl _ _).alloc (Nat.le_refl _) _⟩
set_option maxRecDepth 100000 in
theorem goodr_l (c n : Int) (A : Option Addr) (k : Nat) (ls : List (List Val)) (h0 : 0 ≤ c ∧ c ≤ 1000) (h1 : 0 ≤ n ∧ n ≤ 65535) (h : 512 < ls.length) (w : World) : Calls Try.prog 84 #[rv c n A ls.length k] w fun e w' => e = .returned (.bool false) ∧ Below w.heap.size w w' := by
  have t0 : decide (c < 0) = false := by rw [decide_eq_false]; omega
  have t1 : decide ((1000 : Int) < c) = false := by rw [decide_eq_false]; omega
  have t2 : decide (n < 0) = false := by rw [decide_eq_false]; omega
  have t3 : decide ((65535 : Int) < n) = false := by rw [decide_eq_false]; omega
  have t4 : decide ((512 : Int) < (ls.length : Int)) = true := by rw [decide_eq_true]; omega
  have t5 : decide (512 < ls.length) = true := by rw [decide_eq_true]; omega
  clear h
  go_enter Try.func84, Try.ntmps84
  go_wp2_with fail
  go_ret
  exact ⟨rfl, (Below.refl _ _).alloc (Nat.le_refl _) _⟩
set_option maxRecDepth 100000 in
theorem rgoodr_c0 (c n : Int) (A : Option Addr) (k : Nat) (ls : List (List Val)) (h : c < 0) (w : World) : Calls Try.prog 85 #[rv c n A ls.length k] w fun e w' => e = .returned (.bool false) ∧ Below w.heap.size w w' := by
  have t0 : decide (c < 0) = true := by rw [decide_eq_true]; omega
  clear h
  go_enter Try.func85, Try.ntmps85
  go_wp2_with fail
  go_ret
  exact ⟨rfl, (Below.refl _ _).alloc (Nat.le_refl _) _⟩
set_option maxRecDepth 100000 in
theorem rgoodr_c1 (c n : Int) (A : Option Addr) (k : Nat) (ls : List (List Val)) (h0 : 0 ≤ c) (h : 1000 < c) (w : World) : Calls Try.prog 85 #[rv c n A ls.length k] w fun e w' => e = .returned (.bool false) ∧ Below w.heap.size w w' := by
  have t0 : decide (c < 0) = false := by rw [decide_eq_false]; omega
  have t1 : decide ((1000 : Int) < c) = true := by rw [decide_eq_true]; omega
  clear h
  go_enter Try.func85, Try.ntmps85
  go_wp2_with fail
  go_ret
  exact ⟨rfl, (Below.refl _ _).alloc (Nat.le_refl _) _⟩
set_option maxRecDepth 100000 in
theorem rgoodr_n0 (c n : Int) (A : Option Addr) (k : Nat) (ls : List (List Val)) (h0 : 0 ≤ c ∧ c ≤ 1000) (h : n < 0) (w : World) : Calls Try.prog 85 #[rv c n A ls.length k] w fun e w' => e = .returned (.bool false) ∧ Below w.heap.size w w' := by
  have t0 : decide (c < 0) = false := by rw [decide_eq_false]; omega
  have t1 : decide ((1000 : Int) < c) = false := by rw [decide_eq_false]; omega
  have t2 : decide (n < 0) = true := by rw [decide_eq_true]; omega
  clear h
  go_enter Try.func85, Try.ntmps85
  go_wp2_with fail
  go_ret
  exact ⟨rfl, (Below.refl _ _).alloc (Nat.le_refl _) _⟩
set_option maxRecDepth 100000 in
theorem rgoodr_n1 (c n : Int) (A : Option Addr) (k : Nat) (ls : List (List Val)) (h0 : 0 ≤ c ∧ c ≤ 1000) (h1 : 0 ≤ n) (h : 65535 < n) (w : World) : Calls Try.prog 85 #[rv c n A ls.length k] w fun e w' => e = .returned (.bool false) ∧ Below w.heap.size w w' := by
  have t0 : decide (c < 0) = false := by rw [decide_eq_false]; omega
  have t1 : decide ((1000 : Int) < c) = false := by rw [decide_eq_false]; omega
  have t2 : decide (n < 0) = false := by rw [decide_eq_false]; omega
  have t3 : decide ((65535 : Int) < n) = true := by rw [decide_eq_true]; omega
  clear h
  go_enter Try.func85, Try.ntmps85
  go_wp2_with fail
  go_ret
  exact ⟨rfl, (Below.refl _ _).alloc (Nat.le_refl _) _⟩
set_option maxRecDepth 100000 in
theorem rgoodr_l (c n : Int) (A : Option Addr) (k : Nat) (ls : List (List Val)) (h0 : 0 ≤ c ∧ c ≤ 1000) (h1 : 0 ≤ n ∧ n ≤ 65535) (h : 512 < ls.length) (w : World) : Calls Try.prog 85 #[rv c n A ls.length k] w fun e w' => e = .returned (.bool false) ∧ Below w.heap.size w w' := by
  have t0 : decide (c < 0) = false := by rw [decide_eq_false]; omega
  have t1 : decide ((1000 : Int) < c) = false := by rw [decide_eq_false]; omega
  have t2 : decide (n < 0) = false := by rw [decide_eq_false]; omega
  have t3 : decide ((65535 : Int) < n) = false := by rw [decide_eq_false]; omega
  have t4 : decide ((512 : Int) < (ls.length : Int)) = true := by rw [decide_eq_true]; omega
  have t5 : decide (512 < ls.length) = true := by rw [decide_eq_true]; omega
  clear h
  go_enter Try.func85, Try.ntmps85
  go_wp2_with fail
  go_ret
  exact ⟨rfl, (Below.refl _ _).alloc (Nat.le_refl _) _⟩
set_option maxRecDepth 100000 in
theorem goodr_in (c n : Int) (A : Option Addr) (k : Nat) (ls : List (List Val)) (h0 : 0 ≤ c ∧ c ≤ 1000) (h1 : 0 ≤ n ∧ n ≤ 65535) (h : ls.length ≤ 512) (w : World) (hr : RdRows w A ls) (hf : ∀ l ∈ ls, ∀ v ∈ l, v.f < two64) : Calls Try.prog 84 #[rv c n A ls.length k] w fun e w' => e = .returned (.bool (ls.all rowG)) ∧ Below w.heap.size w w' := by
  have t0 : decide (c < 0) = false := by rw [decide_eq_false]; omega
  have t1 : decide ((1000 : Int) < c) = false := by rw [decide_eq_false]; omega
  have t2 : decide (n < 0) = false := by rw [decide_eq_false]; omega
  have t3 : decide ((65535 : Int) < n) = false := by rw [decide_eq_false]; omega
  have t4 : decide ((512 : Int) < (ls.length : Int)) = false := by rw [decide_eq_false]; omega
  have t5 : decide (512 < ls.length) = false := by rw [decide_eq_false]; omega
  have HC := Lib.hid (cont_any A k ls _ (hr.keep ((Below.refl _ _).alloc (Nat.le_refl _) (.cells (a3 c n A ls.length k) 96))) (by omega) hf)
  clear hr hf
  generalize ls.all rowG = g at *
  go_enter Try.func84, Try.ntmps84
  go_wp2_with fail
  refine HC.out.mono ?_
  rintro e w1 ⟨rfl, b1⟩
  go_wp2_with fail
  go_ret
  exact ⟨by simp, below_trans ((Below.refl _ _).alloc (Nat.le_refl _) _) b1⟩
set_option maxRecDepth 100000 in
set_option maxHeartbeats 1000000 in
theorem rgoodr_in (c n : Int) (A : Option Addr) (q : Nat) (ls : List (List Val)) (h0 : 0 ≤ c ∧ c ≤ 1000) (h1 : 0 ≤ n ∧ n ≤ 65535) (h : ls.length ≤ 512) (w : World) (hr : RdRows w A ls) (hf : ∀ l ∈ ls, ∀ v ∈ l, v.f < two64) : Calls Try.prog 85 #[rv c n A ls.length q] w fun e w' => e = .returned (.bool (ls.all rowG)) ∧ Below w.heap.size w w' := by
  have t0 : decide (c < 0) = false := by rw [decide_eq_false]; omega
  have t1 : decide ((1000 : Int) < c) = false := by rw [decide_eq_false]; omega
  have t2 : decide (n < 0) = false := by rw [decide_eq_false]; omega
  have t3 : decide ((65535 : Int) < n) = false := by rw [decide_eq_false]; omega
  have t4 : decide ((512 : Int) < (ls.length : Int)) = false := by rw [decide_eq_false]; omega
  have t5 : decide (512 < ls.length) = false := by rw [decide_eq_false]; omega
  have H := Lib.hid hr
  have HF := Lib.hid hf
  clear hr hf
  go_enter Try.func85, Try.ntmps85
  go_wp2_with fail
  go_loopw [3] (fun i wr => ∃ k : Nat, k ≤ ls.length ∧ i = .int .i64 k ∧ (ls.take k).all rowG = true ∧ B3 wr w.heap.size c n A ls.length q ∧ Below w.heap.size w wr) (fun i _ => ls.length - (intOf i).toNat)
  case atStart => exact ⟨0, by omega, rfl, rfl, B3.new _ _ _ _ _ _ _, (Below.refl _ _).alloc (Nat.le_refl _) _⟩
  case round =>
    obtain ⟨k, hk, rfl, hall, hB, hb⟩ := hrel
    obtain ⟨⟨d0, _⟩, ⟨d1, _⟩, ⟨d2, _⟩⟩ := hB.cells
    have HB := Lib.hid hB
    clear hB
    by_cases hlt : k < ls.length
    · obtain ⟨ad, s, rfl, hc, hr, hn⟩ := (H.out.keep hb) k hlt
      have hcall := rrow_any s.A s.c ls[k] wr hr (HF.out _ (List.getElem_mem hlt))
      have hst := allG_step ls k hlt hall
      have hbd := allG_bad ls k hlt
      have hw1 : IntKind.i64.wrap ((k : Int) + 1) = (k : Int) + 1 := by rw [IntKind.wrap_i64]; omega
      generalize ls[k] = l at *
      cases hg : rowG l with
      | true =>
        rw [(rowE_iff l).2 hg] at hcall
        have HC := Lib.hid hcall
        have Hs := Lib.hid (hst.trans hg)
        clear hcall hst hbd hr hn hall hg
        go_wp2_with fail
        refine HC.out.mono ?_
        rintro e w1 ⟨rfl, b1⟩
        have hb1 := hb.trans (b1.mono hb.size)
        have HB1 := Lib.hid (HB.out.keep b1)
        clear d0 d1 d2
        go_wp2_with fail
        exact ⟨⟨k + 1, by omega, by go_num, Hs.out, HB1.out, hb1⟩, by simp [intOf]; omega⟩
      | false =>
        have he : ¬ rowE l = 0 := fun h => by rw [(rowE_iff l).1 h] at hg; cases hg
        have t6 : (rowE l == 0) = false := by rw [beq_eq_false_iff_ne]; exact he
        have t7 : (rowE l != 0) = true := by rw [bne, t6]; rfl
        have HC := Lib.hid hcall
        have Hs := Lib.hid (hbd hg)
        clear hcall hst hbd hr hn hall hg he
        generalize rowE l = z at *
        go_wp2_with fail
        refine HC.out.mono ?_
        rintro e w1 ⟨rfl, b1⟩
        have hb1 := hb.trans (b1.mono hb.size)
        clear d0 d1 d2
        go_wp2_with fail
        go_ret
        exact ⟨by rw [Hs.out]; rfl, hb1⟩
    · obtain rfl : k = ls.length := by omega
      rw [List.take_length] at hall
      have Hs := Lib.hid hall
      clear hall
      go_wp2_with fail
      go_ret
      exact ⟨by rw [Hs.out]; rfl, hb⟩
theorem goodr_any (r : Rep) (A : Option Addr) (k : Nat) (w : World) (hr : RdRows w A r.rows) (hf : ∀ l ∈ r.rows, ∀ v ∈ l, v.f < two64) : Calls Try.prog 84 #[rv r.code r.n A r.rows.length k] w fun e w' => e = .returned (.bool (goodR r)) ∧ Below w.heap.size w w' := by
  by_cases h0 : 0 ≤ r.code
  rotate_left
  · have e : goodR r = false := by unfold goodR; rw [decide_eq_false (by omega)]; rfl
    rw [e]; exact goodr_c0 _ _ _ _ _ (by omega) w
  by_cases h1 : r.code ≤ 1000
  rotate_left
  · have e : goodR r = false := by unfold goodR; rw [decide_eq_false (by omega)]; rfl
    rw [e]; exact goodr_c1 _ _ _ _ _ h0 (by omega) w
  have e1 : goodR r = (decide (0 ≤ r.n ∧ r.n ≤ 65535) && (decide (r.rows.length ≤ 512) && r.rows.all rowG)) := by unfold goodR; rw [decide_eq_true ⟨h0, h1⟩]; rfl
  by_cases h2 : 0 ≤ r.n
  rotate_left
  · rw [e1, decide_eq_false (by omega)]; exact goodr_n0 _ _ _ _ _ ⟨h0, h1⟩ (by omega) w
  by_cases h3 : r.n ≤ 65535
  rotate_left
  · rw [e1, decide_eq_false (by omega)]; exact goodr_n1 _ _ _ _ _ ⟨h0, h1⟩ h2 (by omega) w
  by_cases h4 : r.rows.length ≤ 512
  rotate_left
  · rw [e1, decide_eq_false h4, Bool.false_and, Bool.and_false]; exact goodr_l _ _ _ _ _ ⟨h0, h1⟩ ⟨h2, h3⟩ (by omega) w
  · rw [e1, decide_eq_true ⟨h2, h3⟩, decide_eq_true h4, Bool.true_and, Bool.true_and]
    exact goodr_in _ _ A k _ ⟨h0, h1⟩ ⟨h2, h3⟩ h4 w hr hf
theorem rgoodr_any (r : Rep) (A : Option Addr) (k : Nat) (w : World) (hr : RdRows w A r.rows) (hf : ∀ l ∈ r.rows, ∀ v ∈ l, v.f < two64) : Calls Try.prog 85 #[rv r.code r.n A r.rows.length k] w fun e w' => e = .returned (.bool (goodR r)) ∧ Below w.heap.size w w' := by
  by_cases h0 : 0 ≤ r.code
  rotate_left
  · have e : goodR r = false := by unfold goodR; rw [decide_eq_false (by omega)]; rfl
    rw [e]; exact rgoodr_c0 _ _ _ _ _ (by omega) w
  by_cases h1 : r.code ≤ 1000
  rotate_left
  · have e : goodR r = false := by unfold goodR; rw [decide_eq_false (by omega)]; rfl
    rw [e]; exact rgoodr_c1 _ _ _ _ _ h0 (by omega) w
  have e1 : goodR r = (decide (0 ≤ r.n ∧ r.n ≤ 65535) && (decide (r.rows.length ≤ 512) && r.rows.all rowG)) := by unfold goodR; rw [decide_eq_true ⟨h0, h1⟩]; rfl
  by_cases h2 : 0 ≤ r.n
  rotate_left
  · rw [e1, decide_eq_false (by omega)]; exact rgoodr_n0 _ _ _ _ _ ⟨h0, h1⟩ (by omega) w
  by_cases h3 : r.n ≤ 65535
  rotate_left
  · rw [e1, decide_eq_false (by omega)]; exact rgoodr_n1 _ _ _ _ _ ⟨h0, h1⟩ h2 (by omega) w
  by_cases h4 : r.rows.length ≤ 512
  rotate_left
  · rw [e1, decide_eq_false h4, Bool.false_and, Bool.and_false]; exact rgoodr_l _ _ _ _ _ ⟨h0, h1⟩ ⟨h2, h3⟩ (by omega) w
  · rw [e1, decide_eq_true ⟨h2, h3⟩, decide_eq_true h4, Bool.true_and, Bool.true_and]
    exact rgoodr_in _ _ A k _ ⟨h0, h1⟩ ⟨h2, h3⟩ h4 w hr hf
end Go.Proofs.Ytmgpecomgffelaa
