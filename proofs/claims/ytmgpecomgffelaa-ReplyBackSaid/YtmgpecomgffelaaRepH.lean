/- Contracts: replies copied, and alike, of the program and of the reference. -/
import Derived.Test.YtmgpecomgffelaaRepG
namespace Go.Proofs.Ytmgpecomgffelaa
open Go.RowKit
set_option linter.unusedVariables false
theorem u8_lt (a b : UInt8) : (a < b) ↔ a.toNat < b.toNat := Iff.rfl
theorem bl_cons (a b : UInt8) (x y : List UInt8) : Op.bytesLess (a :: x) (b :: y) = true ↔ a.toNat < b.toNat ∨ (a.toNat = b.toNat ∧ Op.bytesLess x y = true) := by
  show (decide (a < b) || (a == b && Op.bytesLess x y)) = true ↔ _
  rw [Bool.or_eq_true, decide_eq_true_eq, Bool.and_eq_true, beq_iff_eq, u8_lt, ← UInt8.toNat_inj]
theorem bl_irr : ∀ (x : List UInt8), Op.bytesLess x x = false
  | [] => rfl
  | a :: x => by
    cases h : Op.bytesLess (a :: x) (a :: x) with
    | false => rfl
    | true =>
      rw [bl_cons, bl_irr x] at h
      rcases h with h | ⟨_, h⟩
      · omega
      · cases h
theorem bl_tri : ∀ (x y : List UInt8), Op.bytesLess x y = false → Op.bytesLess y x = false → x = y
  | [], [], _, _ => rfl
  | [], b :: y, h, _ => by cases h
  | a :: x, [], _, h => by cases h
  | a :: x, b :: y, h1, h2 => by
    have n1 : ¬ (a.toNat < b.toNat ∨ (a.toNat = b.toNat ∧ Op.bytesLess x y = true)) := fun h => by rw [(bl_cons a b x y).2 h] at h1; cases h1
    have n2 : ¬ (b.toNat < a.toNat ∨ (b.toNat = a.toNat ∧ Op.bytesLess y x = true)) := fun h => by rw [(bl_cons b a y x).2 h] at h2; cases h2
    have e : a.toNat = b.toNat := by omega
    have e1 : Op.bytesLess x y = false := by
      cases h : Op.bytesLess x y with
      | false => rfl
      | true => exact absurd (Or.inr ⟨e, h⟩) n1
    have e2 : Op.bytesLess y x = false := by
      cases h : Op.bytesLess y x with
      | false => rfl
      | true => exact absurd (Or.inr ⟨e.symm, h⟩) n2
    rw [UInt8.toNat_inj.1 e, bl_tri x y e1 e2]
/-! ### the order turned round -/
theorem cmpI_neg (a b : Int) : cmpI b a = - cmpI a b := by
  unfold cmpI
  by_cases h1 : a < b
  · (rw [if_neg (by omega), if_pos h1, if_pos h1]); try rfl
  · by_cases h2 : b < a
    · (rw [if_pos h2, if_neg h1, if_pos h2]); try rfl
    · (rw [if_neg h2, if_neg h1, if_neg h1, if_neg h2]); try rfl
theorem cmpF_neg (a b : Nat) : cmpF b a = - cmpF a b := by
  unfold cmpF
  cases isNaN a <;> cases isNaN b <;> simp
  by_cases h1 : rk a < rk b
  · (rw [if_neg (by omega), if_pos h1, if_pos h1]); try rfl
  · by_cases h2 : rk b < rk a
    · (rw [if_pos h2, if_neg h1, if_pos h2]); try rfl
    · (rw [if_neg h2, if_neg h1, if_neg h1, if_neg h2]); try rfl
theorem cmpS_neg (a b : ByteArray) : cmpS b a = - cmpS a b := by
  rw [← cmpS_eq, ← cmpS_eq, cb_neg]
theorem orL_neg : ∀ (l m : List Int), l.length = m.length → (∀ i (h : i < l.length) (h' : i < m.length), m[i] = - l[i]) → orL m = - orL l
  | [], [], _, _ => rfl
  | [], _ :: _, h, _ => by simp at h
  | _ :: _, [], h, _ => by simp at h
  | z :: l, y :: m, hl, h => by
    have h0 : y = - z := h 0 (by simp) (by simp)
    unfold orL
    by_cases hz : z = 0
    · rw [if_pos hz, if_pos (by omega)]
      exact orL_neg l m (by simpa using hl) fun i hi hi' => h (i + 1) (by simpa using hi) (by simpa using hi')
    · rw [if_neg hz, if_neg (by omega)]
      exact h0
theorem cmpV_neg (a b : Val) : cmpV b a = - cmpV a b := by
  unfold cmpV
  refine orL_neg _ _ rfl fun i hi hi' => ?_
  have hi4 : i < 4 := by simpa using hi
  rcases (by omega : i = 0 ∨ i = 1 ∨ i = 2 ∨ i = 3) with rfl | rfl | rfl | rfl
  · exact cmpI_neg _ _
  · exact cmpI_neg _ _
  · exact cmpF_neg _ _
  · exact cmpS_neg _ _
theorem cmpV_self (a : Val) : cmpV a a = 0 := by
  have := cmpV_neg a a
  omega
def sameRow : List Val → List Val → Bool
  | [], [] => true
  | a :: x, b :: y => (cmpV a b == 0) && sameRow x y
  | _, _ => false
def aheadV : List Val → List Val → Bool
  | _, [] => false
  | [], _ :: _ => true
  | a :: x, b :: y => if cmpV a b = 0 then aheadV x y else decide (cmpV a b < 0)
theorem same_ahead : ∀ (x y : List Val), (!aheadV x y && !aheadV y x) = sameRow x y
  | [], [] => rfl
  | [], _ :: _ => rfl
  | _ :: _, [] => rfl
  | a :: x, b :: y => by
    unfold aheadV sameRow
    have hn := cmpV_neg a b
    by_cases h : cmpV a b = 0
    · rw [if_pos h, if_pos (by omega), same_ahead x y, h]
      rfl
    · have e : (cmpV a b == 0) = false := by rw [beq_eq_false_iff_ne]; exact h
      rw [if_neg h, if_neg (by omega), e, Bool.false_and, hn]
      by_cases h1 : cmpV a b < 0
      · rw [decide_eq_true h1]; rfl
      · rw [decide_eq_false h1, decide_eq_true (show - cmpV a b < 0 by omega)]; rfl
theorem same_len : ∀ (x y : List Val), x.length ≠ y.length → sameRow x y = false
  | [], [], h => absurd rfl h
  | [], _ :: _, _ => rfl
  | _ :: _, [], _ => rfl
  | a :: x, b :: y, h => by
    unfold sameRow
    rw [same_len x y (by simpa using h), Bool.and_false]
theorem same_self : ∀ (x : List Val), sameRow x x = true
  | [] => rfl
  | a :: x => by
    unfold sameRow
    rw [cmpV_self, same_self x]
    rfl
theorem same_drop (x y : List Val) (k : Nat) (h : k < x.length) (h' : k < y.length) : sameRow (x.drop k) (y.drop k) = ((cmpV x[k] y[k] == 0) && sameRow (x.drop (k + 1)) (y.drop (k + 1))) := by
  rw [List.drop_eq_getElem_cons h, List.drop_eq_getElem_cons h']
  rfl
theorem ahead_drop (x y : List Val) (k : Nat) (h : k < x.length) (h' : k < y.length) : aheadV (x.drop k) (y.drop k) = if cmpV x[k] y[k] = 0 then aheadV (x.drop (k + 1)) (y.drop (k + 1)) else decide (cmpV x[k] y[k] < 0) := by
  rw [List.drop_eq_getElem_cons h, List.drop_eq_getElem_cons h']
  rfl
theorem ahead_end (x y : List Val) (k : Nat) (h : ¬ (k < x.length ∧ k < y.length)) (hk : k ≤ x.length) (hk' : k ≤ y.length) : aheadV (x.drop k) (y.drop k) = decide (x.length < y.length) := by
  by_cases h1 : k < y.length
  · have h2 : k = x.length := by omega
    have e : x.drop k = [] := List.drop_eq_nil_of_le (by omega)
    rw [e, List.drop_eq_getElem_cons h1, decide_eq_true (by omega)]
    rfl
  · have e : y.drop k = [] := List.drop_eq_nil_of_le (by omega)
    rw [e, decide_eq_false (by omega)]
    cases x.drop k <;> rfl
def sameRows : List (List Val) → List (List Val) → Bool
  | [], [] => true
  | a :: x, b :: y => sameRow a b && sameRows x y
  | _, _ => false
theorem sameRows_len : ∀ (x y : List (List Val)), x.length ≠ y.length → sameRows x y = false
  | [], [], h => absurd rfl h
  | [], _ :: _, _ => rfl
  | _ :: _, [], _ => rfl
  | a :: x, b :: y, h => by
    unfold sameRows
    rw [sameRows_len x y (by simpa using h), Bool.and_false]
theorem sameRows_self : ∀ (x : List (List Val)), sameRows x x = true
  | [] => rfl
  | a :: x => by
    unfold sameRows
    rw [same_self, sameRows_self x]
    rfl
theorem sameRows_drop (x y : List (List Val)) (k : Nat) (h : k < x.length) (h' : k < y.length) : sameRows (x.drop k) (y.drop k) = (sameRow x[k] y[k] && sameRows (x.drop (k + 1)) (y.drop (k + 1))) := by
  rw [List.drop_eq_getElem_cons h, List.drop_eq_getElem_cons h']
  rfl
def sameR (a b : Rep) : Bool := (a.code == b.code) && ((a.n == b.n) && sameRows a.rows b.rows)
theorem sameR_self (a : Rep) : sameR a a = true := by unfold sameR; rw [sameRows_self, beq_self_eq_true, beq_self_eq_true]; rfl

/-! ### the walks -/
set_option maxRecDepth 100000 in
theorem copied_any (c n : Int) (A : Option Addr) (q : Nat) (ls : List (List Val)) (w : World) (h : RdRows w A ls) (hlen : ls.length ≤ 1000) (hl : ∀ l ∈ ls, l.length ≤ 1000) :
    Calls Try.prog 79 #[rv c n A ls.length q] w fun e w' => ∃ A' q', e = .returned (rv c n A' ls.length q') ∧ RdRows w' A' ls ∧ (A' = none → q' = 0) ∧ Below w.heap.size w w' := by
  obtain ⟨w0, hw0⟩ : ∃ w0 : World, w0 = (w.alloc (.cells (a3 c n A ls.length q) 96)).alloc (.cells (a3 0 0 none 0 0) 96) := ⟨_, rfl⟩
  have k0 : Below w.heap.size w w0 := by rw [hw0]; exact ((Below.refl w.heap.size w).alloc (Nat.le_refl _) _).alloc (by simp) _
  have hs0 : w0.heap.size = w.heap.size + 2 := by rw [hw0]; simp
  have B0 : Hid (B3 w0 w.heap.size c n A ls.length q) := Lib.hid (by rw [hw0]; exact (B3.new w c n A ls.length q 96).alloc _)
  have R0 : Hid (B3 w0 (w.heap.size + 1) 0 0 none 0 0) := Lib.hid (by
    rw [hw0]
    have := B3.new (w.alloc (.cells (a3 c n A ls.length q) 96)) 0 0 none 0 0 96
    have e : (w.alloc (.cells (a3 c n A ls.length q) 96)).heap.size = w.heap.size + 1 := by simp
    rw [e] at this
    exact this)
  have HC := Lib.hid (copy_rows A q ls w0 (h.keep k0) hlen hl)
  rw [hw0] at HC
  clear h hl
  go_enter Try.func79, Try.ntmps79
  go_wp2_with fail
  refine HC.out.mono ?_
  rw [← hw0]
  rintro e w1 ⟨A', q', rfl, hO, hn, b1⟩
  have k1 := k0.trans (b1.mono k0.size)
  have HO := Lib.hid hO
  have HN := Lib.hid hn
  obtain ⟨⟨p0, y0⟩, ⟨p1, y1⟩, ⟨p2, y2⟩⟩ := (B0.out.keep b1).cells
  obtain ⟨⟨d0, z0⟩, ⟨d1, z1⟩, ⟨d2, z2⟩⟩ := (R0.out.keep b1).cells
  clear hO hn b1 hw0 HC k0
  go_wp2_with fail
  exact bodyPost_ret (v := rv c n A' ls.length q') (by simp [results, Try.results79, go_sem, d0, d1, d2]) rfl ⟨A', q', rfl, (((HO.out.setCell (a := ⟨w.heap.size, 2, none⟩) (by show w.heap.size < w0.heap.size; omega) _).setCell (a := ⟨w.heap.size + 1, 0, none⟩) (by show w.heap.size + 1 < w0.heap.size; omega) _).setCell (a := ⟨w.heap.size + 1, 1, none⟩) (by show w.heap.size + 1 < w0.heap.size; omega) _).setCell (a := ⟨w.heap.size + 1, 2, none⟩) (by show w.heap.size + 1 < w0.heap.size; omega) _ |>.rd, HN.out, (((k1.setCell (p := ⟨w.heap.size, 2, none⟩) (Nat.le_refl _) _).setCell (p := ⟨w.heap.size + 1, 0, none⟩) (by simp) _).setCell (p := ⟨w.heap.size + 1, 1, none⟩) (by simp) _).setCell (p := ⟨w.heap.size + 1, 2, none⟩) (by simp) _⟩
set_option maxRecDepth 100000 in
theorem keep_same (c n : Int) (A B : Option Addr) (q p : Nat) (ls : List (List Val)) (w : World) (ha : RdRows w A ls) (hb : RdRows w B ls) (hlen : ls.length ≤ 1000) (hl : ∀ l ∈ ls, l.length ≤ 1000) :
    Calls Try.prog 81 #[rv c n A ls.length q, rv c n B ls.length p] w fun e w' => e = .returned (.bool true) ∧ Below w.heap.size w w' := by
  have k0 : Below w.heap.size w ((w.alloc (.cells (a3 c n A ls.length q) 96)).alloc (.cells (a3 c n B ls.length p) 96)) := ((Below.refl w.heap.size w).alloc (Nat.le_refl _) _).alloc (by simp) _
  have HC := Lib.hid (rows_same A B q p ls _ (ha.keep k0) (hb.keep k0) hlen hl)
  have e1 : (c == c) = true := beq_self_eq_true c
  have e2 : (n == n) = true := beq_self_eq_true n
  clear ha hb hl
  go_enter Try.func81, Try.ntmps81
  go_wp2_with fail
  refine HC.out.mono ?_
  rintro e w1 ⟨rfl, b1⟩
  go_wp2_with fail
  go_ret
  exact ⟨rfl, k0.trans (b1.mono k0.size)⟩
set_option maxRecDepth 100000 in
set_option maxHeartbeats 1000000 in
theorem eqrow_any (A B : Option Addr) (c d : Nat) (x y : List Val) (w : World) (ha : RdV w A x) (hb : RdV w B y) (hx : x.length ≤ 1000) (hy : y.length ≤ 1000) : Calls Try.prog 122 #[.slice A x.length c, .slice B y.length d, .func (.func 123) #[] #[]] w fun e w' => e = .returned (.bool (sameRow x y)) ∧ Below w.heap.size w w' := by
  have hst := run_sf
  by_cases hlen : x.length = y.length
  rotate_left
  · have t1 : ((x.length : Int) == (y.length : Int)) = false := by rw [beq_eq_false_iff_ne]; omega
    have t2 : ((x.length : Int) != (y.length : Int)) = true := by rw [bne, t1]; rfl
    have t3 : (x.length == y.length) = false := by rw [beq_eq_false_iff_ne]; omega
    rw [same_len x y hlen]
    clear ha hb hlen
    go_enter Try.func122, Try.ntmps122
    go_wp2_with fail
    go_ret
    exact ⟨rfl, Below.refl _ _⟩
  · have HA := Lib.hid ha
    have HB := Lib.hid hb
    have HS := Lib.hid samev_any
    have Hl := Lib.hid hlen
    have t1 : ((x.length : Int) == (y.length : Int)) = true := by rw [beq_iff_eq]; omega
    have t2 : ((x.length : Int) != (y.length : Int)) = false := by rw [bne, t1]; rfl
    have t3 : (x.length == y.length) = true := by rw [beq_iff_eq]; omega
    clear ha hb hlen
    go_enter Try.func122, Try.ntmps122
    go_wp2_with fail
    go_loopw [17] (fun i wr => ∃ k : Nat, k ≤ x.length ∧ i = .int .i64 k ∧ sameRow x y = sameRow (x.drop k) (y.drop k) ∧ Below w.heap.size w wr) (fun i _ => x.length - (intOf i).toNat)
    case atStart => exact ⟨0, by omega, rfl, rfl, Below.refl _ _⟩
    case round =>
      obtain ⟨k, hk, rfl, hsr, hbr⟩ := hrel
      by_cases hlt : k < x.length
      · have hlt2 : k < y.length := by have := Hl.out; omega
        obtain ⟨ad, rfl, q0, q1, q2, q3⟩ := RdV.at (HA.out.keep hbr (Nat.le_refl _)) k hlt
        obtain ⟨bd, rfl, r0, r1, r2, r3⟩ := RdV.at (HB.out.keep ((hbr.alloc hbr.size (.cells (va x[k].kind x[k].n x[k].f x[k].s) 24))) (Nat.le_refl _)) k hlt2
        have hd := same_drop x y k hlt hlt2
        rw [← hsr] at hd
        have hw1 : IntKind.i64.wrap ((k : Int) + 1) = (k : Int) + 1 := by rw [IntKind.wrap_i64]; omega
        have hcall := HS.out x[k] y[k]
        generalize x[k] = u at *
        generalize y[k] = v at *
        cases hc : (cmpV u v == 0) with
        | true =>
          rw [hc] at hcall hd
          rw [Bool.true_and] at hd
          have HC := Lib.hid hcall
          have HD := Lib.hid hd
          clear hcall hd hsr hc
          go_wp2_with fail
          refine (HC.out _).mono ?_
          rintro e w1 ⟨rfl, b1⟩
          have hb1 := ((hbr.alloc hbr.size _).alloc (by have := hbr.size; simp; omega) _).trans (b1.mono (by have := hbr.size; simp; omega))
          go_wp2_with fail
          exact ⟨⟨k + 1, by omega, by go_num, HD.out, hb1⟩, by simp [intOf]; omega⟩
        | false =>
          rw [hc] at hcall hd
          rw [Bool.false_and] at hd
          have HC := Lib.hid hcall
          have HD := Lib.hid hd
          clear hcall hd hsr hc
          go_wp2_with fail
          refine (HC.out _).mono ?_
          rintro e w1 ⟨rfl, b1⟩
          have hb1 := ((hbr.alloc hbr.size _).alloc (by have := hbr.size; simp; omega) _).trans (b1.mono (by have := hbr.size; simp; omega))
          go_wp2_with fail
          go_ret
          exact ⟨by rw [HD.out]; rfl, hb1⟩
      · obtain rfl : k = x.length := by omega
        have hd : sameRow x y = true := by
          rw [hsr, List.drop_eq_nil_of_le (Nat.le_refl _), List.drop_eq_nil_of_le (by have := Hl.out; omega)]
          rfl
        have HD := Lib.hid hd
        clear hd hsr
        go_wp2_with fail
        go_ret
        exact ⟨by rw [HD.out]; rfl, hbr⟩
set_option maxRecDepth 100000 in
theorem clo_same (A B : Option Addr) (c d : Nat) (x y : List Val) (w : World) (ha : RdV w A x) (hb : RdV w B y) (hx : x.length ≤ 1000) (hy : y.length ≤ 1000) : Calls Try.prog 121 #[.slice A x.length c, .slice B y.length d] w fun e w' => e = .returned (.bool (sameRow x y)) ∧ Below w.heap.size w w' := by
  have HC := Lib.hid (eqrow_any A B c d x y w ha hb hx hy)
  clear ha hb
  go_enter Try.func121, Try.ntmps121
  go_wp2_with fail
  refine HC.out.mono ?_
  rintro e w1 ⟨rfl, b1⟩
  go_wp2_with fail
  go_ret
  exact ⟨rfl, b1⟩
set_option maxRecDepth 100000 in
set_option maxHeartbeats 1000000 in
theorem eqrows_any (A B : Option Addr) (c d : Nat) (x y : List (List Val)) (w : World) (ha : RdRows w A x) (hb : RdRows w B y) (hx : x.length ≤ 1000) (hy : y.length ≤ 1000) (hlx : ∀ l ∈ x, l.length ≤ 1000) (hly : ∀ l ∈ y, l.length ≤ 1000) : Calls Try.prog 120 #[.slice A x.length c, .slice B y.length d, .func (.func 121) #[] #[]] w fun e w' => e = .returned (.bool (sameRows x y)) ∧ Below w.heap.size w w' := by
  by_cases hlen : x.length = y.length
  rotate_left
  · have t1 : ((x.length : Int) == (y.length : Int)) = false := by rw [beq_eq_false_iff_ne]; omega
    have t2 : ((x.length : Int) != (y.length : Int)) = true := by rw [bne, t1]; rfl
    have t3 : (x.length == y.length) = false := by rw [beq_eq_false_iff_ne]; omega
    rw [sameRows_len x y hlen]
    clear ha hb hlen
    go_enter Try.func120, Try.ntmps120
    go_wp2_with fail
    go_ret
    exact ⟨rfl, Below.refl _ _⟩
  · have HA := Lib.hid ha
    have HB := Lib.hid hb
    have HX := Lib.hid hlx
    have HY := Lib.hid hly
    have Hl := Lib.hid hlen
    have t1 : ((x.length : Int) == (y.length : Int)) = true := by rw [beq_iff_eq]; omega
    have t2 : ((x.length : Int) != (y.length : Int)) = false := by rw [bne, t1]; rfl
    have t3 : (x.length == y.length) = true := by rw [beq_iff_eq]; omega
    clear ha hb hlen hlx hly
    go_enter Try.func120, Try.ntmps120
    go_wp2_with fail
    go_loopw [17] (fun i wr => ∃ k : Nat, k ≤ x.length ∧ i = .int .i64 k ∧ sameRows x y = sameRows (x.drop k) (y.drop k) ∧ Below w.heap.size w wr) (fun i _ => x.length - (intOf i).toNat)
    case atStart => exact ⟨0, by omega, rfl, rfl, Below.refl _ _⟩
    case round =>
      obtain ⟨k, hk, rfl, hsr, hbr⟩ := hrel
      by_cases hlt : k < x.length
      · have hlt2 : k < y.length := by have := Hl.out; omega
        obtain ⟨ad, s, rfl, q0, hr, _⟩ := (HA.out.keep hbr) k hlt
        obtain ⟨bd, u, rfl, r0, hr2, _⟩ := (HB.out.keep hbr) k hlt2
        have hd := sameRows_drop x y k hlt hlt2
        rw [← hsr] at hd
        have hw1 : IntKind.i64.wrap ((k : Int) + 1) = (k : Int) + 1 := by rw [IntKind.wrap_i64]; omega
        have hcall := clo_same s.A u.A s.c u.c x[k] y[k] wr hr hr2 (HX.out _ (List.getElem_mem hlt)) (HY.out _ (List.getElem_mem hlt2))
        generalize x[k] = f at *
        generalize y[k] = g at *
        cases hc : sameRow f g with
        | true =>
          rw [hc] at hcall hd
          rw [Bool.true_and] at hd
          have HC := Lib.hid hcall
          have HD := Lib.hid hd
          clear hcall hd hsr hc hr hr2
          go_wp2_with fail
          refine HC.out.mono ?_
          rintro e w1 ⟨rfl, b1⟩
          have hb1 := hbr.trans (b1.mono hbr.size)
          go_wp2_with fail
          exact ⟨⟨k + 1, by omega, by go_num, HD.out, hb1⟩, by simp [intOf]; omega⟩
        | false =>
          rw [hc] at hcall hd
          rw [Bool.false_and] at hd
          have HC := Lib.hid hcall
          have HD := Lib.hid hd
          clear hcall hd hsr hc hr hr2
          go_wp2_with fail
          refine HC.out.mono ?_
          rintro e w1 ⟨rfl, b1⟩
          have hb1 := hbr.trans (b1.mono hbr.size)
          go_wp2_with fail
          go_ret
          exact ⟨by rw [HD.out]; rfl, hb1⟩
      · obtain rfl : k = x.length := by omega
        have hd : sameRows x y = true := by
          rw [hsr, List.drop_eq_nil_of_le (Nat.le_refl _), List.drop_eq_nil_of_le (by have := Hl.out; omega)]
          rfl
        have HD := Lib.hid hd
        clear hd hsr
        go_wp2_with fail
        go_ret
        exact ⟨by rw [HD.out]; rfl, hbr⟩
set_option maxRecDepth 100000 in
theorem same_c (c n : Int) (A : Option Addr) (q : Nat) (x : List (List Val)) (c' n' : Int) (B : Option Addr) (p : Nat) (y : List (List Val)) (w : World) (h : c ≠ c') : Calls Try.prog 82 #[rv c n A x.length q, rv c' n' B y.length p] w fun e w' => e = .returned (.bool false) ∧ Below w.heap.size w w' := by
  have t1 : (c == c') = false := by rw [beq_eq_false_iff_ne]; exact h
  have t2 : (c != c') = true := by rw [bne, t1]; rfl
  clear h
  go_enter Try.func82, Try.ntmps82
  go_wp2_with fail
  go_ret
  exact ⟨rfl, ((Below.refl w.heap.size w).alloc (Nat.le_refl _) _).alloc (by simp) _⟩
set_option maxRecDepth 100000 in
theorem same_n (c n : Int) (A : Option Addr) (q : Nat) (x : List (List Val)) (c' n' : Int) (B : Option Addr) (p : Nat) (y : List (List Val)) (w : World) (h0 : c = c') (h : n ≠ n') : Calls Try.prog 82 #[rv c n A x.length q, rv c' n' B y.length p] w fun e w' => e = .returned (.bool false) ∧ Below w.heap.size w w' := by
  subst h0
  have t0 : (c == c) = true := beq_self_eq_true c
  have t1 : (n == n') = false := by rw [beq_eq_false_iff_ne]; exact h
  have t2 : (n != n') = true := by rw [bne, t1]; rfl
  clear h
  go_enter Try.func82, Try.ntmps82
  go_wp2_with fail
  go_ret
  exact ⟨rfl, ((Below.refl w.heap.size w).alloc (Nat.le_refl _) _).alloc (by simp) _⟩
set_option maxRecDepth 100000 in
theorem same_in (c n : Int) (A B : Option Addr) (q p : Nat) (x y : List (List Val)) (w : World) (ha : RdRows w A x) (hb : RdRows w B y) (hx : x.length ≤ 1000) (hy : y.length ≤ 1000) (hlx : ∀ l ∈ x, l.length ≤ 1000) (hly : ∀ l ∈ y, l.length ≤ 1000) : Calls Try.prog 82 #[rv c n A x.length q, rv c n B y.length p] w fun e w' => e = .returned (.bool (sameRows x y)) ∧ Below w.heap.size w w' := by
  have k0 : Below w.heap.size w ((w.alloc (.cells (a3 c n A x.length q) 96)).alloc (.cells (a3 c n B y.length p) 96)) := ((Below.refl w.heap.size w).alloc (Nat.le_refl _) _).alloc (by simp) _
  have HC := Lib.hid (eqrows_any A B q p x y _ (ha.keep k0) (hb.keep k0) hx hy hlx hly)
  have e1 : (c == c) = true := beq_self_eq_true c
  have e2 : (n == n) = true := beq_self_eq_true n
  clear ha hb hlx hly
  go_enter Try.func82, Try.ntmps82
  go_wp2_with fail
  refine HC.out.mono ?_
  rintro e w1 ⟨rfl, b1⟩
  go_wp2_with fail
  go_ret
  exact ⟨rfl, k0.trans (b1.mono k0.size)⟩
theorem samer_any (a b : Rep) (A B : Option Addr) (q p : Nat) (w : World) (ha : RdRows w A a.rows) (hb : RdRows w B b.rows) (hx : a.rows.length ≤ 1000) (hy : b.rows.length ≤ 1000) (hlx : ∀ l ∈ a.rows, l.length ≤ 1000) (hly : ∀ l ∈ b.rows, l.length ≤ 1000) : Calls Try.prog 82 #[rv a.code a.n A a.rows.length q, rv b.code b.n B b.rows.length p] w fun e w' => e = .returned (.bool (sameR a b)) ∧ Below w.heap.size w w' := by
  unfold sameR
  by_cases h1 : a.code = b.code
  rotate_left
  · rw [show (a.code == b.code) = false by rw [beq_eq_false_iff_ne]; exact h1]
    exact same_c _ _ _ _ _ _ _ _ _ _ w h1
  rw [show (a.code == b.code) = true by rw [beq_iff_eq]; exact h1, Bool.true_and]
  by_cases h2 : a.n = b.n
  rotate_left
  · rw [show (a.n == b.n) = false by rw [beq_eq_false_iff_ne]; exact h2]
    exact same_n _ _ _ _ _ _ _ _ _ _ w h1 h2
  rw [show (a.n == b.n) = true by rw [beq_iff_eq]; exact h2, Bool.true_and, h1, h2]
  exact same_in _ _ A B q p _ _ w ha hb hx hy hlx hly
end Go.Proofs.Ytmgpecomgffelaa
