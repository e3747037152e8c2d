/- Contract: the reply of bytes (of the program). -/
import Derived.Test.YtmgpecomgffelaaRepD
import Derived.Deep.QuietTactic
import Derived.BigQuiet
namespace Go.Proofs.Ytmgpecomgffelaa
open Go.RowKit
set_option linter.unusedVariables false
theorem OwnRows.setCell {w : World} {B : Nat} {v : Value} {ls : List (List Val)} (h : OwnRows w B v ls) {a : Addr} (ha : a.block < B) (u : Value) : OwnRows (w.setCell a u) B v ls := by
  obtain ⟨ps, e, ho, hp⟩ := h
  exact ⟨ps, e, ownsRow_setCell_below ho ha u, fun p h => (hp p h).imp (fun h => ownsRow_setCell_below h ha u) id⟩
theorem OwnRows.ne {w : World} {B : Nat} {v : Value} {ls : List (List Val)} (h : OwnRows w B v ls) (b : Nat) (hb : b < B ∨ w.heap.size ≤ b) : some b ≠ v.ownBlock := by
  obtain ⟨ps, e, ho, hp⟩ := h
  exact own_ne ho b hb
theorem Fresh.up {w : World} {B B' : Nat} {e : TypeId} {size : Nat} {v : Value} {n : Nat} {xs : List Value} (h : Fresh w B e size v n xs) (hb : B' ≤ B) : Fresh w B' e size v n xs := h.imp (fun h => own_mono h hb) id
theorem B3.set2 {w : World} {b : Nat} {c n : Int} {A : Option Addr} {l k : Nat} (h : B3 w b c n A l k) (A' : Option Addr) (l' k' : Nat) : B3 (w.setCell ⟨b, 2, none⟩ (.slice A' l' k')) b c n A' l' k' :=
  BoxT.set h 2 (by simp) (.slice A' l' k')
theorem B3.other {w : World} {b : Nat} {c n : Int} {A : Option Addr} {l k : Nat} (h : B3 w b c n A l k) (a : Addr) (ha : a.block ≠ b) (v : Value) : B3 (w.setCell a v) b c n A l k := BoxT.other h a ha v
theorem B3.lt {w : World} {b : Nat} {c n : Int} {A : Option Addr} {l k : Nat} (h : B3 w b c n A l k) : b < w.heap.size := World.block_lt_of_cell? _ _ h.cells.1.1
/-- What Decode says. -/
def DecP (b : ByteArray) (w : World) (e : Ending) (w' : World) : Prop := ∃ A c, e = .returned (.tuple #[rv (repV b).code (repV b).n A (repV b).rows.length c, .int .i64 (repX b)]) ∧ RdRows w' A (repV b).rows ∧ (A = none → c = 0) ∧ Below w.heap.size w w'
theorem DecP.no {b : ByteArray} (h : decR b = none) {w w' : World} (hb : Below w.heap.size w w') : DecP b w (.returned (.tuple #[rv 0 0 none 0 0, .int .i64 11])) w' := by
  have e1 : repV b = R0 := by unfold repV; rw [h]; rfl
  have e2 : repX b = 11 := by unfold repX; rw [h]; rfl
  refine ⟨none, 0, ?_, ?_, fun _ => rfl, hb⟩
  · rw [e1, e2]; rfl
  · rw [e1]; exact RdRows.nil _ _
theorem DecP.yes {b : ByteArray} {c n : Int} {ls : List (List Val)} (h : decR b = some ⟨c, n, ls⟩) {w w' : World} {A : Option Addr} {k : Nat} (hr : RdRows w' A ls) (hn : A = none → k = 0) (hb : Below w.heap.size w w') : DecP b w (.returned (.tuple #[rv c n A ls.length k, .int .i64 0])) w' := by
  have e1 : repV b = ⟨c, n, ls⟩ := by unfold repV; rw [h]; rfl
  have e2 : repX b = 0 := by unfold repX; rw [h]; rfl
  refine ⟨A, k, ?_, ?_, hn, hb⟩
  · rw [e1, e2]
  · rw [e1]; exact hr
theorem decR_short {b : ByteArray} (h : b.size < 6) : decR b = none := by unfold decR; rw [if_neg (by omega)]
theorem decR_rows {b : ByteArray} (h : rowsA b 6 (numB b 4 2) = none) : decR b = none := by
  unfold decR
  split
  · rw [h]; rfl
  · rfl
theorem decR_bad {b : ByteArray} (h6 : 6 ≤ b.size) {ls : List (List Val)} {q : Nat} (h : rowsA b 6 (numB b 4 2) = some (ls, q)) (hb : ¬ (q = b.size ∧ goodR ⟨numB b 0 2, numB b 2 2, ls⟩ = true)) : decR b = none := by
  unfold decR
  rw [if_pos h6, h, Option.bind_some]
  exact if_neg hb
theorem decR_good {b : ByteArray} (h6 : 6 ≤ b.size) {ls : List (List Val)} {q : Nat} (h : rowsA b 6 (numB b 4 2) = some (ls, q)) (hb : q = b.size ∧ goodR ⟨numB b 0 2, numB b 2 2, ls⟩ = true) : decR b = some ⟨numB b 0 2, numB b 2 2, ls⟩ := by
  unfold decR
  rw [if_pos h6, h, Option.bind_some]
  exact if_pos hb
set_option maxRecDepth 100000 in
theorem long_empty (t : ByteArray) (h : t.size = 0) (w : World) : Calls Try.prog 118 #[.string t] w fun e w' => e = .returned (.int .i64 (longV t)) ∧ Below w.heap.size w w' := by
  have he : t = ⟨#[]⟩ := ext_sAt (by rw [h]; rfl) (fun i hi => absurd hi (by omega))
  rw [longV_empty (by omega)]
  subst he
  clear h
  go_enter Try.func118, Try.ntmps118
  go_wp2_with fail
  go_ret
  exact ⟨rfl, Below.refl _ _⟩
set_option maxRecDepth 100000 in
set_option maxHeartbeats 1000000 in
theorem long_main (t : ByteArray) (hsz : t.size ≤ 1000000) (h : 0 < t.size) (w : World) : Calls Try.prog 118 #[.string t] w fun e w' => e = .returned (.int .i64 (longV t)) ∧ Below w.heap.size w w' := by
  have hst := run_sf
  have HD := Lib.hid (fun a => dec_nat t a hsz)
  have he := emp_pos t h
  have hk := sAt_eq t 0 h
  have hl := sAt_lt t 0
  have HS := Lib.hid (fun l e => longV_some (t := t) h (l := l) (e := e))
  have HN := Lib.hid (longV_none (t := t) h)
  generalize hL : longV t = L at *
  generalize sAt t 0 = m at *
  have hkw : IntKind.i64.wrap (m : Int) = (m : Int) := by rw [IntKind.wrap_i64]; omega
  clear hL
  go_enter Try.func118, Try.ntmps118
  go_wp2_with fail
  go_loopw [3, 12] (fun p i wr => ∃ (k a : Nat) (l : List Val), k ≤ m ∧ i = .int .i64 k ∧ p = .int .i64 a ∧ seqA t 1 k = some (l, a) ∧ Below w.heap.size w wr) (fun _ i _ => m - (intOf i).toNat)
  case atStart => exact ⟨0, 1, [], by omega, rfl, rfl, rfl, Below.refl _ _⟩
  case round =>
    obtain ⟨k, a, l, hkm, rfl, rfl, hs, hbr⟩ := hrel
    obtain ⟨h1, h2, h3, h4, h5⟩ := seqA_ok t 1 (by omega) k l a hs
    clear h4 h5 h1
    have Hs := Lib.hid hs
    clear hs
    by_cases hlt : k < m
    · have hcall := HD.out a
      have hw1 : IntKind.i64.wrap ((k : Int) + 1) = (k : Int) + 1 := by rw [IntKind.wrap_i64]; omega
      cases hg : gotA t a with
      | none =>
        rw [hg] at hcall
        have Hno := Lib.hid (HN.out (seqA_end t 1 k l a Hs.out hg m hlt))
        have e1 : (gV (none : Option (Val × Nat))).v = vv 0 0 0 ⟨#[]⟩ := rfl
        have e2 : gN (none : Option (Val × Nat)) = 0 := rfl
        rw [e1, e2] at hcall
        simp only [Option.isSome_none] at hcall
        clear e1 e2 hg
        go_wp2_with fail
        refine (hcall _).mono ?_
        rintro e w1 ⟨rfl, b1⟩
        have hb1 := hbr.trans (b1.mono hbr.size)
        go_wp2_with fail
        go_ret
        exact ⟨by rw [Hno.out]; rfl, hb1.alloc hb1.size _⟩
      | some y =>
        obtain ⟨x, n⟩ := y
        obtain ⟨g1, g2, g3, g4⟩ := enc_got hg
        have hs2 : seqA t 1 (k + 1) = some (l ++ [x], a + n) := by rw [seqA_succ _ _ _ _ _ Hs.out, hg]; rfl
        have Hs2 := Lib.hid hs2
        rw [hg] at hcall
        have e1 : gV (some (x, n)) = x := rfl
        have e2 : gN (some (x, n)) = n := rfl
        rw [e1, e2] at hcall
        simp only [Option.isSome_some] at hcall
        clear hs2 e1 e2 hg g3 g4
        have hw2 : IntKind.i64.wrap ((a : Int) + (n : Int)) = (a : Int) + (n : Int) := by rw [IntKind.wrap_i64]; omega
        go_wp2_with fail
        refine (hcall _).mono ?_
        rintro e w1 ⟨rfl, b1⟩
        have hb1 := hbr.trans (b1.mono hbr.size)
        go_wp2_with fail
        exact ⟨⟨k + 1, a + n, l ++ [x], by omega, by go_num, by go_num, Hs2.out, hb1.alloc hb1.size _⟩, by simp [intOf]; omega⟩
    · obtain rfl : k = m := by omega
      have Hy := Lib.hid (HS.out _ _ Hs.out)
      go_wp2_with fail
      go_ret
      exact ⟨by rw [Hy.out]; rfl, hbr⟩
theorem long_any (t : ByteArray) (hsz : t.size ≤ 1000000) (w : World) : Calls Try.prog 118 #[.string t] w fun e w' => e = .returned (.int .i64 (longV t)) ∧ Below w.heap.size w w' := by
  by_cases h : 0 < t.size
  · exact long_main t hsz h w
  · exact long_empty t (by omega) w
theorem or8 (u d : Nat) (hu : u < 256) (hd : d < 256) : bits .or .i64 ((u : Int) * 256) (d : Int) = ((u * 256 + d : Nat) : Int) := by
  have e0 : ((u : Int) * 256) = ((u * 256 : Nat) : Int) := by simp
  have oi : ∀ b : Nat, BitVec.ofInt IntKind.i64.bits (b : Int) = BitVec.ofNat 64 b := fun b => ofi b
  rw [e0]
  unfold bits
  simp only
  rw [oi, oi]
  have h16 : u * 256 = 2 ^ 8 * u := by omega
  have h17 : 2 ^ 8 * u + d = u * 256 + d := by omega
  have e : (BitVec.ofNat 64 (u * 256) ||| BitVec.ofNat 64 d).toNat = u * 256 + d := by
    rw [BitVec.toNat_or, BitVec.toNat_ofNat, BitVec.toNat_ofNat, Nat.mod_eq_of_lt (by omega), Nat.mod_eq_of_lt (by omega), h16, ← Nat.two_pow_add_eq_or_of_lt (i := 8) hd, h17]
  exact (congrArg (fun n : Nat => IntKind.i64.wrap (n : Int)) e).trans (by rw [IntKind.wrap_i64]; omega)
theorem numB2 (b : ByteArray) (p : Nat) : numB b p 2 = sAt b p * 256 + sAt b (p + 1) := by
  show (0 * 256 + sAt b (p + 0)) * 256 + sAt b (p + 1) = _
  rw [Nat.add_zero, Nat.zero_mul, Nat.zero_add]
set_option maxRecDepth 100000 in
set_option maxHeartbeats 1000000 in
theorem num_any (b : ByteArray) (p g : Nat) (hp : p + 2 ≤ b.size) (hsz : b.size ≤ 1000000) (w : World) (hg : w.cell? ⟨g, 0, none⟩ = some (.string b)) : Calls Try.prog 117 #[.int .i64 p, .pointer (some ⟨g, 0, none⟩)] w fun e w' => e = .returned (.int .i64 (numB b p 2 : Nat)) ∧ Below w.heap.size w w' := by
  have i0 : p < b.size := by omega
  have i1 : p + 1 < b.size := by omega
  have h0 := sAt_eq b p i0
  have h1 := sAt_eq b (p + 1) i1
  have l0 := sAt_lt b p
  have l1 := sAt_lt b (p + 1)
  have HN := Lib.hid (numB2 b p)
  generalize numB b p 2 = N at *
  have hor := or8 _ _ l0 l1
  generalize sAt b p = c at *
  generalize sAt b (p + 1) = d at *
  have i2 : (p : Int) < (b.size : Int) := by omega
  have i3 : (p : Int) + 1 < (b.size : Int) := by omega
  have i4 : (0 : Int) ≤ (p : Int) + 1 := by omega
  have i5 : ((p : Int) + 1).toNat = p + 1 := by omega
  have w1 : IntKind.i64.wrap (c : Int) = (c : Int) := by rw [IntKind.wrap_i64]; omega
  have w2 : IntKind.i64.wrap (d : Int) = (d : Int) := by rw [IntKind.wrap_i64]; omega
  have w3 : IntKind.i64.wrap ((c : Int) * 256) = (c : Int) * 256 := by rw [IntKind.wrap_i64]; omega
  have w4 : IntKind.i64.wrap ((p : Int) + 1) = (p : Int) + 1 := by rw [IntKind.wrap_i64]; omega
  clear l0 l1 hp hsz
  go_enter Try.func117, Try.ntmps117
  go_wp2_with fail
  go_quiet (fail)
  go_wp2_with fail
  go_ret
  exact ⟨by rw [HN.out]; rfl, below_drewN (Below.refl _ _) _⟩
end Go.Proofs.Ytmgpecomgffelaa
