/- Contract: the row of bytes (of the program). -/
import Derived.Test.YtmgpecomgffelaaCodG
import Derived.Test.YtmgpecomgffelaaRowQ
namespace Go.Proofs.Ytmgpecomgffelaa
open Go.RowKit
set_option linter.unusedVariables false
theorem own_keep {w w' : World} {B : Nat} {e : TypeId} {size : Nat} {v : Value} {n : Nat} {xs : List Value} (h : w.ownsRow B e size v n xs) (hb : Below w.heap.size w w') : w'.ownsRow B e size v n xs := by
  refine ⟨h.1, ?_⟩
  rcases h.2 with h | ⟨g, cap, cur, hv, hg, hc, rest⟩
  · exact Or.inl h
  · refine Or.inr ⟨g, cap, cur, hv, hg, (hb.block g ?_).trans hc, rest⟩
    exact (Array.getElem?_eq_some_iff.1 hc).1
theorem Fresh.keep {w w' : World} {B : Nat} {e : TypeId} {size : Nat} {v : Value} {n : Nat} {xs : List Value} (h : Fresh w B e size v n xs) (hb : Below w.heap.size w w') : Fresh w' B e size v n xs := h.imp (fun h => own_keep h hb) id
theorem seqA_end (s : ByteArray) (a k : Nat) (l : List Val) (e : Nat) (h : seqA s a k = some (l, e)) (hg : gotA s e = none) (n : Nat) (hn : k < n) : seqA s a n = none := by
  have h1 : seqA s a (k + 1) = none := by rw [seqA_succ _ _ _ _ _ h, hg]; rfl
  exact seqA_none s a (k + 1) h1 n hn
theorem flat_snoc (l : List Val) (x : Val) : (l ++ [x]).flatMap Val.cells = l.flatMap Val.cells ++ [x].flatMap Val.cells := List.flatMap_append
theorem emp_pos (s : ByteArray) (h : 0 < s.size) : s.toList.isEmpty = false := by
  cases he : s.toList.isEmpty with
  | false => rfl
  | true =>
    have := (emp_iff s).1 he
    rw [this] at h
    exact absurd h (by decide)
def ValsP (s : ByteArray) (w : World) (e : Ending) (w' : World) : Prop := ∃ A c, e = .returned (.tuple #[.slice A (valsL s).length c, .int .i64 (valsE s)]) ∧ Fresh w' w.heap.size 24 4 (.slice A (valsL s).length c) (valsL s).length ((valsL s).flatMap Val.cells) ∧ (A = none → c = 0) ∧ Below w.heap.size w w'
theorem vals_of_none {s : ByteArray} (h : valsO s = none) : valsL s = [] ∧ valsE s = 11 := by
  unfold valsL valsE
  rw [h]
  exact ⟨rfl, rfl⟩
theorem vals_of_some {s : ByteArray} {l : List Val} (h : valsO s = some l) : valsL s = l ∧ valsE s = 0 := by
  unfold valsL valsE
  rw [h]
  exact ⟨rfl, rfl⟩
theorem ValsP.no {s : ByteArray} (h : valsO s = none) {w w' : World} (hb : Below w.heap.size w w') : ValsP s w (.returned (.tuple #[.slice none 0 0, .int .i64 11])) w' := by
  obtain ⟨e1, e2⟩ := vals_of_none h
  refine ⟨none, 0, ?_, ?_, fun _ => rfl, hb⟩
  · rw [e1, e2]; rfl
  · rw [e1]; exact Or.inl (World.ownsRow_nil _ _ _ _)
theorem ValsP.yes {s : ByteArray} {l : List Val} (h : valsO s = some l) {w w' : World} {A : Option Addr} {c : Nat} (hr : Fresh w' w.heap.size 24 4 (.slice A l.length c) l.length (l.flatMap Val.cells)) (hn : A = none → c = 0) (hb : Below w.heap.size w w') : ValsP s w (.returned (.tuple #[.slice A l.length c, .int .i64 0])) w' := by
  obtain ⟨e1, e2⟩ := vals_of_some h
  refine ⟨A, c, ?_, ?_, hn, hb⟩
  · rw [e1, e2]
  · rw [e1]; exact hr
theorem valsO_none0 (s : ByteArray) (h : ¬ (0 < s.size ∧ sAt s 0 ≤ 6)) : valsO s = none := by
  unfold valsO takA
  rw [if_neg h]
  rfl
theorem valsO_seq (s : ByteArray) (h : 0 < s.size ∧ sAt s 0 ≤ 6) : valsO s = (seqA s 1 (sAt s 0)).bind fun x => if x.2 = s.size then some x.1 else none := by
  unfold valsO takA
  rw [if_pos h]
theorem RdV.oneAt (w : World) (x : Val) (b : Nat) (hb : b = w.heap.size) : RdV (w.alloc (.cells #[.int .i64 x.kind, .int .i64 x.n, .float .f64 x.f, .string x.s] 24)) (some ⟨b, 0, none⟩) [x] := by
  subst hb
  exact RdV.one w x
theorem ValsP.rd {s : ByteArray} {w w' : World} {A : Option Addr} {c : Nat} (h : Fresh w' w.heap.size 24 4 (.slice A (valsL s).length c) (valsL s).length ((valsL s).flatMap Val.cells)) : RdV w' A (valsL s) := Fresh.rd Val.cells_len (by decide) h
theorem ret_arr {a b : Value} (h : a = b) : Ending.returned a = Ending.returned b := by rw [h]

set_option maxRecDepth 100000 in
theorem vals_empty (s : ByteArray) (h : s.size = 0) (w : World) : Calls Try.prog 33 #[.string s] w (ValsP s w) := by
  have he : s = ⟨#[]⟩ := ext_sAt (by rw [h]; rfl) (fun i hi => absurd hi (by omega))
  have hno := Lib.hid (valsO_none0 s (fun hh => by omega))
  subst he
  clear h
  go_enter Try.func33, Try.ntmps33
  go_wp2_with fail
  go_ret2
  exact ValsP.no hno.out (Below.refl _ _)
set_option maxRecDepth 100000 in
theorem vals_big (s : ByteArray) (h : 0 < s.size) (hb : 6 < sAt s 0) (w : World) : Calls Try.prog 33 #[.string s] w (ValsP s w) := by
  have hno := Lib.hid (valsO_none0 s (fun hh => by omega))
  have he := emp_pos s h
  have hk := sAt_eq s 0 h
  have hl := sAt_lt s 0
  generalize sAt s 0 = k at *
  have hkw : IntKind.i64.wrap (k : Int) = (k : Int) := by rw [IntKind.wrap_i64]; omega
  have t1 : decide ((6 : Int) < (k : Int)) = true := by rw [decide_eq_true]; omega
  have t2 : decide (6 < k) = true := by rw [decide_eq_true]; omega
  go_enter Try.func33, Try.ntmps33
  go_wp2_with fail
  go_ret2
  exact ValsP.no hno.out (Below.refl _ _)
set_option maxRecDepth 100000 in
set_option maxHeartbeats 1000000 in
theorem vals_main (s : ByteArray) (hsz : s.size ≤ 1000000) (h : 0 < s.size) (hb : sAt s 0 ≤ 6) (w : World) : Calls Try.prog 33 #[.string s] w (ValsP s w) := by
  have hst := run_sf
  have hO := Lib.hid (valsO_seq s ⟨h, hb⟩)
  have HD := Lib.hid (fun a => dec_nat s a hsz)
  have he := emp_pos s h
  have hk := sAt_eq s 0 h
  generalize sAt s 0 = m at *
  have hkw : IntKind.i64.wrap (m : Int) = (m : Int) := by rw [IntKind.wrap_i64]; omega
  have t1 : decide ((6 : Int) < (m : Int)) = false := by rw [decide_eq_false]; omega
  have t2 : decide (6 < m) = false := by rw [decide_eq_false]; omega
  go_enter Try.func33, Try.ntmps33
  go_wp2_with fail
  go_loopw [4, 5, 20] (fun v p i wr => ∃ (k a : Nat) (l : List Val), k ≤ m ∧ i = .int .i64 k ∧ p = .int .i64 a ∧ seqA s 1 k = some (l, a) ∧ Fresh wr w.heap.size 24 4 v k (l.flatMap Val.cells) ∧ Below w.heap.size w wr) (fun _ _ i _ => m - (intOf i).toNat)
  case atStart => exact ⟨0, 1, [], by omega, rfl, rfl, rfl, Or.inl (World.ownsRow_nil _ _ _ _), Below.refl _ _⟩
  case round =>
    obtain ⟨k, a, l, hkm, rfl, rfl, hs, hF, hbr⟩ := hrel
    obtain ⟨h1, h2, h3, h4, h5⟩ := seqA_ok s 1 (by omega) k l a hs
    obtain ⟨A0, c0, rfl, hn0⟩ := hF.slice
    clear h4 h5
    have Hs := Lib.hid hs
    have H1 := Lib.hid h1
    clear hs h1
    by_cases hlt : k < m
    · have hcall := HD.out a
      have hw1 : IntKind.i64.wrap ((k : Int) + 1) = (k : Int) + 1 := by rw [IntKind.wrap_i64]; omega
      cases hg : gotA s a with
      | none =>
        rw [hg] at hcall
        have hno : valsO s = none := by rw [hO.out, seqA_end s 1 k l a Hs.out hg m hlt]; rfl
        have Hno := Lib.hid hno
        have e1 : (gV (none : Option (Val × Nat))).v = vv 0 0 0 ⟨#[]⟩ := rfl
        have e2 : gN (none : Option (Val × Nat)) = 0 := rfl
        rw [e1, e2] at hcall
        simp only [Option.isSome_none] at hcall
        clear hno e1 e2 hg
        go_wp2_with fail
        refine (hcall _).mono ?_
        rintro e w1 ⟨rfl, b1⟩
        have hb1 := hbr.trans (b1.mono hbr.size)
        go_wp2_with fail
        go_ret2
        exact ValsP.no Hno.out (hb1.alloc hb1.size _)
      | some y =>
        obtain ⟨x, n⟩ := y
        obtain ⟨g1, g2, g3, g4⟩ := enc_got hg
        have hs2 : seqA s 1 (k + 1) = some (l ++ [x], a + n) := by rw [seqA_succ _ _ _ _ _ Hs.out, hg]; rfl
        have Hs2 := Lib.hid hs2
        rw [hg] at hcall
        have e1 : gV (some (x, n)) = x := rfl
        have e2 : gN (some (x, n)) = n := rfl
        rw [e1, e2] at hcall
        simp only [Option.isSome_some] at hcall
        clear hs2 e1 e2 hg g3 g4
        have hw2 : IntKind.i64.wrap ((a : Int) + (n : Int)) = (a : Int) + (n : Int) := by rw [IntKind.wrap_i64]; omega
        go_wp2_with fail
        refine (hcall _).mono ?_
        rintro e w1 ⟨rfl, b1⟩
        have hb1 := hbr.trans (b1.mono hbr.size)
        have hF1 := hF.keep b1
        go_wp2_with (at_builtin; refine wl_app_vals rfl _ _ rfl w.heap.size _ k _ rfl ((hF1.alloc _).alloc _) (by have := hb1.size; simp; omega) _ 1 [x] rfl (by simp) (RdV.oneAt _ _ _ (by simp)) (by simp; omega) ?_; intro v' w3' hF3 b3 _)
        rw [← flat_snoc] at hF3
        have hb3 : Below w.heap.size w w3' := ((hb1.alloc hb1.size _).alloc (by have := hb1.size; simp; omega) _).trans b3
        go_wp2_with fail
        exact ⟨⟨k + 1, a + n, l ++ [x], by omega, by go_num, by go_num, Hs2.out, hF3, hb3⟩, by simp [intOf]; omega⟩
    · obtain rfl : k = m := by omega
      have hlen := H1.out
      subst hlen
      by_cases hend : a < s.size
      · have t3 : decide ((a : Int) < (s.size : Int)) = true := by rw [decide_eq_true]; omega
        have t4 : decide (a < s.size) = true := by rw [decide_eq_true]; omega
        have Hno := Lib.hid (show valsO s = none by rw [hO.out, Hs.out, Option.bind_some]; exact if_neg (by simp only; omega))
        clear hend
        go_wp2_with fail
        go_ret2
        exact ValsP.no Hno.out hbr
      · have t3 : decide ((a : Int) < (s.size : Int)) = false := by rw [decide_eq_false]; omega
        have t4 : decide (a < s.size) = false := by rw [decide_eq_false]; omega
        have Hy := Lib.hid (show valsO s = some l by rw [hO.out, Hs.out, Option.bind_some]; exact if_pos (by simp only; omega))
        clear hend
        have HR := Lib.hid hF
        have HN := Lib.hid hn0
        clear hn0 hF
        go_wp2_with fail
        go_ret2
        exact ValsP.yes Hy.out HR.out HN.out hbr
theorem vals_any (s : ByteArray) (hsz : s.size ≤ 1000000) (w : World) : Calls Try.prog 33 #[.string s] w (ValsP s w) := by
  by_cases h : 0 < s.size
  · by_cases hb : sAt s 0 ≤ 6
    · exact vals_main s hsz h hb w
    · exact vals_big s h (by omega) w
  · exact vals_empty s (by omega) w
end Go.Proofs.Ytmgpecomgffelaa
