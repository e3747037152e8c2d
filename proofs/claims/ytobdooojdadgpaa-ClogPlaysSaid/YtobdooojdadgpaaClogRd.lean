/- Contracts of the document's log: Begin. -/
import Derived.Test.YtobdooojdadgpaaClogRc
import Derived.Deep.RegionLaw
namespace Go.Proofs.Ytobdooojdadgpaa
open Go.RowKit
set_option linter.unusedVariables false

theorem RdL.drew' {α : Type} {e : α → List Value} {n : Nat} {w : World} {A : Option Addr} {l : List α} (h : RdL e n w A l) : RdL e n w.drew A l := h
theorem rd_new (W : World) (B : Nat) (hB : B = W.heap.size) (c : Int) (r : Bool) : RdL Tx.rc 4 (W.alloc (.cells #[.int .i64 1, .int .i64 c, .int .i64 0, .bool r] 113)) (some ⟨B, 0, none⟩) [⟨1, 0, c, r⟩] := by
  subst hB
  exact RdL.new rc_len W 113 [⟨1, 0, c, r⟩]
section
variable {w : World} {o : Oper} {a : Act} {K : Act → World → Prop} {Q : Exit → Act → World → Prop}
theorem info113 : (Try.prog.info? 113).map (fun i => (i.zero, i.size, i.bytes)) = some (some (rxV Tx.zero), 4, 32) := by kernel_rfl
theorem rc_one (t : Tx) : ∀ u ∈ t.rc, u.oneCell' = true := fun u hu => by
  simp [Tx.rc] at hu
  rcases hu with rfl | rfl | rfl | rfl <;> rfl
theorem wp_app_txs (s x : Operand) (ho : o.op = .call { callee := .builtin .append, args := #[s, x], argTypes := #[71, 71] })
    (B : Nat) (v : Value) (n : Nat) (xs : List Value) (hs : a.eval s = v) (hF : Fresh w B 113 4 v n xs) (hB : B ≤ w.heap.size)
    (A : Option Addr) (c : Nat) (l : List Tx) (hx : a.eval x = .slice A l.length c) (hn : A = none → c = 0) (hr : RdL Tx.rc 4 w A l) (hl : n + l.length ≤ 100000)
    (h : ∀ v' w', Fresh w' B 113 4 v' (n + l.length) (xs ++ l.flatMap Tx.rc) → Below B w w' → ((∃ b, v = .slice (some b) 0 0) → Below w.heap.size w w' ∧ v' ≠ .slice none 0 0) → K (a.put o.dst v') w') : o.wp Try.prog a w K Q := by
  obtain ⟨i0, hi, hz0, hz1, hz2⟩ := info_parts info113
  exact wp_append_fresh s x 71 ho 113 i0 _ 4 _ Try.underlying71 hi hz0 hz1 hz2 rfl (by decide) Tx.rc rc_len rc_one B v n xs hs hF hB A c l hx hn hr hl (by decide) h
end
theorem Fresh.kept {w w' : World} {B : Nat} {e : TypeId} {size : Nat} {v : Value} {n : Nat} {xs : List Value} (h : Fresh w B e size v n xs) (hb : Below w.heap.size w w') : Fresh w' B e size v n xs := h.imp (fun h => own_kept h hb) id
theorem Fresh.own {w : World} {B : Nat} {e : TypeId} {size : Nat} {v : Value} {n : Nat} {xs : List Value} (h : Fresh w B e size v n xs) (hn : n ≠ 0) : w.ownsRow B e size v n xs := by
  rcases h with h | ⟨h0, _⟩
  · exact h
  · exact absurd h0 hn

theorem ref_begin_full (q : Nat) (r : Bool) (S : LogS) (w : World) (h : RefAt w q S) (hl : S.l.length = 200) :
    Calls Try.prog 69 #[ptr q, .bool r] w fun e w' => e = .returned (.tuple #[.int .i64 0, .int .i64 74]) ∧ w = w' := by
  obtain ⟨A, c, h0, h1, hn, hr⟩ := h.cells
  rw [hl] at h0
  clear hn hr h hl
  go_enter Try.func69, Try.ntmps69
  go_wp2_with fail
  go_ret2
  exact ⟨rfl, rfl⟩

set_option maxRecDepth 100000 in
set_option maxHeartbeats 4000000 in
theorem ref_begin_yes (q : Nat) (r : Bool) (S : LogS) (w : World) (h : RefAt w q S) (hl : S.l.length < 200) :
    Calls Try.prog 69 #[ptr q, .bool r] w fun e w' => e = .returned (.tuple #[.int .i64 (S.l.length + 1), .int .i64 0]) ∧ RefAt w' q (S.begin' r) ∧ Below q w w' := by
  have hlt := h.lt
  obtain ⟨A, c, r1, r2, hn, hr⟩ := h.opened
  have h0 := r1.cell (i := 0) (by omega)
  have h1 := r1.cell (i := 1) (by omega)
  rw [if_pos rfl] at h0
  rw [if_neg (by omega)] at h1
  have hlen := len_begin S r
  have hbl : (S.begin' r).l.flatMap Tx.rc = S.l.flatMap Tx.rc ++ ([⟨1, 0, S.clock, r⟩] : List Tx).flatMap Tx.rc := by simp [LogS.begin']
  have R1 := Lib.hid r1
  have HN := Lib.hid hn
  have HR := Lib.hid hr
  have HLEN := Lib.hid hlen
  have HBL := Lib.hid hbl
  have HL := Lib.hid hl
  have d2 : decide ((200 : Int) ≤ (S.l.length : Int)) = false := decide_eq_false (by omega)
  clear r1 r2 hn hr hlen hbl h
  go_enter Try.func69, Try.ntmps69
  go_wp2_with fail
  go_region_law (first | (rw [if_pos (by rfl)]; refine wp_app_txs _ _ rfl w.heap.size _ 0 [] rfl (Fresh.empty _ _ _ _ _) (by first | (simp; done) | (simp; omega)) A c S.l rfl HN.out (HR.out.keep (B := w.heap.size) (by first | exact (Below.refl _ _).drew.alloc (by simp) _ | exact ((Below.refl _ _).drew.alloc (by simp) _).alloc (by simp; omega) _ | exact ((Below.refl _ _).alloc (Nat.le_refl _) _).drew | exact (((Below.refl _ _).alloc (Nat.le_refl _) _).alloc (by simp) _).drew) (Nat.le_refl _)) (by have := HL.out; omega) ?_; intro v6 w6 hF6 b6y hb6; have HK6 := Lib.hid (hb6 ⟨_, rfl⟩).1; have HB6 := Lib.hid (show Below w.heap.size w w6 from Below.trans (by first | exact (Below.refl _ _).drew.alloc (by simp) _ | exact ((Below.refl _ _).drew.alloc (by simp) _).alloc (by simp; omega) _ | exact ((Below.refl _ _).alloc (Nat.le_refl _) _).drew | exact (((Below.refl _ _).alloc (Nat.le_refl _) _).alloc (by simp) _).drew) b6y); have HF6 := Lib.hid (show Fresh w6 w.heap.size 113 4 v6 S.l.length (S.l.flatMap Tx.rc) by rw [Nat.zero_add, List.nil_append] at hF6; exact hF6); have g61 := kd HB6.out hlt h1; clear hF6 b6y hb6) | (rw [if_pos (by rfl)]; refine wp_app_txs _ _ rfl w.heap.size _ S.l.length (S.l.flatMap Tx.rc) rfl (by first | exact HF6.out | exact HF6.out.alloc _) (by have := HB6.out.size; first | exact this | (simp; omega)) _ 1 [⟨1, 0, S.clock, r⟩] rfl (fun h => by cases h) (by first | exact (rd_new _ _ (by simp) S.clock r) | (refine RdL.keep ?_ HK6.out (Nat.le_refl _); first | exact (rd_new _ _ (by simp) S.clock r) | exact (rd_new _ _ (by simp) S.clock r).drew' | exact (rd_new _ _ (by simp) S.clock r).keep ((Below.refl _ _).alloc (Nat.le_refl _) _) (Nat.le_refl _) | exact ((rd_new _ _ (by simp) S.clock r).keep ((Below.refl _ _).alloc (Nat.le_refl _) _) (Nat.le_refl _)).drew')) (by have := HL.out; simp; omega) ?_; intro v14 w14 hF14 b14 _; rw [show S.l.length + ([⟨1, 0, S.clock, r⟩] : List Tx).length = (S.begin' r).l.length by rw [HLEN.out]; rfl, ← HBL.out] at hF14; obtain ⟨A14, c14, rfl, _⟩ := hF14.slice; have HF14 := Lib.hid hF14; have HB14 := Lib.hid (show Below w.heap.size w w14 by first | exact HB6.out.trans b14 | exact (HB6.out.alloc HB6.out.size _).trans b14); have r14 := R1.out.of_block (HB14.out.block q hlt); have g0 := r14.cell (i := 0) (by omega); have f0 := r14.frozen 0; have R14 := Lib.hid r14; clear hF14 b14 r14))
  all_goals
    have r17 := R14.out.set 0 (.slice A14 (S.begin' r).l.length c14)
    have g17 : (w14.setCell ⟨q, 0, none⟩ (.slice A14 (S.begin' r).l.length c14)).cell? ⟨q, 0, none⟩ = some (.slice A14 (S.begin' r).l.length c14) := r17.cell (i := 0) (by omega)
    have o17 := ownsRow_setCell_below (own_mono (HF14.out.own (by rw [HLEN.out]; omega)) hlt) (a := ⟨q, 0, none⟩) (Nat.lt_succ_self q) (.slice A14 (S.begin' r).l.length c14)
    have hR : Hid (RefAt (w14.setCell ⟨q, 0, none⟩ (.slice A14 (S.begin' r).l.length c14)) q (S.begin' r)) := Lib.hid ⟨_, r17.congr (fun i hi => by (by_cases e : i = 0); (rw [if_pos e, if_pos e]); (rw [if_neg e, if_neg e, if_neg e]; rfl)), o17⟩
    have hBq : Hid (Below q w (w14.setCell ⟨q, 0, none⟩ (.slice A14 (S.begin' r).l.length c14))) := Lib.hid ((HB14.out.mono (Nat.le_of_lt hlt)).setCell (p := ⟨q, 0, none⟩) (Nat.le_refl q) _)
    clear r17 o17 R14 g0 f0 HB14
    generalize (w14.setCell ⟨q, 0, none⟩ (.slice A14 (S.begin' r).l.length c14)) = w17 at *
    go_wp2_with fail
    go_ret2
    exact ⟨by rw [HLEN.out]; rfl, hR.out, hBq.out⟩
end Go.Proofs.Ytobdooojdadgpaa
