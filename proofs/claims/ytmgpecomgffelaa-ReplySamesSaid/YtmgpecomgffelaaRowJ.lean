/- Contracts of the reference: plain, Good. -/
import Derived.Test.YtmgpecomgffelaaRowH
namespace Go.Proofs.Ytmgpecomgffelaa
open Go.RowKit
set_option linter.unusedVariables false
theorem rplain_any (f : Nat) (w : World) : Calls Try.prog 105 #[.float .f64 f] w fun e w' => e = .returned (.bool (f == 0)) ∧ w = w' := by
  have hb := run_bits
  go_enter Try.func105, Try.ntmps105
  go_wp2_with fail
  go_ret
  have e : (((f : Int) == 0) : Bool) = (f == 0) := by rw [Bool.eq_iff_iff, beq_iff_eq, beq_iff_eq]; omega
  exact ⟨congrArg (fun b => Ending.returned (.bool b)) e, rfl⟩
set_option maxRecDepth 100000 in
theorem rgood_0 (n : Int) (f : Nat) (s : ByteArray) (w : World) : Calls Try.prog 58 #[vv 0 n f s] w fun e w' => e = .returned (.bool (goodV 0 n f s)) ∧ Below w.heap.size w w' := by
  have hst := run_sf
  go_enter Try.func58, Try.ntmps58
  go_wp2_with (first | (go_at_call 105; refine (rplain_any _ _).mono ?_; rintro e w1 ⟨rfl, rfl⟩) | (go_at_call 51; refine (ris_any _ _).mono ?_; rintro e w1 ⟨rfl, rfl⟩))
  all_goals (go_ret; refine ⟨?_, (Below.refl _ _).alloc (Nat.le_refl _) _⟩; simp_all [goodV])
set_option maxRecDepth 100000 in
theorem rgood_1 (n : Int) (f : Nat) (s : ByteArray) (w : World) : Calls Try.prog 58 #[vv 1 n f s] w fun e w' => e = .returned (.bool (goodV 1 n f s)) ∧ Below w.heap.size w w' := by
  have hst := run_sf
  go_enter Try.func58, Try.ntmps58
  go_wp2_with (first | (go_at_call 105; refine (rplain_any _ _).mono ?_; rintro e w1 ⟨rfl, rfl⟩) | (go_at_call 51; refine (ris_any _ _).mono ?_; rintro e w1 ⟨rfl, rfl⟩))
  all_goals (go_ret; refine ⟨?_, (Below.refl _ _).alloc (Nat.le_refl _) _⟩; simp_all [goodV])
set_option maxRecDepth 100000 in
theorem rgood_2 (n : Int) (f : Nat) (s : ByteArray) (w : World) : Calls Try.prog 58 #[vv 2 n f s] w fun e w' => e = .returned (.bool (goodV 2 n f s)) ∧ Below w.heap.size w w' := by
  have hst := run_sf
  go_enter Try.func58, Try.ntmps58
  go_wp2_with (first | (go_at_call 105; refine (rplain_any _ _).mono ?_; rintro e w1 ⟨rfl, rfl⟩) | (go_at_call 51; refine (ris_any _ _).mono ?_; rintro e w1 ⟨rfl, rfl⟩))
  all_goals (go_ret; refine ⟨?_, (Below.refl _ _).alloc (Nat.le_refl _) _⟩; simp_all [goodV])
set_option maxRecDepth 100000 in
theorem rgood_3 (n : Int) (f : Nat) (s : ByteArray) (w : World) : Calls Try.prog 58 #[vv 3 n f s] w fun e w' => e = .returned (.bool (goodV 3 n f s)) ∧ Below w.heap.size w w' := by
  have hst := run_sf
  have hg : goodV 3 n f s = ((n == 0) && emp s && decide (f = canonF f)) := rfl
  have hr := ris_any f
  rw [hg]
  generalize decide (f = canonF f) = c at *
  clear hg
  go_enter Try.func58, Try.ntmps58
  go_wp2_with (go_at_call 51; refine (hr _).mono ?_; rintro e w1 ⟨rfl, rfl⟩)
  all_goals (go_ret; refine ⟨?_, (Below.refl _ _).alloc (Nat.le_refl _) _⟩; simp_all)
set_option maxRecDepth 100000 in
theorem rgood_4 (n : Int) (f : Nat) (s : ByteArray) (w : World) : Calls Try.prog 58 #[vv 4 n f s] w fun e w' => e = .returned (.bool (goodV 4 n f s)) ∧ Below w.heap.size w w' := by
  have hst := run_sf
  go_enter Try.func58, Try.ntmps58
  go_wp2_with (first | (go_at_call 105; refine (rplain_any _ _).mono ?_; rintro e w1 ⟨rfl, rfl⟩) | (go_at_call 51; refine (ris_any _ _).mono ?_; rintro e w1 ⟨rfl, rfl⟩))
  all_goals (go_ret; refine ⟨?_, (Below.refl _ _).alloc (Nat.le_refl _) _⟩; simp_all [goodV]; try omega)
set_option maxRecDepth 100000 in
theorem rgood_else (k n : Int) (f : Nat) (s : ByteArray) (w : World) (h : ¬ (k = 0 ∨ k = 1 ∨ k = 2 ∨ k = 3 ∨ k = 4)) : Calls Try.prog 58 #[vv k n f s] w fun e w' => e = .returned (.bool (goodV k n f s)) ∧ Below w.heap.size w w' := by
  have hst := run_sf
  have e : goodV k n f s = false := by
    unfold goodV
    rw [if_neg (by omega), if_neg (by omega), if_neg (by omega), if_neg (by omega), if_neg (by omega)]
  rw [e]
  have t0 : (k == 0) = false := by rw [beq_eq_false_iff_ne]; omega
  have t1 : (k == 1) = false := by rw [beq_eq_false_iff_ne]; omega
  have t2 : (k == 2) = false := by rw [beq_eq_false_iff_ne]; omega
  have t3 : (k == 3) = false := by rw [beq_eq_false_iff_ne]; omega
  have t4 : (k == 4) = false := by rw [beq_eq_false_iff_ne]; omega
  clear e h
  go_enter Try.func58, Try.ntmps58
  go_wp2_with fail
  go_ret
  exact ⟨rfl, (Below.refl _ _).alloc (Nat.le_refl _) _⟩
theorem rgood_any (k n : Int) (f : Nat) (s : ByteArray) (w : World) : Calls Try.prog 58 #[vv k n f s] w fun e w' => e = .returned (.bool (goodV k n f s)) ∧ Below w.heap.size w w' := by
  by_cases h : k = 0 ∨ k = 1 ∨ k = 2 ∨ k = 3 ∨ k = 4
  · rcases h with rfl | rfl | rfl | rfl | rfl
    · exact rgood_0 n f s w
    · exact rgood_1 n f s w
    · exact rgood_2 n f s w
    · exact rgood_3 n f s w
    · exact rgood_4 n f s w
  · exact rgood_else k n f s w h
end Go.Proofs.Ytmgpecomgffelaa
