/- The contracts of package mode's functions. -/
import Derived.Test.YtobdooojdadgpaaProg
import Derived.WalkKit
import Derived.WalkLawsBesides
import Derived.WalkSpells
import Derived.BigQuiet
import Derived.Lib.Hide
import Derived.KernelRfl
namespace Go.Proofs.Ytobdooojdadgpaa
open Go.RowKit

theorem is_yes (m : Int) (w : World) (h1 : 1 ≤ m) (h2 : m ≤ 8) : Calls Try.prog 51 #[.int .i64 m] w fun e w' => e = .returned (.bool true) ∧ w = w' := by
  go_enter Try.func51, Try.ntmps51
  go_wp2
  go_ret
  exact ⟨rfl, rfl⟩

theorem is_no (m : Int) (w : World) (h : m < 1 ∨ 8 < m) : Calls Try.prog 51 #[.int .i64 m] w fun e w' => e = .returned (.bool false) ∧ w = w' := by
  by_cases h1 : 1 ≤ m
  · have h2 : decide (m ≤ 8) = false := by simp; omega
    clear h
    go_enter Try.func51, Try.ntmps51
    go_wp2
    go_ret
    exact ⟨rfl, rfl⟩
  · clear h
    go_enter Try.func51, Try.ntmps51
    go_wp2
    go_ret
    exact ⟨rfl, rfl⟩

def withM (m : Int) : Int := if m = 1 then 256 else if m = 2 then 384 else if m = 3 then 480 else if m = 4 then 496 else if m = 5 then 472 else if m = 6 then 504 else if m = 7 then 508 else if m = 8 then 510 else 0

theorem bars_any (w : World) : Calls Try.prog 53 #[] w fun e w' => e = .returned (.agg #[.int .i64 0, .int .i64 256, .int .i64 384, .int .i64 480, .int .i64 496, .int .i64 472, .int .i64 504, .int .i64 508, .int .i64 510]) ∧ Below w.heap.size w w' := by
  go_enter Try.func53, Try.ntmps53
  go_wp2
  exact bodyPost_ret (v := .agg #[.int .i64 0, .int .i64 256, .int .i64 384, .int .i64 480, .int .i64 496, .int .i64 472, .int .i64 504, .int .i64 508, .int .i64 510]) (by simp [results, Try.results53, go_sem]) rfl ⟨rfl, (Below.refl _ _).alloc (Nat.le_refl _) _⟩

theorem with_no (m : Int) (w : World) (h : m < 1 ∨ 8 < m) : Calls Try.prog 16 #[.int .i64 m] w fun e w' => e = .returned (.int .i64 0) ∧ w = w' := by
  go_enter Try.func16, Try.ntmps16
  go_wp2_with (go_at_call 51; refine (is_no _ _ h).mono ?_; rintro e w' ⟨rfl, rfl⟩)
  go_ret
  exact ⟨rfl, rfl⟩

abbrev barsAt (m : Int) (v : Int) : Prop := ∀ w : World, (Instr.index 82 (.agg #[.int .i64 0, .int .i64 256, .int .i64 384, .int .i64 480, .int .i64 496, .int .i64 472, .int .i64 504, .int .i64 508, .int .i64 510]) (.int .i64 m)).run Try.prog w = .ok (.int .i64 v) w
theorem bars_at1 : barsAt 1 256 := fun _ => by kernel_rfl
theorem bars_at2 : barsAt 2 384 := fun _ => by kernel_rfl
theorem bars_at3 : barsAt 3 480 := fun _ => by kernel_rfl
theorem bars_at4 : barsAt 4 496 := fun _ => by kernel_rfl
theorem bars_at5 : barsAt 5 472 := fun _ => by kernel_rfl
theorem bars_at6 : barsAt 6 504 := fun _ => by kernel_rfl
theorem bars_at7 : barsAt 7 508 := fun _ => by kernel_rfl
theorem bars_at8 : barsAt 8 510 := fun _ => by kernel_rfl
theorem bars_at (m : Int) (h1 : 1 ≤ m) (h2 : m ≤ 8) : barsAt m (withM m) := by
  have hm : m = 1 ∨ m = 2 ∨ m = 3 ∨ m = 4 ∨ m = 5 ∨ m = 6 ∨ m = 7 ∨ m = 8 := by omega
  rcases hm with rfl | rfl | rfl | rfl | rfl | rfl | rfl | rfl
  · exact bars_at1
  · exact bars_at2
  · exact bars_at3
  · exact bars_at4
  · exact bars_at5
  · exact bars_at6
  · exact bars_at7
  · exact bars_at8

theorem with_yes (m : Int) (w : World) (h1 : 1 ≤ m) (h2 : m ≤ 8) : Calls Try.prog 16 #[.int .i64 m] w fun e w' => e = .returned (.int .i64 (withM m)) ∧ Below w.heap.size w w' := by
  have hx := bars_at m h1 h2
  go_enter Try.func16, Try.ntmps16
  go_wp2_with (first | (go_at_call 51; refine (is_yes _ _ (by omega) (by omega)).mono ?_; rintro e w' ⟨rfl, rfl⟩) | (go_at_call 53; refine (bars_any _).mono ?_; rintro e w' ⟨rfl, hb⟩))
  go_ret
  exact ⟨rfl, hb⟩

theorem with_any (m : Int) (w : World) : Calls Try.prog 16 #[.int .i64 m] w fun e w' => e = .returned (.int .i64 (withM m)) ∧ Below w.heap.size w w' := by
  by_cases h : 1 ≤ m ∧ m ≤ 8
  · exact with_yes m w h.1 h.2
  · have e : withM m = 0 := by unfold withM; repeat (rw [if_neg (by omega)])
    rw [e]
    exact (with_no m w (by omega)).mono fun _ _ ⟨h, hw⟩ => ⟨h, hw ▸ Below.refl _ _⟩

end Go.Proofs.Ytobdooojdadgpaa
