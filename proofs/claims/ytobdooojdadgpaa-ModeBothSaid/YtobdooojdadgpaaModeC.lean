/- More contracts of package mode and its reference. -/
import Derived.Test.YtobdooojdadgpaaModeP
namespace Go.Proofs.Ytobdooojdadgpaa
open Go.RowKit

theorem in_any (s k : Int) (w : World) : Calls Try.prog 54 #[.int .i64 s, .int .i64 k] w fun e w' => e = .returned (.bool (inM s k)) ∧ w = w' := by
  by_cases h : 1 ≤ k ∧ k ≤ 8
  · have e : inM s k = (bits BinOp.and IntKind.i64 (s / 2 ^ k.toNat) 1 == 1) := by unfold inM; simp [h]
    have E := Lib.hid e
    clear e
    obtain ⟨h1, h2⟩ := h
    go_enter Try.func54, Try.ntmps54
    go_wp2
    go_ret
    exact ⟨by rw [E.out]; rfl, rfl⟩
  · have e : inM s k = false := by unfold inM; simp; omega
    have E := Lib.hid e
    clear e
    by_cases h1 : 1 ≤ k
    · have h2 : decide (k ≤ 8) = false := by simp; omega
      clear h
      go_enter Try.func54, Try.ntmps54
      go_wp2
      go_ret
      exact ⟨by rw [E.out]; rfl, rfl⟩
    · clear h
      go_enter Try.func54, Try.ntmps54
      go_wp2
      go_ret
      exact ⟨by rw [E.out]; rfl, rfl⟩

theorem any_any (s m : Int) (w : World) : Calls Try.prog 18 #[.int .i64 s, .int .i64 m] w fun e w' => e = .returned (.bool (anyM s m)) ∧ Below w.heap.size w w' := by
  go_enter Try.func18, Try.ntmps18
  go_wp2_with (go_at_call 16; refine (with_any _ _).mono ?_; rintro e w' ⟨rfl, hb⟩)
  go_ret
  exact ⟨rfl, hb⟩

theorem rAny_yes (s m : Int) (k : Int) (h1 : 1 ≤ k) (h2 : k ≤ 8) (h3 : inM s k = true) (h4 : decide (k ∈ lst m) = true) : rAnyM s m = true := by
  unfold rAnyM
  refine List.any_eq_true.2 ⟨k, ?_, by rw [h3, h4]; rfl⟩
  simp
  omega
theorem rAny_no (s m : Int) (h : ∀ k : Int, 1 ≤ k → k ≤ 8 → (inM s k && decide (k ∈ lst m)) = false) : rAnyM s m = false := by
  unfold rAnyM
  refine List.any_eq_false.2 fun k hk => ?_
  rw [h k (by simp at hk; omega) (by simp at hk; omega)]
  simp

theorem rAny_any (s m : Int) (w : World) : Calls Try.prog 19 #[.int .i64 s, .int .i64 m] w fun e w' => e = .returned (.bool (rAnyM s m)) ∧ Below w.heap.size w w' := by
  go_enter Try.func19, Try.ntmps19
  go_wp2
  go_loopw [5] (fun i wr => ∃ k : Int, 1 ≤ k ∧ k ≤ 9 ∧ i = .int .i64 k ∧ Below w.heap.size w wr ∧ ∀ j : Int, 1 ≤ j → j < k → (inM s j && decide (j ∈ lst m)) = false) (fun i _ => (9 - intOf i).toNat)
  case atStart => exact ⟨1, by omega, by omega, rfl, Below.refl _ _, fun j h1 h2 => by omega⟩
  case round =>
    obtain ⟨k, hk1, hk2, rfl, hb, hj⟩ := hrel
    have Hj := Lib.hid hj
    clear hj
    by_cases hlt : k ≤ 8
    · by_cases hi : inM s k = true
      · by_cases hm : decide (k ∈ lst m) = true
        · have Hf := Lib.hid (rAny_yes s m k hk1 hlt hi hm)
          go_wp2_with (first | (go_at_call 54; refine (in_any _ _ _).mono ?_; rintro e w' ⟨rfl, rfl⟩) | (go_at_call 15; refine (rBars_any _ _ _).mono ?_; rintro e w' ⟨rfl, hb'⟩))
          go_ret
          exact ⟨by rw [Hf.out]; rfl, below_trans hb hb'⟩
        · have hm' : decide (k ∈ lst m) = false := by simpa using hm
          have hf := Lib.hid (show (inM s k && decide (k ∈ lst m)) = false by rw [hm']; simp)
          clear hm
          go_wp2_with (first | (go_at_call 54; refine (in_any _ _ _).mono ?_; rintro e w' ⟨rfl, rfl⟩) | (go_at_call 15; refine (rBars_any _ _ _).mono ?_; rintro e w' ⟨rfl, hb'⟩))
          go_roundw
          case rel => exact ⟨k + 1, by omega, by omega, rfl, below_trans hb hb', fun j h1 h2 => by
            by_cases e : j = k
            · subst e; exact hf.out
            · exact Hj.out j h1 (by omega)⟩
          case measure => simp [intOf]; omega
      · have hi' : inM s k = false := by simpa using hi
        have hf := Lib.hid (show (inM s k && decide (k ∈ lst m)) = false by rw [hi']; simp)
        clear hi
        go_wp2_with (first | (go_at_call 54; refine (in_any _ _ _).mono ?_; rintro e w' ⟨rfl, rfl⟩) | (go_at_call 15; refine (rBars_any _ _ _).mono ?_; rintro e w' ⟨rfl, hb'⟩))
        go_roundw
        case rel => exact ⟨k + 1, by omega, by omega, rfl, hb, fun j h1 h2 => by
            by_cases e : j = k
            · subst e; exact hf.out
            · exact Hj.out j h1 (by omega)⟩
        case measure => simp [intOf]; omega
    · have Hf := Lib.hid (rAny_no s m fun j h1 h2 => Hj.out j h1 (by omega))
      go_wp2
      go_ret
      exact ⟨by rw [Hf.out]; rfl, hb⟩
end Go.Proofs.Ytobdooojdadgpaa
