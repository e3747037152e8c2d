/- Contract: liveryref02.Name. -/
import Derived.Test.YtmgpecomgffelaaRowN
namespace Go.Proofs.Ytmgpecomgffelaa
open Go.RowKit
set_option linter.unusedVariables false
set_option maxRecDepth 100000 in
theorem rname_any (s : ByteArray) (w : World) : Calls Try.prog 104 #[.string s] w fun e w' => e = .returned (.bool (nameV s)) ∧ w = w' := by
  by_cases h1 : s.size < 1
  · have ht : decide ((s.size : Int) < 1) = true := by rw [decide_eq_true]; omega
    have e : nameV s = false := by unfold nameV; rw [decide_eq_false (by omega)]; rfl
    rw [e]
    clear e h1
    go_enter Try.func104, Try.ntmps104
    go_wp2_with fail
    go_ret
    exact ⟨rfl, rfl⟩
  · have ht : decide ((s.size : Int) < 1) = false := by rw [decide_eq_false]; omega
    by_cases h2 : 8 < s.size
    · have ht2 : decide ((8 : Int) < (s.size : Int)) = true := by rw [decide_eq_true]; omega
      have e : nameV s = false := by unfold nameV; rw [decide_eq_false (show ¬ s.size ≤ 8 by omega), Bool.and_false]; rfl
      rw [e]
      clear e h1 h2
      go_enter Try.func104, Try.ntmps104
      go_wp2_with fail
      go_ret
      exact ⟨rfl, rfl⟩
    · have ht2 : decide ((8 : Int) < (s.size : Int)) = false := by rw [decide_eq_false]; omega
      have e : nameV s = nameTo s s.size := by unfold nameV; rw [decide_eq_true (show 1 ≤ s.size by omega), decide_eq_true (show s.size ≤ 8 by omega)]; rfl
      rw [e]
      have Hsz := Lib.hid (show s.size ≤ 8 by omega)
      clear e h1 h2
      go_enter Try.func104, Try.ntmps104
      go_wp2_with fail
      go_loop [3] (fun i => ∃ k : Nat, k ≤ s.size ∧ i = .int .i64 k ∧ nameTo s k = true) (fun i => s.size - (intOf i).toNat)
      case atStart => exact ⟨0, by omega, rfl, rfl⟩
      case round =>
        obtain ⟨k, hk, rfl, hto⟩ := hrel
        have hsz8 := Hsz.out
        by_cases hlt : k < s.size
        · have hsa := sAt_eq s k hlt
          have Hs : Hid (nameTo s (k + 1) = nameC k (sAt s k)) := Lib.hid (by rw [nameTo_succ, hto, Bool.true_and])
          have Hm : Hid (nameTo s (k + 1) = false → nameTo s s.size = false) := Lib.hid (nameTo_mono s (k + 1) _ (by omega))
          clear hto
          generalize sAt s k = c at *
          by_cases h95 : c = 95
          · have f5 : ((c : Int) == 95) = true := by rw [beq_iff_eq]; omega
            go_wp2_with fail
            all_goals
              first
                | exact ⟨⟨k + 1, by omega, by go_num, by rw [Hs.out]; unfold nameC; simp only [Bool.or_eq_true, Bool.and_eq_true, decide_eq_true_eq]; omega⟩, by simp [intOf]; omega⟩
                | (go_ret
                   refine ⟨?_, rfl⟩
                   rw [Hm.out (by rw [Hs.out]; unfold nameC; simp only [Bool.or_eq_false_iff, Bool.and_eq_false_iff, decide_eq_false_iff_not]; omega)]
                   rfl)
          · have f5 : ((c : Int) == 95) = false := by rw [beq_eq_false_iff_ne]; omega
            go_wp2_with fail
            all_goals
              first
                | exact ⟨⟨k + 1, by omega, by go_num, by rw [Hs.out]; unfold nameC; simp only [Bool.or_eq_true, Bool.and_eq_true, decide_eq_true_eq]; omega⟩, by simp [intOf]; omega⟩
                | (go_ret
                   refine ⟨?_, rfl⟩
                   rw [Hm.out (by rw [Hs.out]; unfold nameC; simp only [Bool.or_eq_false_iff, Bool.and_eq_false_iff, decide_eq_false_iff_not]; omega)]
                   rfl)
        · obtain rfl : k = s.size := by omega
          have Hto := Lib.hid hto
          clear hto
          go_wp2_with fail
          go_ret
          exact ⟨by rw [Hto.out]; rfl, rfl⟩
end Go.Proofs.Ytmgpecomgffelaa
