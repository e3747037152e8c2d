/- Contracts of package keep: rows alike; columns not too large. -/
import Derived.Test.YtmgpecomgffelaaValB
import Derived.Deep.RegionWith
import Derived.BigRegion
namespace Go.Proofs.Ytmgpecomgffelaa
open Go.RowKit
set_option linter.unusedVariables false
set_option maxRecDepth 100000 in
theorem values_same (A B : Option Addr) (c d : Nat) (l : List Val) (w : World) (ha : RdV w A l) (hb : RdV w B l) (hlen : l.length ≤ 1000) : Calls Try.prog 35 #[.slice A l.length c, .slice B l.length d] w fun e w' => e = .returned (.bool true) ∧ Below w.heap.size w w' := by
  have hst := run_sf
  have HA := Lib.hid ha
  have HB := Lib.hid hb
  have HL := Lib.hid value_same
  have hself : ((l.length : Int) == (l.length : Int)) = true := beq_self_eq_true _
  clear ha hb
  go_enter Try.func35, Try.ntmps35
  go_wp2_with fail
  go_loopw [5] (fun i wr => ∃ k : Nat, k ≤ l.length ∧ i = .int .i64 k ∧ Below w.heap.size w wr) (fun i _ => l.length - (intOf i).toNat)
  case atStart => exact ⟨0, by omega, rfl, Below.refl _ _⟩
  case round =>
    obtain ⟨k, hk, rfl, hb⟩ := hrel
    by_cases hlt : k < l.length
    · obtain ⟨ad, rfl, q0, q1, q2, q3⟩ := RdV.at (HA.out.keep hb (Nat.le_refl _)) k hlt
      obtain ⟨ad2, rfl, r0, r1, r2, r3⟩ := RdV.at (HB.out.keep hb (Nat.le_refl _)) k hlt
      have hw1 : IntKind.i64.wrap ((k : Int) + 1) = (k : Int) + 1 := by rw [IntKind.wrap_i64]; omega
      have hcall := HL.out l[k].kind l[k].n l[k].f l[k].s
      generalize l[k] = x at *
      go_wp2_with fail
      go_region_with (go_at_call 29; refine (hcall _).mono ?_; rintro e w1 ⟨rfl, h1⟩)
      all_goals
        have hb2 := (below_drewN hb _).trans (h1.mono hb.size)
        go_wp2_with fail
        exact ⟨⟨k + 1, by omega, by go_num, hb2⟩, by simp [intOf]; omega⟩
    · obtain rfl : k = l.length := by omega
      go_wp2_with fail
      go_ret
      exact ⟨rfl, hb⟩
end Go.Proofs.Ytmgpecomgffelaa
