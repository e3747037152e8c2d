/- Contracts: row.one, liveryref04.Find. -/
import Derived.Test.YtmgpecomgffelaaRowJ
import Derived.BigGuardPart
namespace Go.Proofs.Ytmgpecomgffelaa
open Go.RowKit
set_option linter.unusedVariables false
/-- Is a column alone good? -/
def oneV (x : Col) : Bool := nameV x.name && (decide (1 ≤ x.kind) && (decide (x.kind ≤ 4) && (goodV x.d.kind x.d.n x.d.f x.d.s && (x.d.kind == 0 || x.d.kind == x.kind))))
set_option maxRecDepth 100000 in
set_option maxHeartbeats 1000000 in
theorem one_any (x : Col) (w : World) : Calls Try.prog 109 #[cv x.name x.kind x.nn x.d.kind x.d.n x.d.f x.d.s] w fun e w' => e = .returned (.bool (oneV x)) ∧ Below w.heap.size w w' := by
  have hst := run_sf
  have hn := name_any x.name
  have hg := good_any x.d.kind x.d.n x.d.f x.d.s
  have hv : oneV x = (nameV x.name && (decide (1 ≤ x.kind) && (decide (x.kind ≤ 4) && (goodV x.d.kind x.d.n x.d.f x.d.s && (x.d.kind == 0 || x.d.kind == x.kind))))) := rfl
  generalize nameV x.name = a at *
  generalize goodV x.d.kind x.d.n x.d.f x.d.s = b at *
  rw [hv]
  clear hv
  go_enter Try.func109, Try.ntmps109
  go_wp2_with (first
    | (go_at_call 89; refine (hn _).mono ?_; rintro e w1 ⟨rfl, rfl⟩)
    | (go_at_call 90; refine (hg _).mono ?_; rintro e w1 ⟨rfl, h1⟩
       have q1 : w1.cell? ⟨w.heap.size, 1, none⟩ = some (.int .i64 x.kind) := (h1.cell (p := ⟨w.heap.size, 1, none⟩) (by simp)).trans (by simp [go_sem])
       have q3 : w1.cell? ⟨w.heap.size, 3, none⟩ = some (.int .i64 x.d.kind) := (h1.cell (p := ⟨w.heap.size, 3, none⟩) (by simp)).trans (by simp [go_sem])
       have hb := below_trans ((Below.refl w.heap.size w).alloc (Nat.le_refl _) _) h1
       clear h1))
  all_goals
    go_ret
    refine ⟨?_, by first | exact hb | exact (Below.refl _ _).alloc (Nat.le_refl _) _⟩
    first | (simp_all; done) | (simp_all; omega)

set_option maxRecDepth 100000 in
theorem rfind_any (A : Option Addr) (c : Nat) (l : List Col) (nm : ByteArray) (w : World) (h : RdC w A l) (hl : l.length ≤ 1000) : Calls Try.prog 74 #[.slice A l.length c, .string nm] w fun e w' => e = .returned (.int .i64 (findV nm l 0)) ∧ w = w' := by
  have H := Lib.hid h
  clear h
  go_enter Try.func74, Try.ntmps74
  go_wp2_with fail
  go_loop [5] (fun i => ∃ k : Nat, k ≤ l.length ∧ i = .int .i64 k ∧ findV nm l 0 = findV nm (l.drop k) k) (fun i => l.length - (intOf i).toNat)
  case atStart => exact ⟨0, by omega, rfl, rfl⟩
  case round =>
    obtain ⟨k, hk, rfl, hf⟩ := hrel
    by_cases hkl : k < l.length
    · obtain ⟨ad, rfl, q0, q1, q2, q3, q4, q5, q6⟩ := RdC.at H.out k hkl
      rw [findV_drop nm l k hkl] at hf
      clear q1 q2 q3 q4 q5 q6
      generalize l[k] = x at *
      cases hs : sq x.name nm with
      | true =>
        rw [hs, if_pos rfl] at hf
        have Hf := Lib.hid hf
        clear hf
        go_wp2_with fail
        go_ret
        exact ⟨by rw [Hf.out]; rfl, rfl⟩
      | false =>
        rw [hs, if_neg (by simp)] at hf
        have Hf := Lib.hid hf
        clear hf
        go_wp2_with fail
        exact ⟨⟨k + 1, by omega, by go_num, Hf.out⟩, by simp [intOf]; omega⟩
    · obtain rfl : k = l.length := by omega
      rw [List.drop_length] at hf
      have Hf := Lib.hid hf
      clear hf
      go_wp2_with fail
      go_ret
      exact ⟨by rw [Hf.out]; rfl, rfl⟩
end Go.Proofs.Ytmgpecomgffelaa
