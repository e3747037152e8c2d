/- Contracts: slices.DeleteFunc in one answer, strings.Compare, slices.MinFunc of indexes. -/
import Derived.Test.YtobdooojdadgpaaPlanD
import Derived.Laws.OwnMore
import Derived.Lib.Bytealg
import Derived.Lib.Strings
import Derived.Lib.Slices
import Derived.Lib.Walk
namespace Go.Proofs.Ytobdooojdadgpaa
open Go.RowKit
set_option linter.unusedVariables false
theorem delete_any (A : Option Addr) (c : Nat) (l : List Idx) (cl : ByteArray) (g B0 : Nat) (w : World) (hF : Fresh w B0 60 4 (.slice A l.length c) l.length (l.flatMap Idx.cells)) (hl : l.length ≤ 1000) (hg : w.cell? ⟨g, 3, none⟩ = some (.string cl)) (hgB : g < B0) (hB0 : B0 ≤ w.heap.size) :
    Calls Try.prog 58 #[.slice A l.length c, .func (.func 60) #[] #[.pointer (some ⟨g, 0, none⟩)]] w fun e w' => ∃ A' c', e = .returned (.slice A' (keepL cl l).length c') ∧ RdI w' A' (keepL cl l) ∧ Below B0 w w' := by
  have hrd : RdI w A l := Fresh.rd Idx.cells_len (by decide) hF
  rcases fstI_spec cl l 0 with ⟨h1, h2⟩ | ⟨k, hk, h1, h2, h3⟩
  · refine (delete_none A c l cl g w hrd hl hg h1).mono ?_
    rintro e w1 ⟨rfl, b1⟩
    rw [h2]
    exact ⟨A, c, rfl, hrd.keep b1 (Nat.le_refl _), b1.mono hB0⟩
  · rcases hF with hF | ⟨hn, _, _⟩
    · have hown := hF
      rcases hF.2 with ⟨hv, h0⟩ | ⟨B, cap, cur, hv, hb, hg2, hnc, _⟩
      · omega
      · have hA : A = some ⟨B, 0, none⟩ ∧ c = cap := by injection hv with a b c; exact ⟨a, c⟩
        obtain ⟨rfl, rfl⟩ := hA
        rw [Nat.zero_add] at h1
        refine (delete_some B c l cl g w hrd (fun j => hown.frozenAt j) hl hnc hg (by omega) k hk h1 h2 h3).mono ?_
        rintro e w1 ⟨rfl, hr, b1⟩
        exact ⟨_, _, rfl, hr, b1.mono hb⟩
    · omega
theorem cmpstr (a b : ByteArray) (w : World) :
    Calls Try.prog 81 #[.string a, .string b] w fun e w' => e = .returned (.int .i64 (Lib.compareBytes a.data.toList b.data.toList)) ∧ w = w' := by
  go_enter Try.func81, Try.ntmps81
  go_wp2
  rw [run_callFunc_extern Try.func82 (by kernel_rfl) (by kernel_rfl) (by kernel_rfl) (e := Extern.BytealgCompare.compare) (by kernel_rfl), Lib.run_compareString]
  simp only [Result.andThen]
  rw [Oper.upon_value]
  go_wp2
  go_ret
  exact ⟨rfl, rfl⟩
theorem compare_any (a b : ByteArray) (w : World) :
    Calls Try.prog 63 #[.string a, .string b] w fun e w' => e = .returned (.int .i64 (Lib.compareBytes a.data.toList b.data.toList)) ∧ w = w' := by
  go_enter Try.func63, Try.ntmps63
  go_wp2_with (go_at_call 81; refine (cmpstr _ _ _).mono ?_; rintro e w' ⟨rfl, rfl⟩)
  go_ret
  exact ⟨rfl, rfl⟩
end Go.Proofs.Ytobdooojdadgpaa
