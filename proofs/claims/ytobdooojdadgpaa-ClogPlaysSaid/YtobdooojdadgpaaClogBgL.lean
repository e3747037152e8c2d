/- The law ClogBeginning: a snapshot sees a beginning of all commits, in their order, and nothing else. No condition. -/
import Derived.Test.YtobdooojdadgpaaClogBg
namespace Go.Proofs.Ytobdooojdadgpaa
open Go.RowKit Go.ChangeShapes Go.WideShapes Go.ChangeAt
set_option linter.unusedVariables false

theorem cells3' : Try.prog.cellsOf 3 = 1 := by kernel_rfl
theorem cells4' : Try.prog.cellsOf 4 = 1 := by kernel_rfl
theorem cells64 : Try.prog.cellsOf 64 = 3 := by kernel_rfl
theorem read_step {H : Type} {enc : TypeId × Value → H} {w : World} {base : Nat} {spare : Nat → Bool} {held : Bool} {fuel : Nat} {cs : List Value} {x : DataW H × List MemPlace}
    (h : DataW.trod enc Try.prog w base spare held fuel 64 cs = some x) : ∃ s : StepV, cs = s.cells ∧ True := by
  obtain ⟨n, y0, y1, y2, hlen, h0, h1, h2⟩ := trod_fields3 Try.underlying64 h
  obtain ⟨c0, c1, c2, rfl⟩ := list3 (hlen.trans cells64)
  rw [cells3'] at h0 h1
  rw [cells4'] at h2
  obtain ⟨k, e0, _, _⟩ := DataW.trod_int (cs := [c0]) Try.underlying3 h0
  obtain ⟨q, e1, _, _⟩ := DataW.trod_int (cs := [c1]) Try.underlying3 h1
  obtain ⟨r, e2, _⟩ := DataW.trod_bool (cs := [c2]) Try.underlying4 h2
  simp only [List.cons.injEq, and_true] at e0 e1 e2
  subst e0 e1 e2
  exact ⟨⟨k, q, r⟩, rfl, trivial⟩

set_option maxRecDepth 100000 in
theorem clogBeginning_lifted (os : Os) (started : os.Started) (H : Type) (enc : TypeId × Value → H) :
    ReturnsInHanded {} Try.checked os 10 .any (Rows.clogBeginningSpec.pre6 enc Try.prog Try.f10 [] false) (Rows.clogBeginningSpec.post enc Try.prog Try.f10 false true false false) := by
  refine law_lifted (C := Try.checked) own started (by kernel_rfl) Try.func10
    (ChangeSpec.witness6 (enc := enc) (C := Try.checked) false ⟨#[], #[.slice none 0 0], []⟩ 8 (by kernel_rfl) (by kernel_rfl) (by kernel_rfl) (by kernel_rfl))
    rfl (fun ds h => by match ds, h with | [_], _ => rfl) laid (by kernel_rfl) (tb := 4) rfl Try.underlying4 ?_
  intro W base args ds ps hval hA hsz
  rw [Try.params10] at hA hval hsz
  obtain ⟨v0, d0, rfl, rfl, h0⟩ := trodAll_one hA
  obtain ⟨A, c, l, rfl, hrd, hc, hm, _⟩ := open_rdl (w := W) StepV.cells (fun _ => True) Try.underlying62 (fun fuel cs x h => read_step h) (hval 0 62 v0 rfl rfl) h0
  rw [cells64] at hrd
  exact clog_beginning A c l W hrd hc (by unfold maxLen at hm; exact hm)

theorem clogBeginning_holds : Rows.ClogBeginningSaid :=
  OpenClaim.holds_of_wide 10 Try.f10 rfl rfl rfl rfl rfl rfl rfl ⟨rfl, rfl, rfl, rfl, rfl⟩ rfl rfl rfl rfl rfl (by kernel_rfl) Try.func10 (by kernel_rfl)
    (of_decide_eq_true (by kernel_rfl)) (by unfold Func.isWrapper; first | (rw [if_pos (by decide +kernel)]; kernel_rfl) | (rw [if_neg (by decide +kernel)]; exact ⟨rfl, rfl⟩))
    (fun os started H enc _ => clogBeginning_lifted os started H enc)
#print axioms clogBeginning_holds
end Go.Proofs.Ytobdooojdadgpaa
