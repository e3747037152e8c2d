/- The law ClogPlays: each answer of the log, and what it tells of all transactions, is the document's. No condition. -/
import Derived.Test.YtobdooojdadgpaaClogRl
import Derived.Test.YtobdooojdadgpaaClogBgL
import Derived.OpenShut
namespace Go.Proofs.Ytobdooojdadgpaa
open Go.RowKit Go.ChangeShapes Go.WideShapes Go.ChangeAt
set_option linter.unusedVariables false

theorem cells69 : Try.prog.cellsOf 69 = 2 := by kernel_rfl
theorem list2' {α : Type} {l : List α} (h : l.length = 2) : ∃ a b, l = [a, b] := by match l, h with | [a, b], _ => exact ⟨a, b, rfl⟩
set_option maxRecDepth 100000 in
theorem open_two {H : Type} {enc : TypeId × Value → H} {w : World} {base : Nat} {spare : Nat → Bool} {held : Bool} {v : Value} {d : DataW H} {ps : List MemPlace} {b : Nat}
    (hv : Value.okWide Try.prog w .any b 69 v) (h : DataW.Trod enc Try.prog w base spare held 69 v d ps) : ∃ n0 n1 : Int, v = .agg #[.int .i64 n0, .int .i64 n1] := by
  obtain ⟨cs, rfl, hsz, _⟩ : ∃ cs, v = .agg cs ∧ cs.size = Try.prog.cellsOf 69 ∧ Row.okWide Try.prog w .any b 69 cs := by
    have := hv
    simpa [Value.okWide, Try.underlying69] using this
  rw [cells69] at hsz
  obtain ⟨l⟩ := cs
  obtain ⟨c0, c1, rfl⟩ := list2' hsz
  obtain ⟨fuel, hf⟩ := h
  obtain ⟨xs, m, _, _, _, hl, hi⟩ := DataW.trod_array Try.underlying69 hf
  obtain ⟨x0, x1, rfl⟩ := list2' hl
  have h0 := hi 0 (by omega)
  have h1 := hi 1 (by omega)
  rw [cells3'] at h0 h1
  obtain ⟨n0, e0, _, _⟩ := DataW.trod_int (cs := [c0]) Try.underlying3 h0
  obtain ⟨n1, e1, _, _⟩ := DataW.trod_int (cs := [c1]) Try.underlying3 h1
  simp only [List.cons.injEq, and_true] at e0 e1
  subst e0 e1
  exact ⟨n0, n1, rfl⟩

set_option maxRecDepth 100000 in
theorem clogPlays_lifted (os : Os) (started : os.Started) (H : Type) (enc : TypeId × Value → H) :
    ReturnsInHanded {} Try.checked os 11 .any (Rows.clogPlaysSpec.pre6 enc Try.prog Try.f11 [] false) (Rows.clogPlaysSpec.post enc Try.prog Try.f11 false true false false) := by
  refine law_lifted (C := Try.checked) own started (by kernel_rfl) Try.func11
    (ChangeSpec.witness6 (enc := enc) (C := Try.checked) false ⟨#[], #[.slice none 0 0, .agg #[.int .i64 0, .int .i64 0]], []⟩ 8 (by kernel_rfl) (by kernel_rfl) (by kernel_rfl) (by kernel_rfl))
    rfl (fun ds h => by match ds, h with | [_, _], _ => rfl) laid (by kernel_rfl) (tb := 4) rfl Try.underlying4 ?_
  intro W base args ds ps hval hA hsz
  rw [Try.params11] at hA hval hsz
  obtain ⟨v0, v1, d0, d1, p0, p1, rfl, rfl, rfl, h0, h1⟩ := trodAll_two hA
  obtain ⟨A, c, l, rfl, hrd, hc, hm, _⟩ := open_rdl (w := W) StepV.cells (fun _ => True) Try.underlying62 (fun fuel cs x h => read_step h) (hval 0 62 v0 rfl rfl) h0
  rw [cells64] at hrd
  obtain ⟨n0, n1, rfl⟩ := open_two (hval 1 69 v1 rfl rfl) h1
  exact clog_plays A c l n0 n1 W hrd hc (by unfold maxLen at hm; exact hm)

theorem clogPlays_holds : Rows.ClogPlaysSaid :=
  OpenClaim.holds_of_wide 11 Try.f11 rfl rfl rfl rfl rfl rfl rfl ⟨rfl, rfl, rfl, rfl, rfl⟩ rfl rfl rfl rfl rfl (by kernel_rfl) Try.func11 (by kernel_rfl)
    (of_decide_eq_true (by kernel_rfl)) (by unfold Func.isWrapper; first | (rw [if_pos (by decide +kernel)]; kernel_rfl) | (rw [if_neg (by decide +kernel)]; exact ⟨rfl, rfl⟩))
    (fun os started H enc _ => clogPlays_lifted os started H enc)
#print axioms clogPlays_holds
end Go.Proofs.Ytobdooojdadgpaa
