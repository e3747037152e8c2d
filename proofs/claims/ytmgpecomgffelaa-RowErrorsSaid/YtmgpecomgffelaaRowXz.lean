/- The law RowErrors: the first column that does not take its value decides; a value of another kind, none where there must be one, or one too many. No condition. -/
import Derived.Test.YtmgpecomgffelaaRowX
namespace Go.Proofs.Ytmgpecomgffelaa
open Go.RowKit Go.ChangeShapes Go.WideShapes Go.ChangeAt
set_option linter.unusedVariables false
set_option maxRecDepth 100000 in
theorem open_val {H : Type} {enc : TypeId × Value → H} {w : World} {base : Nat} {v : Value} {d : DataW H} {ps : List MemPlace} (hval : Value.okWide Try.prog w .any base 24 v) (h : DataW.Trod enc Try.prog w 0 (fun _ => true) true 24 v d ps) :
    ∃ x : Val, v = vv x.kind x.n x.f x.s ∧ x.wf := by
  obtain ⟨cs, rfl, _⟩ := okWide_struct Try.underlying24 hval
  obtain ⟨fuel, hf⟩ := h
  obtain ⟨x, hx, hw⟩ := read_val hf
  refine ⟨x, ?_, hw⟩
  have : cs.toList = x.cells := hx
  rw [← Array.toArray_toList (xs := cs), this]
  rfl

set_option maxRecDepth 100000 in
theorem rowErrors_lifted (os : Os) (started : os.Started) (H : Type) (enc : TypeId × Value → H) :
    ReturnsInHanded {} Try.checked os 11 .any (Rows.rowErrorsSpec.pre6 enc Try.prog Try.f11 [] false) (Rows.rowErrorsSpec.post enc Try.prog Try.f11 false true false false) := by
  refine law_lifted (C := Try.checked) own started (by kernel_rfl) Try.func11
    (ChangeSpec.witness6 (enc := enc) (C := Try.checked) false ⟨#[], #[.slice none 0 0, .int .i64 0, .agg #[.int .i64 0, .int .i64 0, .float .f64 0, .string ⟨#[]⟩]], []⟩ 8 (by kernel_rfl) (by kernel_rfl) (by kernel_rfl) (by kernel_rfl))
    rfl (fun ds h => by match ds, h with | [_, _, _], _ => rfl) laid (by kernel_rfl) (tb := 4) rfl Try.underlying4 ?_
  intro W base args ds ps hval hA hsz
  rw [Try.params11] at hA hval hsz
  obtain ⟨v0, v1, v2, d0, d1, d2, q0, q1, q2, rfl, rfl, rfl, h0, h1, h2⟩ := trodAll_three hA
  obtain ⟨A, c, l, rfl, hr, hlc, hw, hn⟩ := open_cols (hval 0 49 v0 rfl rfl) h0
  obtain ⟨at', rfl⟩ := okWide_int Try.underlying3 (hval 1 3 v1 rfl rfl)
  obtain ⟨v, rfl, hv⟩ := open_val (hval 2 24 v2 rfl rfl) h2
  cases hL : goodC l with
  | false => exact errors_1 A c l at' v W hr hL
  | true =>
  cases hX : goodV v.kind v.n v.f v.s with
  | false => exact errors_2 A c l at' v W hr hL hX
  | true =>
  have hk0 := (modV_lt at' l.length (goodC_len hL).1).1
  by_cases hk : v.kind = 0
  · cases hnn : (l[modV at' l.length]'hk0).nn with
    | true => exact errors_A A c l at' v W hr hL hX _ rfl hk0 hk hnn
    | false => exact errors_B A c l at' v W hr hL hX _ rfl hk0 hk hnn
  by_cases hke : v.kind = (l[modV at' l.length]'hk0).kind
  · exact errors_C A c l at' v W hr hL hX _ rfl hk0 hk hke
  exact errors_D A c l at' v W hr hL hX _ rfl hk0 hk hke

theorem rowErrors_holds : Rows.RowErrorsSaid :=
  OpenClaim.holds_of_wide 11 Try.f11 rfl rfl rfl rfl rfl rfl rfl ⟨rfl, rfl, rfl, rfl, rfl⟩ rfl rfl rfl rfl rfl (by kernel_rfl) Try.func11 (by kernel_rfl)
    (of_decide_eq_true (by kernel_rfl)) (by unfold Func.isWrapper; first | (rw [if_pos (by decide +kernel)]; kernel_rfl) | (rw [if_neg (by decide +kernel)]; exact ⟨rfl, rfl⟩))
    (fun os started H enc _ => rowErrors_lifted os started H enc)
#print axioms rowErrors_holds
end Go.Proofs.Ytmgpecomgffelaa
