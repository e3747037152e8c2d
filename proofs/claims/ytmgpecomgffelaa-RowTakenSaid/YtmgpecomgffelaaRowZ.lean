/- The law RowTaken: a row that was filled is taken by all columns; padded by columns that were added, by those, too; filled again it is the same. No condition. -/
import Derived.Test.YtmgpecomgffelaaRowY
namespace Go.Proofs.Ytmgpecomgffelaa
open Go.RowKit Go.ChangeShapes Go.WideShapes Go.ChangeAt
set_option linter.unusedVariables false

set_option maxRecDepth 100000 in
theorem rowTaken_lifted (os : Os) (started : os.Started) (H : Type) (enc : TypeId × Value → H) :
    ReturnsInHanded {} Try.checked os 17 .any (Rows.rowTakenSpec.pre6 enc Try.prog Try.f17 [] false) (Rows.rowTakenSpec.post enc Try.prog Try.f17 false true false false) := by
  refine law_lifted (C := Try.checked) own started (by kernel_rfl) Try.func17
    (ChangeSpec.witness6 (enc := enc) (C := Try.checked) false ⟨#[], #[.slice none 0 0, .slice none 0 0, .slice none 0 0], []⟩ 8 (by kernel_rfl) (by kernel_rfl) (by kernel_rfl) (by kernel_rfl))
    rfl (fun ds h => by match ds, h with | [_, _, _], _ => rfl) laid (by kernel_rfl) (tb := 4) rfl Try.underlying4 ?_
  intro W base args ds ps hval hA hsz
  rw [Try.params17] at hA hval hsz
  obtain ⟨v0, v1, v2, d0, d1, d2, q0, q1, q2, rfl, rfl, rfl, h0, h1, h2⟩ := trodAll_three hA
  obtain ⟨A, c, l, rfl, hr, hlc, hw, hn⟩ := open_cols (hval 0 49 v0 rfl rfl) h0
  obtain ⟨B, d, r, rfl, hr2, hlc2, hw2, hn2⟩ := open_row (hval 1 39 v1 rfl rfl) h1
  obtain ⟨C, m, o, rfl, hr3, hlc3, hw3, hn3⟩ := open_cols (hval 2 49 v2 rfl rfl) h2
  cases hL : largeC l with
  | true => exact taken_1 A B C c d m l r o W hr hr2 hr3 hn hn2 hL
  | false =>
  cases hR : largeR r with
  | true => exact taken_2 A B C c d m l r o W hr hr2 hr3 hn hn2 hL hR
  | false =>
  cases hO : largeC o with
  | true => exact taken_3 A B C c d m l r o W hr hr2 hr3 hn hn2 hL hR hO
  | false =>
  cases hG : goodC l with
  | false => exact taken_4 A B C c d m l r o W hr hr2 hr3 hn hn2 hL hR hO hG
  | true =>
  by_cases hE : fillE l r = 0
  · exact taken_main A B C c d m l r o W hr hr2 hr3 hn hn2 hL hR hO hG hE
  exact taken_5 A B C c d m l r o W hr hr2 hr3 hn hn2 hL hR hO hG hE

theorem rowTaken_holds : Rows.RowTakenSaid :=
  OpenClaim.holds_of_wide 17 Try.f17 rfl rfl rfl rfl rfl rfl rfl ⟨rfl, rfl, rfl, rfl, rfl⟩ rfl rfl rfl rfl rfl (by kernel_rfl) Try.func17 (by kernel_rfl)
    (of_decide_eq_true (by kernel_rfl)) (by unfold Func.isWrapper; first | (rw [if_pos (by decide +kernel)]; kernel_rfl) | (rw [if_neg (by decide +kernel)]; exact ⟨rfl, rfl⟩))
    (fun os started H enc _ => rowTaken_lifted os started H enc)
#print axioms rowTaken_holds
end Go.Proofs.Ytmgpecomgffelaa
