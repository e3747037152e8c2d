/- The law ModeTells: for every a, b and set the package tells what its reference tells. No condition. -/
import Derived.Test.YtobdooojdadgpaaModeW
import Derived.Test.YtobdooojdadgpaaFrame
namespace Go.Proofs.Ytobdooojdadgpaa
open Go.RowKit Go.ChangeShapes Go.WideShapes Go.ChangeAt

theorem mode_tells (a b s : Int) (w : World) : Tells Try.prog 3 #[.int .i64 a, .int .i64 b, .int .i64 s] w := by
  unfold Tells
  go_enter Try.func3, Try.ntmps3
  go_wp2_with fail
  refine (Bars_any a b _).mono ?_
  rintro e w1 ⟨rfl, h1⟩
  go_wp2_with fail
  refine (rBars_any a b _).mono ?_
  rintro e w2 ⟨rfl, h2⟩
  go_wp2_with fail
  refine (with_any a _).mono ?_
  rintro e w3 ⟨rfl, h3⟩
  go_wp2_with fail
  refine (rWith_any' a _).mono ?_
  rintro e w4 ⟨rfl, h4⟩
  go_wp2_with fail
  refine (any_any s a _).mono ?_
  rintro e w5 ⟨rfl, h5⟩
  go_wp2_with fail
  refine (rAny_any' s a _).mono ?_
  rintro e w6 ⟨rfl, h6⟩
  go_wp2_with fail
  refine (name_any a _).mono ?_
  rintro e w7 ⟨rfl, rfl⟩
  go_wp2_with fail
  refine (rName_any a _).mono ?_
  rintro e w8 ⟨rfl, h8⟩
  go_wp2_with fail
  refine (of_any a _).mono ?_
  rintro e w9 ⟨rfl, rfl⟩
  go_wp2_with fail
  refine (rOf_any a _).mono ?_
  rintro e w10 ⟨rfl, rfl⟩
  go_wp2_with fail
  refine (mode_wakes _).mono ?_
  rintro e w11 ⟨rfl, h11⟩
  go_wp2_with fail
  go_ret
  exact ⟨rfl, below_trans (below_trans (below_trans (below_trans (below_trans (below_trans (below_trans h1 h2) h3) h4) h5) h6) h8) h11⟩
set_option maxRecDepth 100000 in
theorem modeTells_lifted (os : Os) (started : os.Started) (H : Type) (enc : TypeId × Value → H) :
    ReturnsInHanded {} Try.checked os 3 .any (Rows.modeTellsSpec.pre6 enc Try.prog Try.f3 [] false) (Rows.modeTellsSpec.post enc Try.prog Try.f3 false true false false) := by
  refine law_lifted (C := Try.checked) own started (by kernel_rfl) Try.func3
    (ChangeSpec.witness6 (enc := enc) (C := Try.checked) false ⟨#[], #[.int .i64 0, .int .i64 0, .int .i64 0], []⟩ 8 (by kernel_rfl) (by kernel_rfl) (by kernel_rfl) (by kernel_rfl))
    rfl (fun ds h => by match ds, h with | [_, _, _], _ => rfl) laid (by kernel_rfl) (tb := 4) rfl Try.underlying4 ?_
  intro W base args ds ps hval hA _
  rw [Try.params3] at hA hval
  obtain ⟨v0, v1, v2, d0, d1, d2, p0, p1, p2, rfl, rfl, rfl, h0, h1, h2⟩ := trodAll_three hA
  obtain ⟨a, rfl, rfl, rfl, wa⟩ := open_int Try.underlying3 (hval 0 3 v0 rfl rfl) h0
  obtain ⟨b, rfl, rfl, rfl, wb⟩ := open_int Try.underlying3 (hval 1 3 v1 rfl rfl) h1
  obtain ⟨s, rfl, rfl, rfl, ws⟩ := open_int Try.underlying3 (hval 2 3 v2 rfl rfl) h2
  exact mode_tells a b s W

theorem modeTells_holds : Rows.ModeTellsSaid :=
  OpenClaim.holds_of_wide 3 Try.f3 rfl rfl rfl rfl rfl rfl rfl ⟨rfl, rfl, rfl, rfl, rfl⟩ rfl rfl rfl rfl rfl (by kernel_rfl) Try.func3 (by kernel_rfl)
    (of_decide_eq_true (by kernel_rfl)) (by unfold Func.isWrapper; first | (rw [if_pos (by decide +kernel)]; kernel_rfl) | (rw [if_neg (by decide +kernel)]; exact ⟨rfl, rfl⟩))
    (fun os started H enc _ => modeTells_lifted os started H enc)
#print axioms modeTells_holds
end Go.Proofs.Ytobdooojdadgpaa
