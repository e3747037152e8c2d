/- The law ModeBoth: modes bar both ways alike. No condition. -/
import Derived.Test.YtobdooojdadgpaaModeW
import Derived.Test.YtobdooojdadgpaaFrame
namespace Go.Proofs.Ytobdooojdadgpaa
open Go.RowKit Go.ChangeShapes Go.WideShapes Go.ChangeAt

def ps : List Int := [1, 2, 3, 4, 5, 6, 7, 8]
theorem both1 : ∀ x ∈ ps, ∀ y ∈ ps, decide (x ∈ lst y) = decide (y ∈ lst x) := by decide +kernel
theorem both2 : ∀ x ∈ ps, decide (x ∈ lst 8) = true := by decide +kernel
theorem both3 : ∀ x ∈ ps, decide (x ∈ lst 1) = (x == 8) := by decide +kernel
theorem both4 : ∀ x ∈ ps, ∀ y ∈ ps, decide (y ∈ lst x) = (bits BinOp.and IntKind.i64 (withM x / 2 ^ y.toNat) 1 == 1) := by decide +kernel
theorem both5 : ∀ x ∈ ps, anyM (withM x) x = true := by decide +kernel

theorem mode_both (a b : Int) (w : World) (a1 : 0 ≤ a) (a2 : a ≤ 255) (b1 : 0 ≤ b) (b2 : b ≤ 255) : Tells Try.prog 4 #[.int .u8 a, .int .u8 b] w := by
  have hx : 1 + a % 8 ∈ ps := by simp [ps]; omega
  have hy : 1 + b % 8 ∈ ps := by simp [ps]; omega
  have Hx := Lib.hid hx
  have Hy := Lib.hid hy
  clear hx hy
  unfold Tells
  by_cases h1 : a % 8 = 0
  all_goals
    first | have h2 : (1 + a % 8 != 1) = false := by simp; omega | have h2 : (1 + a % 8 != 1) = true := by simp; omega
    clear h1
    go_enter Try.func4, Try.ntmps4
    go_wp2_with fail
    refine (returned_bool (Bars_any (1 + a % 8) (1 + b % 8) _) (both1 _ Hy.out _ Hx.out)).mono ?_
    rintro e w1 ⟨rfl, h1⟩
    go_wp2_with fail
    refine (Bars_any _ _ _).mono ?_
    rintro e w2 ⟨rfl, h2⟩
    go_wp2_with fail
    refine (returned_bool (Bars_any _ _ _) (both2 _ Hx.out)).mono ?_
    rintro e w3 ⟨rfl, h3⟩
    go_wp2_with fail
    refine (returned_bool (Bars_any _ _ _) (both3 _ Hx.out)).mono ?_
    rintro e w4 ⟨rfl, h4⟩
    go_wp2_with fail
    refine (returned_bool (Bars_any _ _ _) (both4 _ Hx.out _ Hy.out)).mono ?_
    rintro e w5 ⟨rfl, h5⟩
    go_wp2_with fail
    refine (with_any _ _).mono ?_
    rintro e w6 ⟨rfl, h6⟩
    go_wp2_with fail
    refine (Bars_any _ _ _).mono ?_
    rintro e w7 ⟨rfl, h7⟩
    go_wp2_with fail
    refine (returned_bool (any_any _ _ _) (shl_any (1 + b % 8) (1 + a % 8) (by omega) (by omega))).mono ?_
    rintro e w8 ⟨rfl, h8⟩
    go_wp2_with fail
    refine (with_any _ _).mono ?_
    rintro e w9 ⟨rfl, h9⟩
    go_wp2_with fail
    refine (returned_bool (any_any _ _ _) (both5 _ Hx.out)).mono ?_
    rintro e w10 ⟨rfl, h10⟩
    go_wp2_with fail
    have hb := below_trans (below_trans (below_trans (below_trans (below_trans (below_trans (below_trans (below_trans (below_trans h1 h2) h3) h4) h5) h6) h7) h8) h9) h10
    first
      | (refine (mode_wakes _).mono ?_
         rintro e w12 ⟨rfl, h12⟩
         go_wp2_with fail
         go_ret
         exact ⟨rfl, below_trans hb h12⟩)
      | (refine (returned_bool (Bars_any _ _ _) (show decide (8 ∈ lst 1) = true by decide)).mono ?_
         rintro e w11 ⟨rfl, h11⟩
         go_wp2_with fail
         refine (mode_wakes _).mono ?_
         rintro e w12 ⟨rfl, h12⟩
         go_wp2_with fail
         go_ret
         exact ⟨rfl, below_trans (below_trans hb h11) h12⟩)

set_option maxRecDepth 100000 in
theorem modeBoth_lifted (os : Os) (started : os.Started) (H : Type) (enc : TypeId × Value → H) :
    ReturnsInHanded {} Try.checked os 4 .any (Rows.modeBothSpec.pre6 enc Try.prog Try.f4 [] false) (Rows.modeBothSpec.post enc Try.prog Try.f4 false true false false) := by
  refine law_lifted (C := Try.checked) own started (by kernel_rfl) Try.func4
    (ChangeSpec.witness6 (enc := enc) (C := Try.checked) false ⟨#[], #[.int .u8 0, .int .u8 0], []⟩ 8 (by kernel_rfl) (by kernel_rfl) (by kernel_rfl) (by kernel_rfl))
    rfl (fun ds h => by match ds, h with | [_, _], _ => rfl) laid (by kernel_rfl) (tb := 4) rfl Try.underlying4 ?_
  intro W base args ds ps hval hA hsz
  rw [Try.params4] at hA hval hsz
  obtain ⟨v0, v1, d0, d1, p0, p1, rfl, rfl, rfl, h0, h1⟩ := trodAll_two hA
  obtain ⟨a, rfl, rfl, rfl, wa⟩ := open_int Try.underlying5 (hval 0 5 v0 rfl rfl) h0
  obtain ⟨b, rfl, rfl, rfl, wb⟩ := open_int Try.underlying5 (hval 1 5 v1 rfl rfl) h1
  have ha := bounds_u8 wa
  have hb := bounds_u8 wb
  exact mode_both a b W ha.1 ha.2 hb.1 hb.2

theorem modeBoth_holds : Rows.ModeBothSaid :=
  OpenClaim.holds_of_wide 4 Try.f4 rfl rfl rfl rfl rfl rfl rfl ⟨rfl, rfl, rfl, rfl, rfl⟩ rfl rfl rfl rfl rfl (by kernel_rfl) Try.func4 (by kernel_rfl)
    (of_decide_eq_true (by kernel_rfl)) (by unfold Func.isWrapper; first | (rw [if_pos (by decide +kernel)]; kernel_rfl) | (rw [if_neg (by decide +kernel)]; exact ⟨rfl, rfl⟩))
    (fun os started H enc _ => modeBoth_lifted os started H enc)
#print axioms modeBoth_holds
end Go.Proofs.Ytobdooojdadgpaa
