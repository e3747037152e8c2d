/- The law ModeSets: a mode bars one of two sets together just if it bars one of either. No condition. -/
import Derived.Test.YtobdooojdadgpaaModeW
import Derived.Test.YtobdooojdadgpaaFrame
namespace Go.Proofs.Ytobdooojdadgpaa
open Go.RowKit Go.ChangeShapes Go.WideShapes Go.ChangeAt

theorem or_nat (a b : Nat) (ha : a < 65536) (hb : b < 65536) : bits .or .i64 (a : Int) (b : Int) = ((a ||| b : Nat) : Int) := by
  have hx : a ||| b < 2 ^ 16 := Nat.or_lt_two_pow (by omega) (by omega)
  have h1 : ∀ c : Nat, c < 65536 → (BitVec.ofInt 64 (c : Int)).toNat = c := fun c hc => by
    rw [BitVec.ofInt_natCast, BitVec.toNat_ofNat]; exact Nat.mod_eq_of_lt (by omega)
  show IntKind.i64.wrap ((BitVec.ofInt 64 (a : Int) ||| BitVec.ofInt 64 (b : Int)).toNat : Int) = _
  rw [BitVec.toNat_or, h1 a ha, h1 b hb, IntKind.wrap_i64]
  omega

theorem withM_nat (k : Int) : ∃ c : Nat, withM k = c ∧ c < 512 := by
  unfold withM
  repeat' (first | exact ⟨_, rfl, by decide⟩ | split)

theorem any_or (a b k : Int) (a1 : 0 ≤ a) (a2 : a ≤ 65535) (b1 : 0 ≤ b) (b2 : b ≤ 65535) : anyM (bits .or .i64 a b) k = (anyM a k || anyM b k) := by
  obtain ⟨x, rfl⟩ := Int.eq_ofNat_of_zero_le a1
  obtain ⟨y, rfl⟩ := Int.eq_ofNat_of_zero_le b1
  obtain ⟨c, hc, hlt⟩ := withM_nat k
  unfold anyM
  rw [or_nat x y (by omega) (by omega), hc, and_small _ c hlt, and_small _ c hlt, and_small _ c hlt]
  have e : ∀ z : Nat, ((((z : Int) % 512).toNat &&& c : Nat) : Int) = ((z &&& c : Nat) : Int) := fun z => by
    have hz : ((z : Int) % 512).toNat = z % 512 := by omega
    have h1 : z &&& c < 2 ^ 9 := Nat.and_lt_two_pow _ (by omega)
    have h2 := Nat.and_mod_two_pow (a := z) (b := c) (n := 9)
    rw [Nat.mod_eq_of_lt h1, show (2:Nat) ^ 9 = 512 from rfl, Nat.mod_eq_of_lt hlt] at h2
    rw [hz, h2]
  rw [e, e, e, Nat.and_or_distrib_right, Bool.eq_iff_iff]
  simp only [bne_iff_ne, ne_eq, Bool.or_eq_true]
  have h3 : (((x &&& c ||| y &&& c : Nat) : Int) = 0) ↔ (x &&& c) = 0 ∧ (y &&& c) = 0 := by
    rw [show (((x &&& c ||| y &&& c : Nat) : Int) = 0) ↔ (x &&& c ||| y &&& c) = 0 by omega, Nat.or_eq_zero_iff]
  rw [h3]
  omega

theorem any_zero (k : Int) : anyM 0 k = false := by
  obtain ⟨c, hc, hlt⟩ := withM_nat k
  unfold anyM
  rw [hc, and_small 0 c hlt]
  simp

theorem mode_sets (a b m : Int) (w : World) (a1 : 0 ≤ a) (a2 : a ≤ 65535) (b1 : 0 ≤ b) (b2 : b ≤ 65535) (m1 : 0 ≤ m) (m2 : m ≤ 255) : Tells Try.prog 5 #[.int .u16 a, .int .u16 b, .int .u8 m] w := by
  have h1 := any_or a b (m % 10) a1 a2 b1 b2
  unfold Tells
  by_cases h2 : anyM a (m % 10) = true
  · rw [h2, Bool.true_or] at h1
    have H1 := Lib.hid h1
    have H2 := Lib.hid h2
    clear h1 h2
    go_enter Try.func5, Try.ntmps5
    go_wp2_with fail
    refine (returned_bool (any_any _ _ _) H1.out).mono ?_
    rintro e w1 ⟨rfl, h1⟩
    go_wp2_with fail
    refine (returned_bool (any_any _ _ _) H2.out).mono ?_
    rintro e w2 ⟨rfl, h2⟩
    go_wp2_with fail
    refine (returned_bool (any_any _ _ _) (any_zero _)).mono ?_
    rintro e w3 ⟨rfl, h3⟩
    go_wp2_with fail
    refine (mode_wakes _).mono ?_
    rintro e w12 ⟨rfl, h12⟩
    go_wp2_with fail
    go_ret
    exact ⟨rfl, below_trans (below_trans (below_trans h1 h2) h3) h12⟩
  · have h2 : anyM a (m % 10) = false := by simpa using h2
    rw [h2, Bool.false_or] at h1
    have H1 := Lib.hid h1
    have H2 := Lib.hid h2
    clear h1 h2
    go_enter Try.func5, Try.ntmps5
    go_wp2_with fail
    refine (returned_bool (any_any _ _ _) H1.out).mono ?_
    rintro e w1 ⟨rfl, h1⟩
    go_wp2_with fail
    refine (returned_bool (any_any _ _ _) H2.out).mono ?_
    rintro e w2 ⟨rfl, h2⟩
    go_wp2_with fail
    refine (any_any _ _ _).mono ?_
    rintro e w4 ⟨rfl, h4⟩
    go_wp2_with fail
    refine (returned_bool (any_any _ _ _) (any_zero _)).mono ?_
    rintro e w3 ⟨rfl, h3⟩
    go_wp2_with fail
    refine (mode_wakes _).mono ?_
    rintro e w12 ⟨rfl, h12⟩
    go_wp2_with fail
    go_ret
    exact ⟨rfl, below_trans (below_trans (below_trans (below_trans h1 h2) h4) h3) h12⟩

set_option maxRecDepth 100000 in
theorem modeSets_lifted (os : Os) (started : os.Started) (H : Type) (enc : TypeId × Value → H) :
    ReturnsInHanded {} Try.checked os 5 .any (Rows.modeSetsSpec.pre6 enc Try.prog Try.f5 [] false) (Rows.modeSetsSpec.post enc Try.prog Try.f5 false true false false) := by
  refine law_lifted (C := Try.checked) own started (by kernel_rfl) Try.func5
    (ChangeSpec.witness6 (enc := enc) (C := Try.checked) false ⟨#[], #[.int .u16 0, .int .u16 0, .int .u8 0], []⟩ 8 (by kernel_rfl) (by kernel_rfl) (by kernel_rfl) (by kernel_rfl))
    rfl (fun ds h => by match ds, h with | [_, _, _], _ => rfl) laid (by kernel_rfl) (tb := 4) rfl Try.underlying4 ?_
  intro W base args ds ps hval hA hsz
  rw [Try.params5] at hA hval hsz
  obtain ⟨v0, v1, v2, d0, d1, d2, p0, p1, p2, rfl, rfl, rfl, h0, h1, h2⟩ := trodAll_three hA
  obtain ⟨a, rfl, rfl, rfl, wa⟩ := open_int Try.underlying29 (hval 0 29 v0 rfl rfl) h0
  obtain ⟨b, rfl, rfl, rfl, wb⟩ := open_int Try.underlying29 (hval 1 29 v1 rfl rfl) h1
  obtain ⟨m, rfl, rfl, rfl, wm⟩ := open_int Try.underlying5 (hval 2 5 v2 rfl rfl) h2
  have ha := bounds_u16 wa
  have hb := bounds_u16 wb
  have hm := bounds_u8 wm
  exact mode_sets a b m W ha.1 ha.2 hb.1 hb.2 hm.1 hm.2

theorem modeSets_holds : Rows.ModeSetsSaid :=
  OpenClaim.holds_of_wide 5 Try.f5 rfl rfl rfl rfl rfl rfl rfl ⟨rfl, rfl, rfl, rfl, rfl⟩ rfl rfl rfl rfl rfl (by kernel_rfl) Try.func5 (by kernel_rfl)
    (of_decide_eq_true (by kernel_rfl)) (by unfold Func.isWrapper; first | (rw [if_pos (by decide +kernel)]; kernel_rfl) | (rw [if_neg (by decide +kernel)]; exact ⟨rfl, rfl⟩))
    (fun os started H enc _ => modeSets_lifted os started H enc)
#print axioms modeSets_holds
end Go.Proofs.Ytobdooojdadgpaa
