/- What every law of layer 20 ends with; the law PlanCosts: what any way costs. No condition. -/
import Derived.Test.YtobdooojdadgpaaPlanK
namespace Go.Proofs.Ytobdooojdadgpaa
open Go.RowKit Go.ChangeShapes Go.WideShapes Go.ChangeAt
set_option linter.unusedVariables false
def wcol : List Col := [⟨⟨#[97]⟩, 2, false, ⟨0, 0, 0, ⟨#[]⟩⟩⟩]
def widx : List Idx := [⟨⟨#[106]⟩, ⟨#[97]⟩, false, 3⟩, ⟨⟨#[105]⟩, ⟨#[97]⟩, false, 2⟩]
def wstm : Stm := ⟨8, ⟨#[116]⟩, ⟨#[]⟩, ⟨#[97]⟩, ⟨#[]⟩, ⟨0, 0, 0, ⟨#[]⟩⟩, ⟨0, 0, 0, ⟨#[]⟩⟩, none, 0, 0, none, 0, 0, false⟩
theorem w_e : ofE wstm wcol = 0 := by decide +kernel
theorem w_w : ofW wstm wcol widx = 3 := by decide +kernel
theorem w_i : ofI wstm wcol widx = ⟨#[106]⟩ := by decide +kernel
theorem w_c : costV 3 = 2 := by decide +kernel
theorem RdC.new1 (w : World) : RdC (w.alloc (.cells (wcol.flatMap Col.cells).toArray 94)) (some ⟨w.heap.size, 0, none⟩) wcol := RdL.new Col.cells_len w 94 wcol
theorem RdI.new1 (w : World) : RdI (w.alloc (.cells (widx.flatMap Idx.cells).toArray 60)) (some ⟨w.heap.size, 0, none⟩) widx := RdL.new Idx.cells_len w 60 widx
set_option maxRecDepth 100000 in
set_option maxHeartbeats 2000000 in
theorem plan_wakes (w : World) : Calls Try.prog 30 #[] w fun e w' => e = .returned (.bool true) ∧ Below w.heap.size w w' := by
  have hst := run_sf
  have HC := Lib.hid (RdC.new1 w)
  have HI := Lib.hid RdI.new1
  have b0 : Below w.heap.size w (w.alloc (.cells (wcol.flatMap Col.cells).toArray 94)) := (Below.refl _ _).alloc (Nat.le_refl _) _
  have b1 := b0.alloc b0.size (.cells wstm.a 45)
  have b2 := b1.alloc b1.size (.cells (widx.flatMap Idx.cells).toArray 60)
  have HB := Lib.hid b2
  have s2 : ((w.alloc (.cells (wcol.flatMap Col.cells).toArray 94)).alloc (.cells wstm.a 45)).heap.size = w.heap.size + 1 + 1 := by simp
  have hi := RdI.new1 ((w.alloc (.cells (wcol.flatMap Col.cells).toArray 94)).alloc (.cells wstm.a 45))
  rw [s2] at hi
  have hc := ((RdC.new1 w).keep ((Below.refl _ _).alloc (Nat.le_refl _) (.cells wstm.a 45)) (Nat.le_refl _)).keep ((Below.refl _ _).alloc (Nat.le_refl _) (.cells (widx.flatMap Idx.cells).toArray 60)) (Nat.le_refl _)
  have hof := of_any wstm (some ⟨w.heap.size, 0, none⟩) 1 wcol (some ⟨w.heap.size + 1 + 1, 0, none⟩) 2 widx _ hc hi (by simp) (by decide) (by decide)
  rw [w_e, w_w, w_i] at hof
  have HOF := Lib.hid hof
  clear b0 b1 b2 s2 hi hc hof
  go_enter Try.func30, Try.ntmps30
  go_wp2_with fail
  refine HOF.out.mono ?_
  rintro e w1 ⟨rfl, b1⟩
  have b2 := HB.out.trans (b1.mono HB.out.size)
  have hcost := cost_any 3 ⟨#[106]⟩
  rw [w_c] at hcost
  have b3 := b2.alloc b2.size (.cells #[.int .i64 3, .string ⟨#[106]⟩] 49)
  clear b1 b2 HOF HB
  go_wp2_with fail
  refine (hcost _).mono ?_
  rintro e w2 ⟨rfl, b4⟩
  have b5 := b3.trans (b4.mono b3.size)
  clear b3 b4
  go_wp2_with fail
  go_ret
  exact ⟨rfl, b5⟩
theorem costs_long (k : Int) (i : ByteArray) (w : World) (h : 1000 < i.size) : Tells Try.prog 9 #[.int .i64 k, .string i] w := by
  unfold Tells
  have t1 : decide ((1000 : Int) < (i.size : Int)) = true := by rw [decide_eq_true]; omega
  go_enter Try.func9, Try.ntmps9
  go_wp2_with fail
  refine (plan_wakes _).mono ?_
  rintro e w2 ⟨rfl, b2⟩
  go_wp2_with fail
  go_ret
  exact ⟨rfl, b2⟩
theorem costs_main (k : Int) (i : ByteArray) (w : World) (h : ¬ 1000 < i.size) : Tells Try.prog 9 #[.int .i64 k, .string i] w := by
  unfold Tells
  have t1 : decide ((1000 : Int) < (i.size : Int)) = false := by rw [decide_eq_false]; omega
  have h1 := cost_any k i
  have h2 := rcost_any k i
  have hself : (costV k == costV k) = true := beq_self_eq_true _
  generalize costV k = c at *
  go_enter Try.func9, Try.ntmps9
  go_wp2_with fail
  refine (h1 _).mono ?_
  rintro e w1 ⟨rfl, b1⟩
  go_wp2_with fail
  refine (h2 _).mono ?_
  rintro e w2 ⟨rfl, b2⟩
  have b3 := below_trans b1 b2
  clear b1 b2
  go_wp2_with fail
  refine (plan_wakes _).mono ?_
  rintro e w3 ⟨rfl, b4⟩
  go_wp2_with fail
  go_ret
  exact ⟨rfl, below_trans b3 b4⟩

set_option maxRecDepth 100000 in
theorem planCosts_lifted (os : Os) (started : os.Started) (H : Type) (enc : TypeId × Value → H) :
    ReturnsInHanded {} Try.checked os 9 .any (Rows.planCostsSpec.pre6 enc Try.prog Try.f9 [] false) (Rows.planCostsSpec.post enc Try.prog Try.f9 false true false false) := by
  refine law_lifted (C := Try.checked) own started (by kernel_rfl) Try.func9
    (ChangeSpec.witness6 (enc := enc) (C := Try.checked) false ⟨#[], #[.int .i64 0, .string ⟨#[]⟩], []⟩ 8 (by kernel_rfl) (by kernel_rfl) (by kernel_rfl) (by kernel_rfl))
    rfl (fun ds h => by match ds, h with | [_, _], _ => rfl) laid (by kernel_rfl) (tb := 4) rfl Try.underlying4 ?_
  intro W base args ds ps hval hA hsz
  rw [Try.params9] at hA hval hsz
  obtain ⟨v0, v1, d0, d1, q0, q1, rfl, rfl, rfl, h0, h1⟩ := trodAll_two hA
  obtain ⟨k, rfl⟩ := okWide_int Try.underlying3 (hval 0 3 v0 rfl rfl)
  obtain ⟨i, rfl⟩ := okWide_string Try.underlying9 (hval 1 9 v1 rfl rfl)
  by_cases h : 1000 < i.size
  · exact costs_long k i W h
  exact costs_main k i W h

theorem planCosts_holds : Rows.PlanCostsSaid :=
  OpenClaim.holds_of_wide 9 Try.f9 rfl rfl rfl rfl rfl rfl rfl ⟨rfl, rfl, rfl, rfl, rfl⟩ rfl rfl rfl rfl rfl (by kernel_rfl) Try.func9 (by kernel_rfl)
    (of_decide_eq_true (by kernel_rfl)) (by unfold Func.isWrapper; first | (rw [if_pos (by decide +kernel)]; kernel_rfl) | (rw [if_neg (by decide +kernel)]; exact ⟨rfl, rfl⟩))
    (fun os started H enc _ => planCosts_lifted os started H enc)
#print axioms planCosts_holds
end Go.Proofs.Ytobdooojdadgpaa
