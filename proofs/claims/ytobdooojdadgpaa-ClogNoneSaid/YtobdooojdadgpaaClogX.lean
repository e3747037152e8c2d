/- The law ClogNone: a log that nobody made has no transactions. No condition. -/
import Derived.Test.YtobdooojdadgpaaClogW
import Derived.Lib.SmallJoins
namespace Go.Proofs.Ytobdooojdadgpaa
open Go.RowKit Go.ChangeShapes Go.WideShapes Go.ChangeAt Go.Joins
set_option linter.unusedVariables false

set_option maxRecDepth 100000 in
set_option maxHeartbeats 2000000 in
theorem clog_none (k x : Int) (r : Bool) (w : World) : Tells Try.prog 12 #[.agg #[.int .i64 k, .int .i64 x, .bool r]] w := by
  unfold Tells
  go_enter Try.func12, Try.ntmps12
  go_wp2_with fail
  with_reducible refine (begin_nil _ _).mono ?_
  rintro e w' ⟨rfl, rfl⟩
  go_wp2_with fail
  with_reducible refine (commit_nil _ _).mono ?_
  rintro e w' ⟨rfl, rfl⟩
  go_wp2_with fail
  with_reducible refine (abort_nil _ _).mono ?_
  rintro e w' ⟨rfl, rfl⟩
  go_wp2_with fail
  with_reducible refine (ret_int (c := 0) (state_nil _ _) rfl).mono ?_
  rintro e w1 ⟨rfl, b1⟩
  have d1 : Below w.heap.size w w1 := below_trans ((Below.refl _ _).alloc (Nat.le_refl _) _) b1
  have q1 : w1.cell? ⟨w.heap.size, 1, none⟩ = some (.int .i64 x) := (b1.cell (p := ⟨w.heap.size, 1, none⟩) (by simp)).trans (by simp)
  have z1 : w.heap.size < w1.heap.size := World.block_lt_of_cell? _ _ q1
  go_wp2_with fail
  with_reducible refine (ret_int (c := 0) (csn_nil _ _) rfl).mono ?_
  rintro e w2 ⟨rfl, b2⟩
  have d2 : Below w.heap.size w w2 := below_trans d1 b2
  have q2 : w2.cell? ⟨w.heap.size, 1, none⟩ = some (.int .i64 x) := (b2.cell (p := ⟨w.heap.size, 1, none⟩) z1).trans q1
  have z2 : w.heap.size < w2.heap.size := World.block_lt_of_cell? _ _ q2
  go_wp2_with fail
  with_reducible refine (ret_int (c := 0) (snapshot_nil _ _) rfl).mono ?_
  rintro e w3 ⟨rfl, b3⟩
  have d3 : Below w.heap.size w w3 := below_trans d2 b3
  have q3 : w3.cell? ⟨w.heap.size, 1, none⟩ = some (.int .i64 x) := (b3.cell (p := ⟨w.heap.size, 1, none⟩) z2).trans q2
  have z3 : w.heap.size < w3.heap.size := World.block_lt_of_cell? _ _ q3
  go_wp2_with fail
  with_reducible refine (ret_bool (c := false) (reads_nil _ _) rfl).mono ?_
  rintro e w4 ⟨rfl, b4⟩
  have d4 : Below w.heap.size w w4 := below_trans d3 b4
  have q4 : w4.cell? ⟨w.heap.size, 1, none⟩ = some (.int .i64 x) := (b4.cell (p := ⟨w.heap.size, 1, none⟩) z3).trans q3
  have z4 : w.heap.size < w4.heap.size := World.block_lt_of_cell? _ _ q4
  go_wp2_with fail
  with_reducible refine (sees_nil _ _ _).mono ?_
  rintro e w' ⟨rfl, rfl⟩
  go_wp2_with fail
  with_reducible refine (beside_nil _ _ _).mono ?_
  rintro e w' ⟨rfl, rfl⟩
  go_wp2_with fail
  with_reducible refine (running_nil _).mono ?_
  rintro e w5 ⟨A, c, rfl, hrd, b5⟩
  have d5 : Below w.heap.size w w5 := below_trans d4 b5
  have q5 : w5.cell? ⟨w.heap.size, 1, none⟩ = some (.int .i64 x) := (b5.cell (p := ⟨w.heap.size, 1, none⟩) z4).trans q4
  have z5 : w.heap.size < w5.heap.size := World.block_lt_of_cell? _ _ q5
  go_wp2_with fail
  with_reducible refine (horizon_nil _).mono ?_
  rintro e w6 ⟨rfl, b6⟩
  have d6 : Below w.heap.size w w6 := below_trans d5 b6
  have q6 : w6.cell? ⟨w.heap.size, 1, none⟩ = some (.int .i64 x) := (b6.cell (p := ⟨w.heap.size, 1, none⟩) z5).trans q5
  have z6 : w.heap.size < w6.heap.size := World.block_lt_of_cell? _ _ q6
  go_wp2_with fail
  with_reducible refine (clock_nil _).mono ?_
  rintro e w' ⟨rfl, rfl⟩
  go_wp2_with fail
  with_reducible refine (clog_wakes _).mono ?_
  rintro e w7 ⟨rfl, b7⟩
  have d7 : Below w.heap.size w w7 := below_trans d6 b7
  have q7 : w7.cell? ⟨w.heap.size, 1, none⟩ = some (.int .i64 x) := (b7.cell (p := ⟨w.heap.size, 1, none⟩) z6).trans q6
  have z7 : w.heap.size < w7.heap.size := World.block_lt_of_cell? _ _ q7
  go_wp2_with fail
  go_ret
  exact ⟨rfl, d7⟩

theorem cells64 : Try.prog.cellsOf 64 = 3 := by kernel_rfl

set_option maxRecDepth 100000 in
theorem clogNone_lifted (os : Os) (started : os.Started) (H : Type) (enc : TypeId × Value → H) :
    ReturnsInHanded {} Try.checked os 12 .any (Rows.clogNoneSpec.pre6 enc Try.prog Try.f12 [] false) (Rows.clogNoneSpec.post enc Try.prog Try.f12 false true false false) := by
  refine law_lifted (C := Try.checked) own started (by kernel_rfl) Try.func12
    (ChangeSpec.witness6 (enc := enc) (C := Try.checked) false ⟨#[], #[.agg #[.int .i64 0, .int .i64 0, .bool false]], []⟩ 8 (by kernel_rfl) (by kernel_rfl) (by kernel_rfl) (by kernel_rfl))
    rfl (fun ds h => by match ds, h with | [_], _ => rfl) laid (by kernel_rfl) (tb := 4) rfl Try.underlying4 ?_
  intro W base args ds ps hval hA hsz
  rw [Try.params12] at hA hval hsz
  obtain ⟨v0, d0, rfl, rfl, h0⟩ := trodAll_one hA
  obtain ⟨c0, c1, c2, y0, y1, y2, m, rfl, rfl, rfl, hy0, hy1, hy2⟩ := open_agg3 Try.underlying64 (by kernel_rfl) cells64 (hval 0 64 v0 rfl rfl) h0
  obtain ⟨k, e0, rfl, wk⟩ := DataW.trod_int Try.underlying3 hy0
  obtain ⟨x, e1, rfl, wx⟩ := DataW.trod_int Try.underlying3 hy1
  obtain ⟨r, e2, rfl⟩ := DataW.trod_bool Try.underlying4 hy2
  simp only [List.cons.injEq, and_true] at e0 e1 e2
  subst e0 e1 e2
  exact clog_none k x r W

theorem clogNone_holds : Rows.ClogNoneSaid :=
  OpenClaim.holds_of_wide 12 Try.f12 rfl rfl rfl rfl rfl rfl rfl ⟨rfl, rfl, rfl, rfl, rfl⟩ rfl rfl rfl rfl rfl (by kernel_rfl) Try.func12 (by kernel_rfl)
    (of_decide_eq_true (by kernel_rfl)) (by unfold Func.isWrapper; first | (rw [if_pos (by decide +kernel)]; kernel_rfl) | (rw [if_neg (by decide +kernel)]; exact ⟨rfl, rfl⟩))
    (fun os started H enc _ => clogNone_lifted os started H enc)
#print axioms clogNone_holds
end Go.Proofs.Ytobdooojdadgpaa
