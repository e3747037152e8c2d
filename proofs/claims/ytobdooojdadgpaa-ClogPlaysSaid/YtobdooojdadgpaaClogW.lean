/- What every statement of clog asks at its end ('wakes'); the law ClogNone: a log that nobody made has no transactions. -/
import Derived.Test.YtobdooojdadgpaaClogF
import Derived.Test.YtobdooojdadgpaaFrame
namespace Go.Proofs.Ytobdooojdadgpaa
open Go.RowKit Go.ChangeShapes Go.WideShapes Go.ChangeAt
set_option linter.unusedVariables false

theorem ret_bool {P : World → Prop} {b c : Bool} {f : FuncId} {args : Array Value} {w : World} (h : Calls Try.prog f args w fun e w' => e = .returned (.bool b) ∧ P w') (e : b = c) :
    Calls Try.prog f args w fun e w' => e = .returned (.bool c) ∧ P w' := e ▸ h
theorem ret_int {P : World → Prop} {b c : Int} {f : FuncId} {args : Array Value} {w : World} (h : Calls Try.prog f args w fun e w' => e = .returned (.int .i64 b) ∧ P w') (e : b = c) :
    Calls Try.prog f args w fun e w' => e = .returned (.int .i64 c) ∧ P w' := e ▸ h

def W1 : LogS := LogS.new.begin' false
def W2 : LogS := W1.begin' true
def W3 : LogS := W2.commit 1

set_option maxRecDepth 100000 in
theorem clog_wakes (w : World) : Calls Try.prog 28 #[] w fun e w' => e = .returned (.bool true) ∧ Below w.heap.size w w' := by
  go_enter Try.func28, Try.ntmps28
  go_wp2_with fail
  refine (new_any _).mono ?_
  rintro e w1 ⟨rfl, l1, b1⟩
  have k1 : w.heap.size < w1.heap.size := l1.lt
  go_wp2_with fail
  refine (begin_yes w.heap.size false LogS.new w1 l1 (by decide)).mono ?_
  rintro e w2 ⟨rfl, l2, p2⟩
  have b2 := Kp.below b1 p2 b1.size (Nat.le_refl _)
  go_wp2_with fail
  refine (begin_yes w.heap.size true W1 w2 l2 (by decide)).mono ?_
  rintro e w3 ⟨rfl, l3, p3⟩
  have b3 := Kp.below b2 p3 b2.size (Nat.le_refl _)
  go_wp2_with fail
  refine (commit_yes w.heap.size 1 W2 w3 l3 (by decide) (by decide) (by decide) (by decide)).mono ?_
  rintro e w4 ⟨rfl, l4, p4⟩
  have b4 := Kp.below b3 p4 b3.size (Nat.le_refl _)
  go_wp2_with fail
  refine (ret_bool (c := false) (sees_any w.heap.size 2 1 W3 w4 l4 (by decide)) (by decide)).mono ?_
  rintro e w5 ⟨rfl, b5⟩
  have l5 := l4.below b5
  go_wp2_with fail
  refine (ret_bool (c := true) (beside_any w.heap.size 1 2 W3 w5 l5 (by decide)) (by decide)).mono ?_
  rintro e w6 ⟨rfl, b6⟩
  have l6 := l5.below b6
  go_wp2_with fail
  refine (ret_bool (c := true) (reads_any w.heap.size 2 W3 w6 l6 (by decide)) (by decide)).mono ?_
  rintro e w7 ⟨rfl, b7⟩
  have l7 := l6.below b7
  go_wp2_with fail
  refine (ret_int (c := 1) (clock_any w.heap.size W3 w7 l7) (by decide)).mono ?_
  rintro e w8 ⟨rfl, rfl⟩
  go_wp2_with fail
  refine (ret_int (c := 0) (horizon_any w.heap.size W3 w7 l7 (by decide)) (by decide)).mono ?_
  rintro e w9 ⟨rfl, b9⟩
  go_wp2_with fail
  go_ret
  exact ⟨rfl, below_trans (below_trans (below_trans (below_trans b4 b5) b6) b7) b9⟩
end Go.Proofs.Ytobdooojdadgpaa
