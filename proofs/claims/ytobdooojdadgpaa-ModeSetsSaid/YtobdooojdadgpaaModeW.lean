/- What every statement of mode asks at its end ('wakes'). -/
import Derived.Test.YtobdooojdadgpaaModeD
namespace Go.Proofs.Ytobdooojdadgpaa
open Go.RowKit

theorem returned_bool {P : World → Prop} {b c : Bool} {f : FuncId} {args : Array Value} {w : World} (h : Calls Try.prog f args w fun e w' => e = .returned (.bool b) ∧ P w') (e : b = c) :
    Calls Try.prog f args w fun e w' => e = .returned (.bool c) ∧ P w' := e ▸ h
theorem returned_int {P : World → Prop} {b c : Int} {f : FuncId} {args : Array Value} {w : World} (h : Calls Try.prog f args w fun e w' => e = .returned (.int .i64 b) ∧ P w') (e : b = c) :
    Calls Try.prog f args w fun e w' => e = .returned (.int .i64 c) ∧ P w' := e ▸ h
theorem returned_string {P : World → Prop} {b c : ByteArray} {f : FuncId} {args : Array Value} {w : World} (h : Calls Try.prog f args w fun e w' => e = .returned (.string b) ∧ P w') (e : b = c) :
    Calls Try.prog f args w fun e w' => e = .returned (.string c) ∧ P w' := e ▸ h

theorem mode_wakes (w : World) : Calls Try.prog 24 #[] w fun e w' => e = .returned (.bool true) ∧ Below w.heap.size w w' := by
  go_enter Try.func24, Try.ntmps24
  go_wp2_with fail
  refine (returned_bool (c := true) (Bars_any 3 5 _) (by decide)).mono ?_
  rintro e w1 ⟨rfl, h1⟩
  go_wp2_with fail
  refine (returned_bool (c := false) (Bars_any 3 3 _) (by decide)).mono ?_
  rintro e w2 ⟨rfl, h2⟩
  go_wp2_with fail
  refine (returned_string (c := ⟨#[97, 99, 99, 101, 115, 115, 95, 101, 120, 99, 108, 117, 115, 105, 118, 101]⟩) (name_any 8 _) rfl).mono ?_
  rintro e w3 ⟨rfl, rfl⟩
  go_wp2_with fail
  refine (returned_int (c := 256) (with_any 1 _) (by decide)).mono ?_
  rintro e w4 ⟨rfl, h4⟩
  go_wp2_with fail
  refine (returned_int (c := 3) (of_any 4 _) (by decide)).mono ?_
  rintro e w5 ⟨rfl, rfl⟩
  go_wp2_with fail
  refine (returned_bool (c := true) (any_any 2 8 _) (by decide)).mono ?_
  rintro e w6 ⟨rfl, h6⟩
  go_wp2_with fail
  go_ret
  exact ⟨rfl, below_trans (below_trans (below_trans h1 h2) h4) h6⟩
end Go.Proofs.Ytobdooojdadgpaa
