/- The law ClogMost: there are just 200 transactions. No condition. -/
import Derived.Test.YtobdooojdadgpaaClogW
namespace Go.Proofs.Ytobdooojdadgpaa
open Go.RowKit Go.ChangeShapes Go.WideShapes Go.ChangeAt
set_option linter.unusedVariables false

def bgn (r : Bool) (k : Nat) : LogS := ⟨List.replicate k ⟨1, 0, 0, r⟩, 0⟩
theorem bgn_len (r : Bool) (k : Nat) : (bgn r k).l.length = k := by simp [bgn]
theorem bgn_succ (r : Bool) (k : Nat) : (bgn r k).begin' r = bgn r (k + 1) := by
  unfold bgn LogS.begin'
  simp only [LogS.mk.injEq, and_true]
  rw [List.replicate_succ']
theorem bgn_tx (r : Bool) (n x : Nat) (h1 : x < n) : (bgn r n).tx (x + 1) = ⟨1, 0, 0, r⟩ := by
  unfold LogS.tx bgn
  rw [if_neg (by omega)]
  simp [List.getD_eq_getElem?_getD, h1]
theorem bgn_run (r : Bool) (n k : Nat) (h : k ≤ n) : ((bgn r n).runL k).length = k := by
  induction k with
  | zero => rfl
  | succ k ih =>
    unfold LogS.runL
    rw [bgn_tx r n k (by omega), List.length_append, ih (by omega)]
    rfl

theorem new_bgn (r : Bool) : LogS.new = bgn r 0 := rfl

theorem ret_tuple {P : World → Prop} {a b c d : Int} {f : FuncId} {args : Array Value} {w : World} (h : Calls Try.prog f args w fun e w' => e = .returned (.tuple #[.int .i64 a, .int .i64 b]) ∧ P w') (e1 : a = c) (e2 : b = d) :
    Calls Try.prog f args w fun e w' => e = .returned (.tuple #[.int .i64 c, .int .i64 d]) ∧ P w' := by subst e1; subst e2; exact h

theorem begin_bgn (g : Nat) (r : Bool) (k : Nat) (w : World) (h : LogAt w g (bgn r k)) (hk : k < 200) :
    Calls Try.prog 26 #[ptr g, .bool r] w fun e w' => e = .returned (.tuple #[.int .i64 ((k : Int) + 1), .int .i64 0]) ∧ LogAt w' g (bgn r (k + 1)) ∧ Kp g w w' := by
  have := begin_yes g r (bgn r k) w h (by rw [bgn_len]; exact hk)
  rw [bgn_len, bgn_succ] at this
  exact this

set_option maxRecDepth 100000 in
set_option maxHeartbeats 2000000 in
theorem clog_most (r : Bool) (w : World) : Tells Try.prog 6 #[.bool r] w := by
  unfold Tells
  go_enter Try.func6, Try.ntmps6
  go_wp2_with fail
  refine (new_any _).mono ?_
  rintro e w1 ⟨rfl, l1, b1⟩
  have z1 : w.heap.size < w1.heap.size := l1.lt
  have L1 := l1
  rw [new_bgn r] at L1
  clear l1
  go_wp2_with fail
  go_loopw [4] (fun i wr => ∃ k : Nat, k ≤ 200 ∧ i = .int .i64 (k + 1) ∧ LogAt wr w.heap.size (bgn r k) ∧ Below w.heap.size w wr) (fun i _ => (201 - intOf i).toNat)
  case atStart => exact ⟨0, by omega, rfl, L1, b1⟩
  case round =>
    obtain ⟨k, hk, rfl, hl, hb⟩ := hrel
    by_cases hlt : k < 200
    · go_wp2_with fail
      refine (begin_bgn w.heap.size r k wr hl hlt).mono ?_
      rintro e w2 ⟨rfl, l2, p2⟩
      have b2 := Kp.below hb p2 hb.size (Nat.le_refl _)
      go_wp2_with fail
      go_roundw
      case rel => exact ⟨k + 1, by omega, by go_num, l2, b2⟩
      case measure => simp [intOf]; omega
    · obtain rfl : k = 200 := by omega
      have hn : wr.cell? ⟨w.heap.size, 804, none⟩ = some (.int .i64 200) := hl.n
      go_wp2_with fail
      refine (begin_full w.heap.size r wr hn).mono ?_
      rintro e w2 ⟨rfl, rfl⟩
      go_wp2_with fail
      refine (running_any w.heap.size (bgn r 200) wr hl (by simp [bgn])).mono ?_
      rintro e w3 ⟨A, c, rfl, hrd, b3⟩
      have hlen := bgn_run r 200 200 (by omega)
      rw [bgn_len, hlen]
      go_wp2_with fail
      refine (clog_wakes _).mono ?_
      rintro e w4 ⟨rfl, b4⟩
      go_wp2_with fail
      go_ret
      exact ⟨rfl, below_trans (below_trans hb b3) b4⟩

set_option maxRecDepth 100000 in
theorem clogMost_lifted (os : Os) (started : os.Started) (H : Type) (enc : TypeId × Value → H) :
    ReturnsInHanded {} Try.checked os 6 .any (Rows.clogMostSpec.pre6 enc Try.prog Try.f6 [] false) (Rows.clogMostSpec.post enc Try.prog Try.f6 false true false false) := by
  refine law_lifted (C := Try.checked) own started (by kernel_rfl) Try.func6
    (ChangeSpec.witness6 (enc := enc) (C := Try.checked) false ⟨#[], #[.bool false], []⟩ 8 (by kernel_rfl) (by kernel_rfl) (by kernel_rfl) (by kernel_rfl))
    rfl (fun ds h => by match ds, h with | [_], _ => rfl) laid (by kernel_rfl) (tb := 4) rfl Try.underlying4 ?_
  intro W base args ds ps hval hA hsz
  rw [Try.params6] at hA hval hsz
  obtain ⟨v0, d0, rfl, rfl, h0⟩ := trodAll_one hA
  obtain ⟨r, rfl, rfl, rfl⟩ := open_bool Try.underlying4 (hval 0 4 v0 rfl rfl) h0
  exact clog_most r W

theorem clogMost_holds : Rows.ClogMostSaid :=
  OpenClaim.holds_of_wide 6 Try.f6 rfl rfl rfl rfl rfl rfl rfl ⟨rfl, rfl, rfl, rfl, rfl⟩ rfl rfl rfl rfl rfl (by kernel_rfl) Try.func6 (by kernel_rfl)
    (of_decide_eq_true (by kernel_rfl)) (by unfold Func.isWrapper; first | (rw [if_pos (by decide +kernel)]; kernel_rfl) | (rw [if_neg (by decide +kernel)]; exact ⟨rfl, rfl⟩))
    (fun os started H enc _ => clogMost_lifted os started H enc)
#print axioms clogMost_holds
end Go.Proofs.Ytobdooojdadgpaa
