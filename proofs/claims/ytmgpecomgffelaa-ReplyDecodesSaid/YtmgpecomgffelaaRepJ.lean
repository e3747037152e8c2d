/- The law ReplyDecodes: the reply of any bytes, or that there is none. No condition. -/
import Derived.Test.YtmgpecomgffelaaRepI
namespace Go.Proofs.Ytmgpecomgffelaa
open Go.RowKit Go.ChangeShapes Go.WideShapes Go.ChangeAt
set_option linter.unusedVariables false
theorem repV_bd (b : ByteArray) : (repV b).rows.length ≤ 1000 ∧ ∀ l ∈ (repV b).rows, l.length ≤ 1000 := by
  unfold repV
  cases h : decR b with
  | none => exact ⟨by decide, fun l hl => absurd hl (by simp [R0])⟩
  | some r =>
    obtain ⟨_, _, h1, h2⟩ := (goodR_iff r).1 (enc_decR h).1
    refine ⟨by show r.rows.length ≤ _; omega, fun l hl => ?_⟩
    have := ((rowG_iff l).1 (List.all_eq_true.1 h2 l hl)).1
    omega
set_option maxRecDepth 100000 in
theorem decs_long (b : ByteArray) (w : World) (h : 30000 < b.size) : Tells Try.prog 20 #[.string b] w := by
  unfold Tells
  have t1 : decide ((30000 : Int) < (b.size : Int)) = true := by rw [decide_eq_true]; omega
  have t2 : decide (30000 < b.size) = true := by rw [decide_eq_true]; omega
  clear h
  go_enter Try.func20, Try.ntmps20
  go_wp2_with fail
  refine (rep_wakes _).mono ?_
  rintro e w1 ⟨rfl, b1⟩
  go_wp2_with fail
  go_ret
  exact ⟨rfl, b1⟩
set_option maxRecDepth 100000 in
set_option maxHeartbeats 1000000 in
theorem decs_main (b : ByteArray) (w : World) (h : ¬ 30000 < b.size) : Tells Try.prog 20 #[.string b] w := by
  unfold Tells
  have t1 : decide ((30000 : Int) < (b.size : Int)) = false := by rw [decide_eq_false]; omega
  have t2 : decide (30000 < b.size) = false := by rw [decide_eq_false]; omega
  have HP := Lib.hid (pdec_any b (by omega))
  have HQ := Lib.hid (rdecr_any b (by omega))
  have hbd := repV_bd b
  unfold DecP at HP HQ
  generalize repV b = r at *
  generalize repX b = x at *
  obtain ⟨c, n, ls⟩ := r
  simp only at HP HQ hbd
  have e1 : (x == x) = true := beq_self_eq_true x
  have HB := Lib.hid hbd
  clear h hbd
  go_enter Try.func20, Try.ntmps20
  go_wp2_with fail
  refine (HP.out _).mono ?_
  rintro e w1 ⟨A, q, rfl, hR, hn, b1⟩
  have HR := Lib.hid (hR.keep ((Below.refl _ _).alloc (Nat.le_refl _) (.cells (a3 c n A ls.length q) 96)))
  have k1 := b1.alloc b1.size (.cells (a3 c n A ls.length q) 96)
  clear hR hn b1
  go_wp2_with fail
  refine (HQ.out _).mono ?_
  rintro e w2 ⟨A2, q2, rfl, hR2, hn2, b2⟩
  have HR2 := Lib.hid (hR2.keep ((Below.refl _ _).alloc (Nat.le_refl _) (.cells (a3 c n A2 ls.length q2) 96)))
  have HR1 := Lib.hid ((HR.out.keep b2).keep ((Below.refl _ _).alloc (Nat.le_refl _) (.cells (a3 c n A2 ls.length q2) 96)))
  have hB1 := ((B3.new w1 c n A ls.length q 96).keep b2).alloc (.cells (a3 c n A2 ls.length q2) 96)
  obtain ⟨⟨c0, _⟩, ⟨c1, _⟩, ⟨c2, _⟩⟩ := hB1.cells
  have hs := b2.size
  rw [World.size_alloc] at hs
  have hn1 : w2.heap.size ≠ w1.heap.size := by omega
  have hn3 : w1.heap.size ≠ w2.heap.size := by omega
  have k2 := k1.trans (b2.mono k1.size)
  clear hR2 hn2 b2 hB1 hs k1
  go_wp2_with fail
  refine (keep_same c n A A2 q q2 ls _ HR1.out HR2.out HB.out.1 HB.out.2).mono ?_
  rintro e w3 ⟨rfl, b3⟩
  have k3 := (k2.alloc k2.size _).trans (b3.mono (by have := k2.size; simp; omega))
  clear c0 c1 c2 hn1 hn3 b3 k2
  go_wp2_with fail
  refine (rep_wakes _).mono ?_
  rintro e w4 ⟨rfl, b4⟩
  go_wp2_with fail
  go_ret
  exact ⟨rfl, k3.trans (b4.mono k3.size)⟩

set_option maxRecDepth 100000 in
theorem replyDecodes_lifted (os : Os) (started : os.Started) (H : Type) (enc : TypeId × Value → H) :
    ReturnsInHanded {} Try.checked os 20 .any (Rows.replyDecodesSpec.pre6 enc Try.prog Try.f20 [] false) (Rows.replyDecodesSpec.post enc Try.prog Try.f20 false true false false) := by
  refine law_lifted (C := Try.checked) own started (by kernel_rfl) Try.func20
    (ChangeSpec.witness6 (enc := enc) (C := Try.checked) false ⟨#[], #[.string ⟨#[]⟩], []⟩ 8 (by kernel_rfl) (by kernel_rfl) (by kernel_rfl) (by kernel_rfl))
    rfl (fun ds h => by match ds, h with | [_], _ => rfl) laid (by kernel_rfl) (tb := 4) rfl Try.underlying4 ?_
  intro W base args ds ps hval hA hsz
  rw [Try.params20] at hA hval hsz
  obtain ⟨v0, d0, rfl, rfl, h0⟩ := trodAll_one hA
  obtain ⟨b, rfl, _⟩ := open_str (hval 0 9 v0 rfl rfl) h0
  by_cases h : 30000 < b.size
  · exact decs_long b W h
  exact decs_main b W h

theorem replyDecodes_holds : Rows.ReplyDecodesSaid :=
  OpenClaim.holds_of_wide 20 Try.f20 rfl rfl rfl rfl rfl rfl rfl ⟨rfl, rfl, rfl, rfl, rfl⟩ rfl rfl rfl rfl rfl (by kernel_rfl) Try.func20 (by kernel_rfl)
    (of_decide_eq_true (by kernel_rfl)) (by unfold Func.isWrapper; first | (rw [if_pos (by decide +kernel)]; kernel_rfl) | (rw [if_neg (by decide +kernel)]; exact ⟨rfl, rfl⟩))
    (fun os started H enc _ => replyDecodes_lifted os started H enc)
#print axioms replyDecodes_holds
end Go.Proofs.Ytmgpecomgffelaa
