/- The law ValueRows: the bytes of every row, and the row of any bytes, or that there is none. No condition. -/
import Derived.Test.YtmgpecomgffelaaCodN
namespace Go.Proofs.Ytmgpecomgffelaa
open Go.RowKit Go.ChangeShapes Go.WideShapes Go.ChangeAt
set_option linter.unusedVariables false
set_option maxRecDepth 100000 in
theorem vrows_long (A : Option Addr) (n c : Nat) (s : ByteArray) (w : World) (h : 20000 < s.size) : Tells Try.prog 4 #[.slice A n c, .string s] w := by
  unfold Tells
  have t1 : decide ((20000 : Int) < (s.size : Int)) = true := by rw [decide_eq_true]; omega
  have t2 : decide (20000 < s.size) = true := by rw [decide_eq_true]; omega
  clear h
  go_enter Try.func4, Try.ntmps4
  go_wp2_with fail
  refine (val_wakes _).mono ?_
  rintro e w1 ⟨rfl, b1⟩
  go_wp2_with fail
  go_ret
  exact ⟨rfl, b1⟩
set_option maxRecDepth 100000 in
theorem vrows_large (A : Option Addr) (c : Nat) (l : List Val) (s : ByteArray) (w : World) (hr : RdV w A l) (h : ¬ 20000 < s.size) (hl : largeR l = true) : Tells Try.prog 4 #[.slice A l.length c, .string s] w := by
  unfold Tells
  have t1 : decide ((20000 : Int) < (s.size : Int)) = false := by rw [decide_eq_false]; omega
  have t2 : decide (20000 < s.size) = false := by rw [decide_eq_false]; omega
  have HL := Lib.hid (large_row A c l w hr)
  rw [hl] at HL
  clear h hl hr
  go_enter Try.func4, Try.ntmps4
  go_wp2_with fail
  refine HL.out.mono ?_
  rintro e w0 ⟨rfl, b0⟩
  go_wp2_with fail
  refine (val_wakes _).mono ?_
  rintro e w1 ⟨rfl, b1⟩
  go_wp2_with fail
  go_ret
  exact ⟨rfl, b0.trans (b1.mono b0.size)⟩
set_option maxRecDepth 100000 in
set_option maxHeartbeats 1000000 in
theorem vrows_main (A : Option Addr) (c : Nat) (l : List Val) (s : ByteArray) (w : World) (hr : RdV w A l) (hn : A = none → c = 0) (hf : ∀ v ∈ l, v.f < two64) (h : ¬ 20000 < s.size) (hl : largeR l = false) : Tells Try.prog 4 #[.slice A l.length c, .string s] w := by
  unfold Tells
  have t1 : decide ((20000 : Int) < (s.size : Int)) = false := by rw [decide_eq_false]; omega
  have t2 : decide (20000 < s.size) = false := by rw [decide_eq_false]; omega
  have HL := Lib.hid (large_row A c l w hr)
  rw [hl] at HL
  have hlen : l.length ≤ 50 := by
    unfold largeR at hl
    rw [Bool.or_eq_false_iff] at hl
    have := of_decide_eq_false hl.1
    omega
  have HR := Lib.hid hr
  have HN := Lib.hid hn
  have HE := Lib.hid (fun A' c' w' h => row_any A' c' l w' h hf)
  have HF := Lib.hid (fun A' c' w' h => rrow_any A' c' l w' h hf)
  have HD := Lib.hid (vals_any s (by omega))
  have HG := Lib.hid (rvals_any s (by omega))
  have hvl := valsL_len s
  generalize hS : rowS l = S at *
  generalize hE : rowE l = E at *
  have e2 : (E == E) = true := beq_self_eq_true E
  have e4 : (S.toList == S.toList) = true := beq_self_eq_true _
  unfold ValsP at HD HG
  generalize hz : valsE s = z at *
  generalize hm : valsL s = m at *
  have e3 : (z == z) = true := beq_self_eq_true z
  have HM := Lib.hid hvl
  have HLen := Lib.hid hlen
  clear h hl hr hn hf hS hE hz hm hvl hlen
  go_enter Try.func4, Try.ntmps4
  go_wp2_with fail
  refine HL.out.mono ?_
  rintro e w0 ⟨rfl, b0⟩
  have HR0 := Lib.hid (HR.out.keep (b0.trans ((Below.refl _ _).alloc b0.size (.cells #[] 24))) (Nat.le_refl _))
  go_wp2_with (at_builtin; refine wl_app_vals rfl _ _ rfl w.heap.size _ 0 [] rfl (Fresh.empty _ _ _ _ _) (by have := b0.size; simp; omega) _ _ l rfl HN.out HR0.out (by have := HLen.out; omega) ?_; intro v' w1 hF b1 _; have HF1 := Lib.hid hF)
  have k1 := (b0.alloc b0.size _).trans b1
  have hF := HF1.out
  rw [Nat.zero_add, List.nil_append] at hF
  obtain ⟨A1, c1, rfl, hn1⟩ := hF.slice
  have HI := Lib.hid (Fresh.rd (l := l) (c := c1) Val.cells_len (by decide) hF)
  have HR1 := Lib.hid (HR.out.keep k1 (Nat.le_refl _))
  clear hF HF1 hn1 b0 b1 HR0
  go_wp2_with fail
  refine (HE.out _ _ _ HI.out).mono ?_
  rintro e w2 ⟨rfl, b2⟩
  have k2 := k1.trans (b2.mono k1.size)
  have HI2 := Lib.hid (HI.out.keep b2 (Nat.le_refl _))
  have HR2 := Lib.hid (HR1.out.keep b2 (Nat.le_refl _))
  clear b2 k1 HI HR1
  go_wp2_with fail
  refine (HF.out _ _ _ HR2.out).mono ?_
  rintro e w3 ⟨rfl, b3⟩
  have k3 := k2.trans (b3.mono k2.size)
  have HI3 := Lib.hid (HI2.out.keep b3 (Nat.le_refl _))
  have HR3 := Lib.hid (HR2.out.keep b3 (Nat.le_refl _))
  clear b3 k2 HI2 HR2
  go_wp2_with fail
  refine (HD.out _).mono ?_
  rintro e w4 ⟨A4, c4, rfl, f4, n4, b4⟩
  have k4 := k3.trans (b4.mono k3.size)
  have HI4 := Lib.hid (HI3.out.keep b4 (Nat.le_refl _))
  have HR4 := Lib.hid (HR3.out.keep b4 (Nat.le_refl _))
  have HX := Lib.hid (Fresh.rd (l := m) (c := c4) Val.cells_len (by decide) f4)
  clear b4 k3 f4 n4 HI3 HR3
  go_wp2_with fail
  refine (HG.out _).mono ?_
  rintro e w5 ⟨A5, c5, rfl, f5, n5, b5⟩
  have k5 := k4.trans (b5.mono k4.size)
  have HI5 := Lib.hid (HI4.out.keep b5 (Nat.le_refl _))
  have HR5 := Lib.hid (HR4.out.keep b5 (Nat.le_refl _))
  have HX5 := Lib.hid (HX.out.keep b5 (Nat.le_refl _))
  have HY := Lib.hid (Fresh.rd (l := m) (c := c5) Val.cells_len (by decide) f5)
  clear b5 k4 f5 n5 HI4 HR4 HX
  go_wp2_with fail
  refine (values_same _ _ _ _ m _ HX5.out HY.out (by have := HM.out; omega)).mono ?_
  rintro e w6 ⟨rfl, b6⟩
  have k6 := k5.trans (b6.mono k5.size)
  have HI6 := Lib.hid (HI5.out.keep b6 (Nat.le_refl _))
  have HR6 := Lib.hid (HR5.out.keep b6 (Nat.le_refl _))
  clear b6 k5 HI5 HR5 HX5 HY
  go_wp2_with fail
  refine (values_same _ _ _ _ l _ HI6.out HR6.out (by have := HLen.out; omega)).mono ?_
  rintro e w7 ⟨rfl, b7⟩
  have k7 := k6.trans (b7.mono k6.size)
  clear b7 k6
  go_wp2_with fail
  refine (val_wakes _).mono ?_
  rintro e w8 ⟨rfl, b8⟩
  have k8 := k7.trans (b8.mono k7.size)
  go_wp2_with fail
  go_ret
  exact ⟨rfl, k8⟩

set_option maxRecDepth 100000 in
theorem valueRows_lifted (os : Os) (started : os.Started) (H : Type) (enc : TypeId × Value → H) :
    ReturnsInHanded {} Try.checked os 4 .any (Rows.valueRowsSpec.pre6 enc Try.prog Try.f4 [] false) (Rows.valueRowsSpec.post enc Try.prog Try.f4 false true false false) := by
  refine law_lifted (C := Try.checked) own started (by kernel_rfl) Try.func4
    (ChangeSpec.witness6 (enc := enc) (C := Try.checked) false ⟨#[], #[.slice none 0 0, .string ⟨#[]⟩], []⟩ 8 (by kernel_rfl) (by kernel_rfl) (by kernel_rfl) (by kernel_rfl))
    rfl (fun ds h => by match ds, h with | [_, _], _ => rfl) laid (by kernel_rfl) (tb := 4) rfl Try.underlying4 ?_
  intro W base args ds ps hval hA hsz
  rw [Try.params4] at hA hval hsz
  obtain ⟨v0, v1, d0, d1, q0, q1, rfl, rfl, rfl, h0, h1⟩ := trodAll_two hA
  obtain ⟨A, c, l, rfl, hr, hlc, hw, hn⟩ := open_row (hval 0 39 v0 rfl rfl) h0
  obtain ⟨s, rfl, _⟩ := open_string (hval 1 9 v1 rfl rfl) h1
  by_cases h : 20000 < s.size
  · exact vrows_long A l.length c s W h
  cases hL : largeR l with
  | true => exact vrows_large A c l s W hr h hL
  | false =>
  exact vrows_main A c l s W hr hn (fun v hv => (hw v hv).1) h hL

theorem valueRows_holds : Rows.ValueRowsSaid :=
  OpenClaim.holds_of_wide 4 Try.f4 rfl rfl rfl rfl rfl rfl rfl ⟨rfl, rfl, rfl, rfl, rfl⟩ rfl rfl rfl rfl rfl (by kernel_rfl) Try.func4 (by kernel_rfl)
    (of_decide_eq_true (by kernel_rfl)) (by unfold Func.isWrapper; first | (rw [if_pos (by decide +kernel)]; kernel_rfl) | (rw [if_neg (by decide +kernel)]; exact ⟨rfl, rfl⟩))
    (fun os started H enc _ => valueRows_lifted os started H enc)
#print axioms valueRows_holds
end Go.Proofs.Ytmgpecomgffelaa
