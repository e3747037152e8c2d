/- The law ValueCodes: the bytes of every value, and the value that stands anywhere in any bytes, or that there is none. No condition. -/
import Derived.Test.YtmgpecomgffelaaCodM
import Derived.Test.YtmgpecomgffelaaRowH
namespace Go.Proofs.Ytmgpecomgffelaa
open Go.RowKit Go.ChangeShapes Go.WideShapes Go.ChangeAt
set_option linter.unusedVariables false
theorem got_pos (s : ByteArray) (p : Int) : decide ((0 : Int) < (gN (gotV s p) : Nat)) = (gotV s p).isSome := by
  unfold gotV
  split
  · cases hg : gotA s p.toNat with
    | none => rfl
    | some y =>
      obtain ⟨v, n⟩ := y
      obtain ⟨_, h, _⟩ := enc_got hg
      show decide ((0 : Int) < (n : Nat)) = true
      rw [decide_eq_true]
      omega
  · rfl
section
variable {H : Type} {enc : TypeId × Value → H} {w : World} {base : Nat}
set_option maxRecDepth 100000 in
theorem open_val {v : Value} {d : DataW H} {ps : List MemPlace} (hval : Value.okWide Try.prog w .any base 24 v) (h : DataW.Trod enc Try.prog w 0 (fun _ => true) true 24 v d ps) : ∃ x : Val, v = x.v ∧ x.wf := by
  obtain ⟨cs, rfl, _⟩ := okWide_struct Try.underlying24 hval
  obtain ⟨fuel, hf⟩ := h
  obtain ⟨x, hx, hi⟩ := read_val hf
  refine ⟨x, ?_, hi⟩
  have : cs.toList = x.cells := hx
  rw [← Array.toArray_toList (xs := cs), this]
  rfl
set_option maxRecDepth 100000 in
theorem open_string {v : Value} {d : DataW H} {ps : List MemPlace} (hval : Value.okWide Try.prog w .any base 9 v) (h : DataW.Trod enc Try.prog w 0 (fun _ => true) true 9 v d ps) : ∃ s : ByteArray, v = .string s ∧ s.size ≤ maxLen := by
  obtain ⟨s, rfl⟩ := okWide_string Try.underlying9 hval
  obtain ⟨fuel, hf⟩ := h
  obtain ⟨s', e, _, hs⟩ := DataW.trod_string Try.underlying9 hf
  cases e
  exact ⟨s, rfl, hs⟩
end
theorem wf_i64 {n : Int} (h : (Lit.int .i64 n).wf = true) : -9223372036854775808 ≤ n ∧ n < 9223372036854775808 := by
  have h1 : IntKind.i64.min = -9223372036854775808 := rfl
  have h2 : IntKind.i64.max = 9223372036854775807 := rfl
  have h4 : (decide (IntKind.i64.min ≤ n) && decide (n ≤ IntKind.i64.max)) = true := h
  rw [Bool.and_eq_true, decide_eq_true_eq, decide_eq_true_eq, h1, h2] at h4
  exact ⟨h4.1, by omega⟩
theorem Val.wf_ok {v : Val} (h : v.wf) : v.ok := ⟨wf_i64 h.2.2.2, h.1⟩
set_option maxRecDepth 100000 in
theorem codes_long (v : Val) (s : ByteArray) (p : Int) (w : World) (h : 20000 < s.size) : Tells Try.prog 3 #[v.v, .string s, .int .i64 p] w := by
  unfold Tells
  have hst := run_sf
  have t1 : decide ((20000 : Int) < (s.size : Int)) = true := by rw [decide_eq_true]; omega
  have t2 : decide (20000 < s.size) = true := by rw [decide_eq_true]; omega
  obtain ⟨k, n, f, z⟩ := v
  clear h
  go_enter Try.func3, Try.ntmps3
  go_wp2_with fail
  refine (val_wakes _).mono ?_
  rintro e w1 ⟨rfl, b1⟩
  go_wp2_with fail
  go_ret
  exact ⟨rfl, below_trans ((Below.refl _ _).alloc (Nat.le_refl _) _) b1⟩
set_option maxRecDepth 100000 in
theorem codes_large (v : Val) (s : ByteArray) (p : Int) (w : World) (h : ¬ 20000 < s.size) (hv : 2000 < v.s.size) : Tells Try.prog 3 #[v.v, .string s, .int .i64 p] w := by
  unfold Tells
  have hst := run_sf
  have t1 : decide ((20000 : Int) < (s.size : Int)) = false := by rw [decide_eq_false]; omega
  have t2 : decide (20000 < s.size) = false := by rw [decide_eq_false]; omega
  obtain ⟨k, n, f, z⟩ := v
  have HL := Lib.hid (large_value k n f z)
  rw [decide_eq_true hv] at HL
  clear h hv
  go_enter Try.func3, Try.ntmps3
  go_wp2_with fail
  refine (HL.out _).mono ?_
  rintro e w0 ⟨rfl, b0⟩
  go_wp2_with fail
  refine (val_wakes _).mono ?_
  rintro e w1 ⟨rfl, b1⟩
  go_wp2_with fail
  go_ret
  exact ⟨rfl, below_trans (below_trans ((Below.refl _ _).alloc (Nat.le_refl _) _) b0) b1⟩
set_option maxRecDepth 100000 in
set_option maxHeartbeats 1000000 in
theorem codes_main (v : Val) (s : ByteArray) (p : Int) (w : World) (hf : v.f < two64) (h : ¬ 20000 < s.size) (hv : ¬ 2000 < v.s.size) : Tells Try.prog 3 #[v.v, .string s, .int .i64 p] w := by
  unfold Tells
  have hst := run_sf
  have t1 : decide ((20000 : Int) < (s.size : Int)) = false := by rw [decide_eq_false]; omega
  have t2 : decide (20000 < s.size) = false := by rw [decide_eq_false]; omega
  have hpos := got_pos s p
  have HD := Lib.hid (dec_any s p (by omega))
  have HR := Lib.hid (rdec_any s p (by omega))
  obtain ⟨k, n, f, z⟩ := v
  have HL := Lib.hid (large_value k n f z)
  rw [decide_eq_false hv] at HL
  have HE := Lib.hid (enc_any k n f z hf)
  have HF := Lib.hid (renc_any k n f z hf)
  generalize encS k n f z = E at *
  generalize encE k n f z = c at *
  obtain ⟨x, hx⟩ : ∃ x, x = gV (gotV s p) := ⟨_, rfl⟩
  rw [← hx] at HD HR
  clear hx
  obtain ⟨xk, xn, xf, xs⟩ := x
  have HS := Lib.hid (value_same xk xn xf xs)
  generalize (gotV s p).isSome = ok at *
  generalize gN (gotV s p) = m at *
  have hpos2 : decide (0 < m) = ok := by rw [← hpos]; simp
  have HP1 := Lib.hid hpos
  have HP2 := Lib.hid hpos2
  have HV := Lib.hid (RdB.new w ⟨k, n, f, z⟩ 24)
  have e1 : (ok == ok) = true := beq_self_eq_true ok
  have e2 : (c == c) = true := beq_self_eq_true c
  have e3 : ((m : Int) == (m : Int)) = true := beq_self_eq_true _
  have e4 : (E.toList == E.toList) = true := beq_self_eq_true _
  clear h hv hf hpos hpos2
  go_enter Try.func3, Try.ntmps3
  go_wp2_with fail
  refine (HL.out _).mono ?_
  rintro e w0 ⟨rfl, b0⟩
  have k0 := below_trans ((Below.refl w.heap.size w).alloc (Nat.le_refl _) _) b0
  have V0 := Lib.hid (HV.out.keep b0)
  obtain ⟨⟨c0, _⟩, ⟨c1, _⟩, ⟨c2, _⟩, ⟨c3, _⟩⟩ := RdB.cells V0.out
  clear b0
  go_wp2_with fail
  refine (HE.out _).mono ?_
  rintro e w1 ⟨rfl, b1⟩
  have k1 := k0.trans (b1.mono k0.size)
  have V1 := Lib.hid (V0.out.keep b1)
  clear c0 c1 c2 c3 b1 V0 k0
  obtain ⟨⟨c0, _⟩, ⟨c1, _⟩, ⟨c2, _⟩, ⟨c3, _⟩⟩ := RdB.cells V1.out
  go_wp2_with fail
  refine (HF.out _).mono ?_
  rintro e w2 ⟨rfl, b2⟩
  have k2 := k1.trans (b2.mono k1.size)
  clear c0 c1 c2 c3 b2 V1 k1
  go_wp2_with fail
  refine (HD.out _).mono ?_
  rintro e w3 ⟨rfl, b3⟩
  have k3 := k2.trans (b3.mono k2.size)
  clear b3 k2
  go_wp2_with fail
  refine (HR.out _).mono ?_
  rintro e w4 ⟨rfl, b4⟩
  have k4 := (k3.alloc k3.size _).trans (b4.mono (by have := k3.size; simp; omega))
  have hX := BoxT.alloc (BoxT.keep (BoxT.new w3 (va xk xn xf xs) 24) b4) (.cells (a5 xk xn xf xs m) 35)
  obtain ⟨⟨c0, _⟩, ⟨c1, _⟩, ⟨c2, _⟩, ⟨c3, _⟩⟩ := RdB.cells (k := xk) (n := xn) (f := xf) (s := xs) hX
  have hs4 := b4.size
  rw [World.size_alloc] at hs4
  have hn1 : w4.heap.size ≠ w3.heap.size := by omega
  have hn2 : w3.heap.size ≠ w4.heap.size := by omega
  clear b4 hX hs4
  go_wp2_with fail
  refine (HS.out _).mono ?_
  rintro e w5 ⟨rfl, b5⟩
  have k5 := (k4.alloc k4.size _).trans (b5.mono (by have := k4.size; simp; omega))
  have hY := BoxT.keep (BoxT.new w4 (a5 xk xn xf xs m) 35) b5
  obtain ⟨d4, _⟩ := hY 4 _ rfl
  have hp1 := HP1.out
  have hp2 := HP2.out
  clear b5 hY c0 c1 c2 c3 k4 hn1 hn2
  go_wp2_with fail
  refine (val_wakes _).mono ?_
  rintro e w6 ⟨rfl, b6⟩
  have k6 := k5.trans (b6.mono k5.size)
  go_wp2_with fail
  go_ret
  exact ⟨rfl, k6⟩

set_option maxRecDepth 100000 in
theorem valueCodes_lifted (os : Os) (started : os.Started) (H : Type) (enc : TypeId × Value → H) :
    ReturnsInHanded {} Try.checked os 3 .any (Rows.valueCodesSpec.pre6 enc Try.prog Try.f3 [] false) (Rows.valueCodesSpec.post enc Try.prog Try.f3 false true false false) := by
  refine law_lifted (C := Try.checked) own started (by kernel_rfl) Try.func3
    (ChangeSpec.witness6 (enc := enc) (C := Try.checked) false ⟨#[], #[.agg #[.int .i64 0, .int .i64 0, .float .f64 0, .string ⟨#[]⟩], .string ⟨#[]⟩, .int .i64 0], []⟩ 8 (by kernel_rfl) (by kernel_rfl) (by kernel_rfl) (by kernel_rfl))
    rfl (fun ds h => by match ds, h with | [_, _, _], _ => rfl) laid (by kernel_rfl) (tb := 4) rfl Try.underlying4 ?_
  intro W base args ds ps hval hA hsz
  rw [Try.params3] at hA hval hsz
  obtain ⟨v0, v1, v2, d0, d1, d2, q0, q1, q2, rfl, rfl, rfl, h0, h1, h2⟩ := trodAll_three hA
  obtain ⟨v, rfl, hw⟩ := open_val (hval 0 24 v0 rfl rfl) h0
  obtain ⟨s, rfl, _⟩ := open_string (hval 1 9 v1 rfl rfl) h1
  obtain ⟨p, rfl⟩ := okWide_int Try.underlying3 (hval 2 3 v2 rfl rfl)
  by_cases h : 20000 < s.size
  · exact codes_long v s p W h
  by_cases hv : 2000 < v.s.size
  · exact codes_large v s p W h hv
  exact codes_main v s p W hw.1 h hv

theorem valueCodes_holds : Rows.ValueCodesSaid :=
  OpenClaim.holds_of_wide 3 Try.f3 rfl rfl rfl rfl rfl rfl rfl ⟨rfl, rfl, rfl, rfl, rfl⟩ rfl rfl rfl rfl rfl (by kernel_rfl) Try.func3 (by kernel_rfl)
    (of_decide_eq_true (by kernel_rfl)) (by unfold Func.isWrapper; first | (rw [if_pos (by decide +kernel)]; kernel_rfl) | (rw [if_neg (by decide +kernel)]; exact ⟨rfl, rfl⟩))
    (fun os started H enc _ => valueCodes_lifted os started H enc)
#print axioms valueCodes_holds
end Go.Proofs.Ytmgpecomgffelaa
