/- The law RowColumns: which columns are good, where each stands, and what they are with one more, or that it can't be. No condition. -/
import Derived.Test.YtmgpecomgffelaaRowU
import Derived.Test.YtmgpecomgffelaaRowR
import Derived.Test.YtmgpecomgffelaaRowI
namespace Go.Proofs.Ytmgpecomgffelaa
open Go.RowKit Go.ChangeShapes Go.WideShapes Go.ChangeAt
set_option linter.unusedVariables false
theorem addV_len (l : List Col) (x : Col) : (addV l x).length ≤ l.length + 1 := by
  unfold addV
  split <;> simp
set_option maxRecDepth 100000 in
set_option maxHeartbeats 4000000 in
theorem columns_1 (A : Option Addr) (c : Nat) (l : List Col) (x : Col) (nm : ByteArray) (w : World) (ha : RdC w A l) (hnA : A = none → c = 0) (hL : largeC l = true) : Tells Try.prog 16 #[.slice A l.length c, cv x.name x.kind x.nn x.d.kind x.d.n x.d.f x.d.s, .string nm] w := by
  unfold Tells
  have hst := run_sf
  have h0 : Below w.heap.size w (w.alloc (.cells #[.string x.name, .int .i64 x.kind, .bool x.nn, .int .i64 x.d.kind, .int .i64 x.d.n, .float .f64 x.d.f, .string x.d.s] 53)) := (Below.refl _ _).alloc (Nat.le_refl _) _
  have HX0 := Lib.hid (RdC.uno w x)
  have HA0 := Lib.hid (ha.keep h0 (Nat.le_refl _))
  have HNA := Lib.hid hnA
  have hl := large_cols A c l _ HA0.out
  rw [hL] at hl
  clear ha hnA hL
  go_enter Try.func16, Try.ntmps16
  go_wp2_with fail
  refine hl.mono ?_
  rintro e w1 ⟨rfl, b1⟩
  have c1 := below_trans h0 b1
  have HX1 := Lib.hid (HX0.out.keep b1 (Nat.le_refl _))
  have HA1 := Lib.hid (HA0.out.keep b1 (Nat.le_refl _))
  clear h0 b1 HX0 HA0 hl
  go_wp2_with fail
  refine (row_wakes _).mono ?_
  rintro e w9 ⟨rfl, b9⟩
  go_wp2_with fail
  go_ret
  exact ⟨rfl, below_trans c1 b9⟩
set_option maxRecDepth 100000 in
set_option maxHeartbeats 4000000 in
theorem columns_2 (A : Option Addr) (c : Nat) (l : List Col) (x : Col) (nm : ByteArray) (w : World) (ha : RdC w A l) (hnA : A = none → c = 0) (hL : largeC l = false) (hX : largeC [x] = true) : Tells Try.prog 16 #[.slice A l.length c, cv x.name x.kind x.nn x.d.kind x.d.n x.d.f x.d.s, .string nm] w := by
  unfold Tells
  have hst := run_sf
  have h0 : Below w.heap.size w (w.alloc (.cells #[.string x.name, .int .i64 x.kind, .bool x.nn, .int .i64 x.d.kind, .int .i64 x.d.n, .float .f64 x.d.f, .string x.d.s] 53)) := (Below.refl _ _).alloc (Nat.le_refl _) _
  have HX0 := Lib.hid (RdC.uno w x)
  have HA0 := Lib.hid (ha.keep h0 (Nat.le_refl _))
  have HNA := Lib.hid hnA
  have hl := large_cols A c l _ HA0.out
  rw [hL] at hl
  have HLX := Lib.hid hX
  clear hX
  clear ha hnA hL
  go_enter Try.func16, Try.ntmps16
  go_wp2_with fail
  refine hl.mono ?_
  rintro e w1 ⟨rfl, b1⟩
  have c1 := below_trans h0 b1
  have HX1 := Lib.hid (HX0.out.keep b1 (Nat.le_refl _))
  have HA1 := Lib.hid (HA0.out.keep b1 (Nat.le_refl _))
  clear h0 b1 HX0 HA0 hl
  obtain ⟨q0, q1, q2, q3, q4, q5, q6⟩ := RdC.box HX1.out
  have hlx := large_cols (some ⟨w1.heap.size, 0, none⟩) 1 [x] _ (RdC.uno w1 x)
  rw [HLX.out] at hlx
  go_wp2_with fail
  refine hlx.mono ?_
  rintro e w2 ⟨rfl, b2'⟩
  have b2 := below_trans ((Below.refl w1.heap.size w1).alloc (Nat.le_refl _) _) b2'
  have c2 := below_trans c1 b2
  have HX2 := Lib.hid (HX1.out.keep b2 (Nat.le_refl _))
  have HA2 := Lib.hid (HA1.out.keep b2 (Nat.le_refl _))
  clear b2 b2' c1 HX1 HA1 hlx q0 q1 q2 q3 q4 q5 q6
  go_wp2_with fail
  refine (row_wakes _).mono ?_
  rintro e w9 ⟨rfl, b9⟩
  go_wp2_with fail
  go_ret
  exact ⟨rfl, below_trans c2 b9⟩
set_option maxRecDepth 100000 in
set_option maxHeartbeats 4000000 in
theorem columns_3 (A : Option Addr) (c : Nat) (l : List Col) (x : Col) (nm : ByteArray) (w : World) (ha : RdC w A l) (hnA : A = none → c = 0) (hL : largeC l = false) (hX : largeC [x] = false) (hN : 1000 < nm.size) : Tells Try.prog 16 #[.slice A l.length c, cv x.name x.kind x.nn x.d.kind x.d.n x.d.f x.d.s, .string nm] w := by
  unfold Tells
  have hst := run_sf
  have h0 : Below w.heap.size w (w.alloc (.cells #[.string x.name, .int .i64 x.kind, .bool x.nn, .int .i64 x.d.kind, .int .i64 x.d.n, .float .f64 x.d.f, .string x.d.s] 53)) := (Below.refl _ _).alloc (Nat.le_refl _) _
  have HX0 := Lib.hid (RdC.uno w x)
  have HA0 := Lib.hid (ha.keep h0 (Nat.le_refl _))
  have HNA := Lib.hid hnA
  have hl := large_cols A c l _ HA0.out
  rw [hL] at hl
  have HLX := Lib.hid hX
  have tn : decide ((1000 : Int) < (nm.size : Int)) = true := by rw [decide_eq_true]; omega
  clear hX hN
  clear ha hnA hL
  go_enter Try.func16, Try.ntmps16
  go_wp2_with fail
  refine hl.mono ?_
  rintro e w1 ⟨rfl, b1⟩
  have c1 := below_trans h0 b1
  have HX1 := Lib.hid (HX0.out.keep b1 (Nat.le_refl _))
  have HA1 := Lib.hid (HA0.out.keep b1 (Nat.le_refl _))
  clear h0 b1 HX0 HA0 hl
  obtain ⟨q0, q1, q2, q3, q4, q5, q6⟩ := RdC.box HX1.out
  have hlx := large_cols (some ⟨w1.heap.size, 0, none⟩) 1 [x] _ (RdC.uno w1 x)
  rw [HLX.out] at hlx
  go_wp2_with fail
  refine hlx.mono ?_
  rintro e w2 ⟨rfl, b2'⟩
  have b2 := below_trans ((Below.refl w1.heap.size w1).alloc (Nat.le_refl _) _) b2'
  have c2 := below_trans c1 b2
  have HX2 := Lib.hid (HX1.out.keep b2 (Nat.le_refl _))
  have HA2 := Lib.hid (HA1.out.keep b2 (Nat.le_refl _))
  clear b2 b2' c1 HX1 HA1 hlx q0 q1 q2 q3 q4 q5 q6
  go_wp2_with fail
  refine (row_wakes _).mono ?_
  rintro e w9 ⟨rfl, b9⟩
  go_wp2_with fail
  go_ret
  exact ⟨rfl, below_trans c2 b9⟩
set_option maxRecDepth 100000 in
set_option maxHeartbeats 4000000 in
theorem columns_main (A : Option Addr) (c : Nat) (l : List Col) (x : Col) (nm : ByteArray) (w : World) (ha : RdC w A l) (hnA : A = none → c = 0) (hL : largeC l = false) (hX : largeC [x] = false) (hN : ¬ 1000 < nm.size) : Tells Try.prog 16 #[.slice A l.length c, cv x.name x.kind x.nn x.d.kind x.d.n x.d.f x.d.s, .string nm] w := by
  unfold Tells
  have hst := run_sf
  have h0 : Below w.heap.size w (w.alloc (.cells #[.string x.name, .int .i64 x.kind, .bool x.nn, .int .i64 x.d.kind, .int .i64 x.d.n, .float .f64 x.d.f, .string x.d.s] 53)) := (Below.refl _ _).alloc (Nat.le_refl _) _
  have HX0 := Lib.hid (RdC.uno w x)
  have HA0 := Lib.hid (ha.keep h0 (Nat.le_refl _))
  have HNA := Lib.hid hnA
  have hl := large_cols A c l _ HA0.out
  rw [hL] at hl
  have HLX := Lib.hid hX
  have tn : decide ((1000 : Int) < (nm.size : Int)) = false := by rw [decide_eq_false]; omega
  have hll := largeC_len hL
  clear hX hN
  clear ha hnA hL
  go_enter Try.func16, Try.ntmps16
  go_wp2_with fail
  refine hl.mono ?_
  rintro e w1 ⟨rfl, b1⟩
  have c1 := below_trans h0 b1
  have HX1 := Lib.hid (HX0.out.keep b1 (Nat.le_refl _))
  have HA1 := Lib.hid (HA0.out.keep b1 (Nat.le_refl _))
  clear h0 b1 HX0 HA0 hl
  obtain ⟨q0, q1, q2, q3, q4, q5, q6⟩ := RdC.box HX1.out
  have hlx := large_cols (some ⟨w1.heap.size, 0, none⟩) 1 [x] _ (RdC.uno w1 x)
  rw [HLX.out] at hlx
  go_wp2_with fail
  refine hlx.mono ?_
  rintro e w2 ⟨rfl, b2'⟩
  have b2 := below_trans ((Below.refl w1.heap.size w1).alloc (Nat.le_refl _) _) b2'
  have c2 := below_trans c1 b2
  have HX2 := Lib.hid (HX1.out.keep b2 (Nat.le_refl _))
  have HA2 := Lib.hid (HA1.out.keep b2 (Nat.le_refl _))
  clear b2 b2' c1 HX1 HA1 hlx q0 q1 q2 q3 q4 q5 q6
  go_wp2_with (at_builtin; refine wl_app_cols rfl _ _ rfl w2.heap.size _ 0 [] rfl (Fresh.empty _ _ _ _ _) (by simp) A c l rfl HNA.out (HA2.out.keep ((Below.refl _ _).alloc (Nat.le_refl _) _) (Nat.le_refl _)) (by omega) ?_; intro v3 w3 hF b3' _; rw [Nat.zero_add, List.nil_append] at hF; obtain ⟨A3, c3, rfl, hn3⟩ := hF.slice; have b3 : Below w2.heap.size w2 w3 := ((Below.refl _ _).alloc (Nat.le_refl _) _).trans b3'; have HI3 := Lib.hid (Fresh.rd Col.cells_len (by decide) hF); have HN3 := Lib.hid hn3; have k3 := below_trans c2 b3;   have HX3 := Lib.hid (HX2.out.keep b3 (Nat.le_refl _));   have HA3 := Lib.hid (HA2.out.keep b3 (Nat.le_refl _)); clear b3 b3' c2 HX2 HA2 hF hn3; obtain ⟨q0, q1, q2, q3, q4, q5, q6⟩ := RdC.box HX3.out)
  refine (add_any A3 c3 l x w3 HI3.out HN3.out).mono ?_
  have HVL := Lib.hid (addV_len l x)
  have hself : (addE l x == addE l x) = true := beq_self_eq_true _
  have HR := Lib.hid (radd_any A c l x)
  generalize addV l x = av at *
  generalize addE l x = ae at *
  rintro e w4 ⟨A4, c4, rfl, hr4, hn4, b4⟩
  have HV4 := Lib.hid hr4
  have k4 := below_trans k3 b4
  have HX4 := Lib.hid (HX3.out.keep b4 (Nat.le_refl _))
  have HA4 := Lib.hid (HA3.out.keep b4 (Nat.le_refl _))
  have HI4 := Lib.hid (HI3.out.keep b4 (Nat.le_refl _))
  clear b4 hr4 hn4 k3 HX3 HA3 HI3 q0 q1 q2 q3 q4 q5 q6
  obtain ⟨q0, q1, q2, q3, q4, q5, q6⟩ := RdC.box HX4.out
  go_wp2_with fail
  refine (HR.out w4 HA4.out HNA.out).mono ?_
  rintro e w5 ⟨A5, c5, rfl, hr5, hn5, b5⟩
  have HV5 := Lib.hid hr5
  have HW5 := Lib.hid (HV4.out.keep b5 (Nat.le_refl _))
  have k5 := below_trans k4 b5
  have HA5 := Lib.hid (HA4.out.keep b5 (Nat.le_refl _))
  have HI5 := Lib.hid (HI4.out.keep b5 (Nat.le_refl _))
  clear b5 hr5 hn5 k4 HX4 HA4 HI4 HV4 HR q0 q1 q2 q3 q4 q5 q6
  have hg := goodc_any A3 c3 l w5 HI5.out
  have HG := Lib.hid (rgoodc_any A c l)
  have hself2 : (goodC l == goodC l) = true := beq_self_eq_true _
  generalize goodC l = g at *
  go_wp2_with fail
  refine hg.mono ?_
  rintro e w6 ⟨rfl, b6⟩
  have k6 := below_trans k5 b6
  have HA6 := Lib.hid (HA5.out.keep b6 (Nat.le_refl _))
  have HI6 := Lib.hid (HI5.out.keep b6 (Nat.le_refl _))
  have HV6 := Lib.hid (HV5.out.keep b6 (Nat.le_refl _))
  have HW6 := Lib.hid (HW5.out.keep b6 (Nat.le_refl _))
  clear b6 k5 HA5 HI5 HV5 HW5 hg
  go_wp2_with fail
  refine (HG.out w6 HA6.out).mono ?_
  rintro e w7 ⟨rfl, b7⟩
  have k7 := below_trans k6 b7
  have HA7 := Lib.hid (HA6.out.keep b7 (Nat.le_refl _))
  have HI7 := Lib.hid (HI6.out.keep b7 (Nat.le_refl _))
  have HV7 := Lib.hid (HV6.out.keep b7 (Nat.le_refl _))
  have HW7 := Lib.hid (HW6.out.keep b7 (Nat.le_refl _))
  clear b7 k6 HA6 HI6 HV6 HW6 HG
  have hf := find_any A3 c3 l nm w7 HI7.out (by omega)
  have HF := Lib.hid (rfind_any A c l nm)
  have hself3 : (findV nm l 0 == findV nm l 0) = true := beq_self_eq_true _
  generalize findV nm l 0 = z at *
  go_wp2_with fail
  refine hf.mono ?_
  rintro e w8 ⟨rfl, b8⟩
  have k8 := below_trans k7 b8
  have HA8 := Lib.hid (HA7.out.keep b8 (Nat.le_refl _))
  have HI8 := Lib.hid (HI7.out.keep b8 (Nat.le_refl _))
  have HV8 := Lib.hid (HV7.out.keep b8 (Nat.le_refl _))
  have HW8 := Lib.hid (HW7.out.keep b8 (Nat.le_refl _))
  clear b8 k7 HA7 HI7 HV7 HW7 hf
  go_wp2_with fail
  refine (HF.out w8 HA8.out (by omega)).mono ?_
  rintro e w9 ⟨rfl, rfl⟩
  go_wp2_with fail
  refine (cols_same A4 A5 c4 c5 av w8 HW8.out HV8.out (by have := HVL.out; omega)).mono ?_
  rintro e w9 ⟨rfl, b9⟩
  have k9 := below_trans k8 b9
  have HA9 := Lib.hid (HA8.out.keep b9 (Nat.le_refl _))
  have HI9 := Lib.hid (HI8.out.keep b9 (Nat.le_refl _))
  clear b9 k8 HA8 HI8 HV8 HW8 HF
  go_wp2_with fail
  refine (cols_same A3 A c3 c l w9 HI9.out HA9.out (by omega)).mono ?_
  rintro e w10 ⟨rfl, b10⟩
  have k10 := below_trans k9 b10
  clear b10 k9 HA9 HI9
  go_wp2_with fail
  refine (row_wakes _).mono ?_
  rintro e w11 ⟨rfl, b11⟩
  go_wp2_with fail
  go_ret
  exact ⟨rfl, below_trans k10 b11⟩
set_option maxRecDepth 100000 in
theorem open_col {H : Type} {enc : TypeId × Value → H} {w : World} {base : Nat} {v : Value} {d : DataW H} {ps : List MemPlace} (hval : Value.okWide Try.prog w .any base 53 v) (h : DataW.Trod enc Try.prog w 0 (fun _ => true) true 53 v d ps) :
    ∃ x : Col, v = cv x.name x.kind x.nn x.d.kind x.d.n x.d.f x.d.s ∧ x.wf := by
  obtain ⟨cs, rfl, _⟩ := okWide_struct Try.underlying53 hval
  obtain ⟨fuel, hf⟩ := h
  obtain ⟨x, hx, hw⟩ := read_col hf
  refine ⟨x, ?_, hw⟩
  have : cs.toList = x.cells := hx
  rw [← Array.toArray_toList (xs := cs), this]
  rfl

set_option maxRecDepth 100000 in
theorem rowColumns_lifted (os : Os) (started : os.Started) (H : Type) (enc : TypeId × Value → H) :
    ReturnsInHanded {} Try.checked os 16 .any (Rows.rowColumnsSpec.pre6 enc Try.prog Try.f16 [] false) (Rows.rowColumnsSpec.post enc Try.prog Try.f16 false true false false) := by
  refine law_lifted (C := Try.checked) own started (by kernel_rfl) Try.func16
    (ChangeSpec.witness6 (enc := enc) (C := Try.checked) false ⟨#[], #[.slice none 0 0, .agg #[.string ⟨#[]⟩, .int .i64 0, .bool false, .int .i64 0, .int .i64 0, .float .f64 0, .string ⟨#[]⟩], .string ⟨#[]⟩], []⟩ 8 (by kernel_rfl) (by kernel_rfl) (by kernel_rfl) (by kernel_rfl))
    rfl (fun ds h => by match ds, h with | [_, _, _], _ => rfl) laid (by kernel_rfl) (tb := 4) rfl Try.underlying4 ?_
  intro W base args ds ps hval hA hsz
  rw [Try.params16] at hA hval hsz
  obtain ⟨v0, v1, v2, d0, d1, d2, q0, q1, q2, rfl, rfl, rfl, h0, h1, h2⟩ := trodAll_three hA
  obtain ⟨A, c, l, rfl, hr, hlc, hw, hn⟩ := open_cols (hval 0 49 v0 rfl rfl) h0
  obtain ⟨x, rfl, hx⟩ := open_col (hval 1 53 v1 rfl rfl) h1
  obtain ⟨nm, rfl⟩ := okWide_string Try.underlying9 (hval 2 9 v2 rfl rfl)
  cases hL : largeC l with
  | true => exact columns_1 A c l x nm W hr hn hL
  | false =>
  cases hX : largeC [x] with
  | true => exact columns_2 A c l x nm W hr hn hL hX
  | false =>
  by_cases hN : 1000 < nm.size
  · exact columns_3 A c l x nm W hr hn hL hX hN
  exact columns_main A c l x nm W hr hn hL hX hN

theorem rowColumns_holds : Rows.RowColumnsSaid :=
  OpenClaim.holds_of_wide 16 Try.f16 rfl rfl rfl rfl rfl rfl rfl ⟨rfl, rfl, rfl, rfl, rfl⟩ rfl rfl rfl rfl rfl (by kernel_rfl) Try.func16 (by kernel_rfl)
    (of_decide_eq_true (by kernel_rfl)) (by unfold Func.isWrapper; first | (rw [if_pos (by decide +kernel)]; kernel_rfl) | (rw [if_neg (by decide +kernel)]; exact ⟨rfl, rfl⟩))
    (fun os started H enc _ => rowColumns_lifted os started H enc)
#print axioms rowColumns_holds
end Go.Proofs.Ytmgpecomgffelaa
