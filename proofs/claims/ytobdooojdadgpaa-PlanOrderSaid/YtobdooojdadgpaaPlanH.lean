/- Contract: plan.Of, where rows are found. -/
import Derived.Test.YtobdooojdadgpaaPlanG
namespace Go.Proofs.Ytobdooojdadgpaa
open Go.RowKit
set_option linter.unusedVariables false
set_option maxRecDepth 100000 in
set_option maxHeartbeats 2000000 in
theorem of_none5 (s : Stm) (C : Option Addr) (c : Nat) (cols : List Col) (A : Option Addr) (a : Nat) (l : List Idx) (w : World) (hc : RdC w C cols) (ha : RdI w A l) (hnA : A = none → a = 0) (hcl : cols.length ≤ 1000) (hal : l.length ≤ 1000) (hk : s.kind = 5) (hz : ¬ findV s.col cols 0 < 0) (hy : ¬ findV s.set cols 0 < 0) (hkm : keepL s.col l = []) :
    Calls Try.prog 31 #[sv s, .slice C cols.length c, .slice A l.length a] w fun e w' => e = .returned (.tuple #[.agg #[.int .i64 1, .string ⟨#[]⟩], .int .i64 0]) ∧ Below w.heap.size w w' := by
  have hst := run_sf
  have hm := OfMem.start w s 49
  have b0 : Below w.heap.size w ((w.alloc (.cells s.a 45)).alloc (.cells #[.int .i64 0, .string ⟨#[]⟩] 49)) := ((Below.refl _ _).alloc (Nat.le_refl _) _).alloc (by simp) _
  have HM := Lib.hid hm
  have HC0 := Lib.hid (hc.keep b0 (Nat.le_refl _))
  have HA0 := Lib.hid (ha.keep b0 (Nat.le_refl _))
  have HNA := Lib.hid hnA
  have t9 : (s.kind == 9) = false := by rw [beq_eq_false_iff_ne]; omega
  have t5 : (s.kind == 5) = true := by rw [beq_iff_eq]; omega
  have t7 : (s.kind == 7) = false := by rw [beq_eq_false_iff_ne]; omega
  have t6 : (s.kind == 6) = false := by rw [beq_eq_false_iff_ne]; omega
  have t8 : (s.kind == 8) = false := by rw [beq_eq_false_iff_ne]; omega
  clear hk
  have HKM := Lib.hid hkm
  have HAL := Lib.hid hal
  clear hkm
  clear hc ha hnA hm
  go_enter Try.func31, Try.ntmps31
  go_wp2_with fail
  have hf := find_any C c cols s.col _ HC0.out hcl
  generalize findV s.col cols 0 = z at *
  have tz : decide (z < 0) = false := decide_eq_false (by omega)
  clear hz
  refine hf.mono ?_
  rintro e w1 ⟨rfl, b1⟩
  obtain ⟨m1, m2, m3, m4, m5, m6, m7⟩ := HM.out.keep b1
  have HM1 := Lib.hid (HM.out.keep b1)
  have hlt1 := HM1.out.lt
  have k1 := b0.trans (b1.mono b0.size)
  have HC1 := Lib.hid (HC0.out.keep b1 (Nat.le_refl _))
  have HA1 := Lib.hid (HA0.out.keep b1 (Nat.le_refl _))
  clear hf b0 b1 HM HC0 HA0
  go_wp2_with fail
  have hf2 := find_any C c cols s.set w1 HC1.out hcl
  generalize findV s.set cols 0 = y at *
  have ty : decide (y < 0) = false := decide_eq_false (by omega)
  clear hy
  refine hf2.mono ?_
  rintro e w2 ⟨rfl, b2⟩
  obtain ⟨n1, n2, n3, n4, n5, n6, n7⟩ := HM1.out.keep b2
  have HM2 := Lib.hid (HM1.out.keep b2)
  have hlt2 := HM2.out.lt
  have k2 := k1.trans (b2.mono k1.size)
  have HC2 := Lib.hid (HC1.out.keep b2 (Nat.le_refl _))
  have HA2 := Lib.hid (HA1.out.keep b2 (Nat.le_refl _))
  clear hf2 b2 k1 HM1 HC1 HA1 m1 m2 m3 m4 m5 m6 m7 hlt1
  go_wp2_with fail
  refine (clone_idx A a l w2 HA2.out HNA.out hal).mono ?_
  rintro e w3 ⟨A3, c3, rfl, hF3, hn3, b3⟩
  have HF3 := Lib.hid hF3
  have HM3 := Lib.hid (HM2.out.keep b3)
  have hg3 := HM3.out.2.1
  have k3 := k2.trans (b3.mono k2.size)
  have hB3 := b3.size
  have hd := delete_any A3 c3 l s.col w.heap.size w2.heap.size w3 hF3 hal hg3 (by omega) hB3
  rw [HKM.out] at hd
  clear hF3 hn3 b3 HM2 HC2 HA2 n1 n2 n3 n4 n5 n6 n7
  go_wp2_with fail
  refine hd.mono ?_
  rintro e w4 ⟨A4, c4, rfl, hr4, b4⟩
  have HR4 := Lib.hid hr4
  have hM4 : OfMem w4 w.heap.size s.kind s.col s.set := by
    obtain ⟨a1, a2, a3, a4, a5, a6, a7⟩ := HM3.out
    have h0 : w.heap.size < w2.heap.size := by omega
    exact ⟨kd b4 h0 a1, kd b4 h0 a2, kd b4 h0 a3, kd b4 hlt2 a4, kd b4 hlt2 a5, (b4.frozen (p := ⟨w.heap.size + 1, 0, none⟩) hlt2).trans a6, (b4.frozen (p := ⟨w.heap.size + 1, 1, none⟩) hlt2).trans a7⟩
  have k4 := k3.trans (b4.mono k2.size)
  have HM4 := Lib.hid hM4
  have hlt4 := hM4.lt
  obtain ⟨m1, m2, m3, m4, m5, m6, m7⟩ := HM4.out
  clear hd hr4 b4 k3 HM3 HF3 hg3 hM4
  go_wp2_with fail
  refine bodyPost_ret (v := .tuple #[.agg #[.int .i64 1, .string ⟨#[]⟩], .int .i64 0]) (by simp [results, Try.results31, go_sem, m4, m5]) rfl ⟨rfl, (k4.setCell (by show w.heap.size ≤ w.heap.size + 1; omega) _).setCell (by show w.heap.size ≤ w.heap.size + 1; omega) _⟩
set_option maxRecDepth 100000 in
set_option maxHeartbeats 2000000 in
theorem of_some5 (s : Stm) (C : Option Addr) (c : Nat) (cols : List Col) (A : Option Addr) (a : Nat) (l : List Idx) (w : World) (hc : RdC w C cols) (ha : RdI w A l) (hnA : A = none → a = 0) (hcl : cols.length ≤ 1000) (hal : l.length ≤ 1000) (hk : s.kind = 5) (hz : ¬ findV s.col cols 0 < 0) (hy : ¬ findV s.set cols 0 < 0) (x0 : Idx) (l' : List Idx) (hkm : keepL s.col l = x0 :: l') :
    Calls Try.prog 31 #[sv s, .slice C cols.length c, .slice A l.length a] w fun e w' => e = .returned (.tuple #[.agg #[.int .i64 2, .string (minTo x0 l' l'.length).name], .int .i64 0]) ∧ Below w.heap.size w w' := by
  have hst := run_sf
  have hm := OfMem.start w s 49
  have b0 : Below w.heap.size w ((w.alloc (.cells s.a 45)).alloc (.cells #[.int .i64 0, .string ⟨#[]⟩] 49)) := ((Below.refl _ _).alloc (Nat.le_refl _) _).alloc (by simp) _
  have HM := Lib.hid hm
  have HC0 := Lib.hid (hc.keep b0 (Nat.le_refl _))
  have HA0 := Lib.hid (ha.keep b0 (Nat.le_refl _))
  have HNA := Lib.hid hnA
  have t9 : (s.kind == 9) = false := by rw [beq_eq_false_iff_ne]; omega
  have t5 : (s.kind == 5) = true := by rw [beq_iff_eq]; omega
  have t7 : (s.kind == 7) = false := by rw [beq_eq_false_iff_ne]; omega
  have t6 : (s.kind == 6) = false := by rw [beq_eq_false_iff_ne]; omega
  have t8 : (s.kind == 8) = false := by rw [beq_eq_false_iff_ne]; omega
  clear hk
  have HKM := Lib.hid hkm
  have HAL := Lib.hid hal
  clear hkm
  clear hc ha hnA hm
  go_enter Try.func31, Try.ntmps31
  go_wp2_with fail
  have hf := find_any C c cols s.col _ HC0.out hcl
  generalize findV s.col cols 0 = z at *
  have tz : decide (z < 0) = false := decide_eq_false (by omega)
  clear hz
  refine hf.mono ?_
  rintro e w1 ⟨rfl, b1⟩
  obtain ⟨m1, m2, m3, m4, m5, m6, m7⟩ := HM.out.keep b1
  have HM1 := Lib.hid (HM.out.keep b1)
  have hlt1 := HM1.out.lt
  have k1 := b0.trans (b1.mono b0.size)
  have HC1 := Lib.hid (HC0.out.keep b1 (Nat.le_refl _))
  have HA1 := Lib.hid (HA0.out.keep b1 (Nat.le_refl _))
  clear hf b0 b1 HM HC0 HA0
  go_wp2_with fail
  have hf2 := find_any C c cols s.set w1 HC1.out hcl
  generalize findV s.set cols 0 = y at *
  have ty : decide (y < 0) = false := decide_eq_false (by omega)
  clear hy
  refine hf2.mono ?_
  rintro e w2 ⟨rfl, b2⟩
  obtain ⟨n1, n2, n3, n4, n5, n6, n7⟩ := HM1.out.keep b2
  have HM2 := Lib.hid (HM1.out.keep b2)
  have hlt2 := HM2.out.lt
  have k2 := k1.trans (b2.mono k1.size)
  have HC2 := Lib.hid (HC1.out.keep b2 (Nat.le_refl _))
  have HA2 := Lib.hid (HA1.out.keep b2 (Nat.le_refl _))
  clear hf2 b2 k1 HM1 HC1 HA1 m1 m2 m3 m4 m5 m6 m7 hlt1
  go_wp2_with fail
  refine (clone_idx A a l w2 HA2.out HNA.out hal).mono ?_
  rintro e w3 ⟨A3, c3, rfl, hF3, hn3, b3⟩
  have HF3 := Lib.hid hF3
  have HM3 := Lib.hid (HM2.out.keep b3)
  have hg3 := HM3.out.2.1
  have k3 := k2.trans (b3.mono k2.size)
  have hB3 := b3.size
  have hd := delete_any A3 c3 l s.col w.heap.size w2.heap.size w3 hF3 hal hg3 (by omega) hB3
  rw [HKM.out] at hd
  clear hF3 hn3 b3 HM2 HC2 HA2 n1 n2 n3 n4 n5 n6 n7
  go_wp2_with fail
  refine hd.mono ?_
  rintro e w4 ⟨A4, c4, rfl, hr4, b4⟩
  have HR4 := Lib.hid hr4
  have hM4 : OfMem w4 w.heap.size s.kind s.col s.set := by
    obtain ⟨a1, a2, a3, a4, a5, a6, a7⟩ := HM3.out
    have h0 : w.heap.size < w2.heap.size := by omega
    exact ⟨kd b4 h0 a1, kd b4 h0 a2, kd b4 h0 a3, kd b4 hlt2 a4, kd b4 hlt2 a5, (b4.frozen (p := ⟨w.heap.size + 1, 0, none⟩) hlt2).trans a6, (b4.frozen (p := ⟨w.heap.size + 1, 1, none⟩) hlt2).trans a7⟩
  have k4 := k3.trans (b4.mono k2.size)
  have HM4 := Lib.hid hM4
  have hlt4 := hM4.lt
  obtain ⟨m1, m2, m3, m4, m5, m6, m7⟩ := HM4.out
  clear hd hr4 b4 k3 HM3 HF3 hg3 hM4
  have hml : l'.length + 1 ≤ 1000 := by
    have h1 : (keepL s.col l).length ≤ l.length := List.length_filter_le _ _
    rw [HKM.out] at h1
    have := HAL.out
    simp at h1
    omega
  have te : ((l'.length : Int) + 1 == 0) = false := by rw [beq_eq_false_iff_ne]; omega
  have te2 : (((l'.length + 1 : Nat) : Int) == 0) = false := by rw [beq_eq_false_iff_ne]; omega
  go_wp2_with fail
  have hfld := fld60
  refine (min_any A4 c4 x0 l' w4 HR4.out (by omega)).mono ?_
  rintro e w5 ⟨rfl, b5⟩
  have HM5 := Lib.hid (HM4.out.keep b5)
  have hlt5 := HM5.out.lt
  have hlt6 : w.heap.size < w5.heap.size := by omega
  have k5 := k4.trans (b5.mono k4.size)
  clear b5 k4 HM4 HR4 m1 m2 m3 m4 m5 m6 m7
  obtain ⟨m1, m2, m3, m4, m5, m6, m7⟩ := HM5.out
  go_wp2_with fail
  obtain ⟨r0, r1⟩ := res_cells w5 (w.heap.size + 1) (.int .i64 2) (.string (minTo x0 l' l'.length).name) _ _ m4 m5 (.cells #[.int .i64 2, .string (minTo x0 l' l'.length).name] 49)
  have hfin := (k5.setCell (p := ⟨w.heap.size + 1, 0, none⟩) (show w.heap.size ≤ w.heap.size + 1 by omega) (.int .i64 2)).setCell (p := ⟨w.heap.size + 1, 1, none⟩) (show w.heap.size ≤ w.heap.size + 1 by omega) (.string (minTo x0 l' l'.length).name)
  refine bodyPost_ret (v := .tuple #[.agg #[.int .i64 2, .string (minTo x0 l' l'.length).name], .int .i64 0]) (by simp [results, Try.results31, go_sem, r0, r1]) rfl ⟨rfl, hfin.alloc hfin.size _⟩
set_option maxRecDepth 100000 in
set_option maxHeartbeats 2000000 in
theorem of_none7 (s : Stm) (C : Option Addr) (c : Nat) (cols : List Col) (A : Option Addr) (a : Nat) (l : List Idx) (w : World) (hc : RdC w C cols) (ha : RdI w A l) (hnA : A = none → a = 0) (hcl : cols.length ≤ 1000) (hal : l.length ≤ 1000) (hk : s.kind = 7) (hz : ¬ findV s.col cols 0 < 0) (hkm : keepL s.col l = []) :
    Calls Try.prog 31 #[sv s, .slice C cols.length c, .slice A l.length a] w fun e w' => e = .returned (.tuple #[.agg #[.int .i64 1, .string ⟨#[]⟩], .int .i64 0]) ∧ Below w.heap.size w w' := by
  have hst := run_sf
  have hm := OfMem.start w s 49
  have b0 : Below w.heap.size w ((w.alloc (.cells s.a 45)).alloc (.cells #[.int .i64 0, .string ⟨#[]⟩] 49)) := ((Below.refl _ _).alloc (Nat.le_refl _) _).alloc (by simp) _
  have HM := Lib.hid hm
  have HC0 := Lib.hid (hc.keep b0 (Nat.le_refl _))
  have HA0 := Lib.hid (ha.keep b0 (Nat.le_refl _))
  have HNA := Lib.hid hnA
  have t9 : (s.kind == 9) = false := by rw [beq_eq_false_iff_ne]; omega
  have t5 : (s.kind == 5) = false := by rw [beq_eq_false_iff_ne]; omega
  have t7 : (s.kind == 7) = true := by rw [beq_iff_eq]; omega
  have t6 : (s.kind == 6) = false := by rw [beq_eq_false_iff_ne]; omega
  have t8 : (s.kind == 8) = false := by rw [beq_eq_false_iff_ne]; omega
  clear hk
  have HKM := Lib.hid hkm
  have HAL := Lib.hid hal
  clear hkm
  clear hc ha hnA hm
  go_enter Try.func31, Try.ntmps31
  go_wp2_with fail
  have hf := find_any C c cols s.col _ HC0.out hcl
  generalize findV s.col cols 0 = z at *
  have tz : decide (z < 0) = false := decide_eq_false (by omega)
  clear hz
  refine hf.mono ?_
  rintro e w1 ⟨rfl, b1⟩
  obtain ⟨m1, m2, m3, m4, m5, m6, m7⟩ := HM.out.keep b1
  have HM1 := Lib.hid (HM.out.keep b1)
  have hlt1 := HM1.out.lt
  have k1 := b0.trans (b1.mono b0.size)
  have HC1 := Lib.hid (HC0.out.keep b1 (Nat.le_refl _))
  have HA1 := Lib.hid (HA0.out.keep b1 (Nat.le_refl _))
  clear hf b0 b1 HM HC0 HA0
  go_wp2_with fail
  refine (clone_idx A a l w1 HA1.out HNA.out hal).mono ?_
  rintro e w3 ⟨A3, c3, rfl, hF3, hn3, b3⟩
  have HF3 := Lib.hid hF3
  have HM3 := Lib.hid (HM1.out.keep b3)
  have hg3 := HM3.out.2.1
  have k3 := k1.trans (b3.mono k1.size)
  have hB3 := b3.size
  have hd := delete_any A3 c3 l s.col w.heap.size w1.heap.size w3 hF3 hal hg3 (by omega) hB3
  rw [HKM.out] at hd
  clear hF3 hn3 b3 HM1 HC1 HA1 m1 m2 m3 m4 m5 m6 m7
  go_wp2_with fail
  refine hd.mono ?_
  rintro e w4 ⟨A4, c4, rfl, hr4, b4⟩
  have HR4 := Lib.hid hr4
  have hM4 : OfMem w4 w.heap.size s.kind s.col s.set := by
    obtain ⟨a1, a2, a3, a4, a5, a6, a7⟩ := HM3.out
    have h0 : w.heap.size < w1.heap.size := by omega
    exact ⟨kd b4 h0 a1, kd b4 h0 a2, kd b4 h0 a3, kd b4 hlt1 a4, kd b4 hlt1 a5, (b4.frozen (p := ⟨w.heap.size + 1, 0, none⟩) hlt1).trans a6, (b4.frozen (p := ⟨w.heap.size + 1, 1, none⟩) hlt1).trans a7⟩
  have k4 := k3.trans (b4.mono k1.size)
  have HM4 := Lib.hid hM4
  have hlt4 := hM4.lt
  obtain ⟨m1, m2, m3, m4, m5, m6, m7⟩ := HM4.out
  clear hd hr4 b4 k3 HM3 HF3 hg3 hM4
  go_wp2_with fail
  refine bodyPost_ret (v := .tuple #[.agg #[.int .i64 1, .string ⟨#[]⟩], .int .i64 0]) (by simp [results, Try.results31, go_sem, m4, m5]) rfl ⟨rfl, (k4.setCell (by show w.heap.size ≤ w.heap.size + 1; omega) _).setCell (by show w.heap.size ≤ w.heap.size + 1; omega) _⟩
set_option maxRecDepth 100000 in
set_option maxHeartbeats 2000000 in
theorem of_some7 (s : Stm) (C : Option Addr) (c : Nat) (cols : List Col) (A : Option Addr) (a : Nat) (l : List Idx) (w : World) (hc : RdC w C cols) (ha : RdI w A l) (hnA : A = none → a = 0) (hcl : cols.length ≤ 1000) (hal : l.length ≤ 1000) (hk : s.kind = 7) (hz : ¬ findV s.col cols 0 < 0) (x0 : Idx) (l' : List Idx) (hkm : keepL s.col l = x0 :: l') :
    Calls Try.prog 31 #[sv s, .slice C cols.length c, .slice A l.length a] w fun e w' => e = .returned (.tuple #[.agg #[.int .i64 2, .string (minTo x0 l' l'.length).name], .int .i64 0]) ∧ Below w.heap.size w w' := by
  have hst := run_sf
  have hm := OfMem.start w s 49
  have b0 : Below w.heap.size w ((w.alloc (.cells s.a 45)).alloc (.cells #[.int .i64 0, .string ⟨#[]⟩] 49)) := ((Below.refl _ _).alloc (Nat.le_refl _) _).alloc (by simp) _
  have HM := Lib.hid hm
  have HC0 := Lib.hid (hc.keep b0 (Nat.le_refl _))
  have HA0 := Lib.hid (ha.keep b0 (Nat.le_refl _))
  have HNA := Lib.hid hnA
  have t9 : (s.kind == 9) = false := by rw [beq_eq_false_iff_ne]; omega
  have t5 : (s.kind == 5) = false := by rw [beq_eq_false_iff_ne]; omega
  have t7 : (s.kind == 7) = true := by rw [beq_iff_eq]; omega
  have t6 : (s.kind == 6) = false := by rw [beq_eq_false_iff_ne]; omega
  have t8 : (s.kind == 8) = false := by rw [beq_eq_false_iff_ne]; omega
  clear hk
  have HKM := Lib.hid hkm
  have HAL := Lib.hid hal
  clear hkm
  clear hc ha hnA hm
  go_enter Try.func31, Try.ntmps31
  go_wp2_with fail
  have hf := find_any C c cols s.col _ HC0.out hcl
  generalize findV s.col cols 0 = z at *
  have tz : decide (z < 0) = false := decide_eq_false (by omega)
  clear hz
  refine hf.mono ?_
  rintro e w1 ⟨rfl, b1⟩
  obtain ⟨m1, m2, m3, m4, m5, m6, m7⟩ := HM.out.keep b1
  have HM1 := Lib.hid (HM.out.keep b1)
  have hlt1 := HM1.out.lt
  have k1 := b0.trans (b1.mono b0.size)
  have HC1 := Lib.hid (HC0.out.keep b1 (Nat.le_refl _))
  have HA1 := Lib.hid (HA0.out.keep b1 (Nat.le_refl _))
  clear hf b0 b1 HM HC0 HA0
  go_wp2_with fail
  refine (clone_idx A a l w1 HA1.out HNA.out hal).mono ?_
  rintro e w3 ⟨A3, c3, rfl, hF3, hn3, b3⟩
  have HF3 := Lib.hid hF3
  have HM3 := Lib.hid (HM1.out.keep b3)
  have hg3 := HM3.out.2.1
  have k3 := k1.trans (b3.mono k1.size)
  have hB3 := b3.size
  have hd := delete_any A3 c3 l s.col w.heap.size w1.heap.size w3 hF3 hal hg3 (by omega) hB3
  rw [HKM.out] at hd
  clear hF3 hn3 b3 HM1 HC1 HA1 m1 m2 m3 m4 m5 m6 m7
  go_wp2_with fail
  refine hd.mono ?_
  rintro e w4 ⟨A4, c4, rfl, hr4, b4⟩
  have HR4 := Lib.hid hr4
  have hM4 : OfMem w4 w.heap.size s.kind s.col s.set := by
    obtain ⟨a1, a2, a3, a4, a5, a6, a7⟩ := HM3.out
    have h0 : w.heap.size < w1.heap.size := by omega
    exact ⟨kd b4 h0 a1, kd b4 h0 a2, kd b4 h0 a3, kd b4 hlt1 a4, kd b4 hlt1 a5, (b4.frozen (p := ⟨w.heap.size + 1, 0, none⟩) hlt1).trans a6, (b4.frozen (p := ⟨w.heap.size + 1, 1, none⟩) hlt1).trans a7⟩
  have k4 := k3.trans (b4.mono k1.size)
  have HM4 := Lib.hid hM4
  have hlt4 := hM4.lt
  obtain ⟨m1, m2, m3, m4, m5, m6, m7⟩ := HM4.out
  clear hd hr4 b4 k3 HM3 HF3 hg3 hM4
  have hml : l'.length + 1 ≤ 1000 := by
    have h1 : (keepL s.col l).length ≤ l.length := List.length_filter_le _ _
    rw [HKM.out] at h1
    have := HAL.out
    simp at h1
    omega
  have te : ((l'.length : Int) + 1 == 0) = false := by rw [beq_eq_false_iff_ne]; omega
  have te2 : (((l'.length + 1 : Nat) : Int) == 0) = false := by rw [beq_eq_false_iff_ne]; omega
  go_wp2_with fail
  have hfld := fld60
  refine (min_any A4 c4 x0 l' w4 HR4.out (by omega)).mono ?_
  rintro e w5 ⟨rfl, b5⟩
  have HM5 := Lib.hid (HM4.out.keep b5)
  have hlt5 := HM5.out.lt
  have hlt6 : w.heap.size < w5.heap.size := by omega
  have k5 := k4.trans (b5.mono k4.size)
  clear b5 k4 HM4 HR4 m1 m2 m3 m4 m5 m6 m7
  obtain ⟨m1, m2, m3, m4, m5, m6, m7⟩ := HM5.out
  go_wp2_with fail
  obtain ⟨r0, r1⟩ := res_cells w5 (w.heap.size + 1) (.int .i64 2) (.string (minTo x0 l' l'.length).name) _ _ m4 m5 (.cells #[.int .i64 2, .string (minTo x0 l' l'.length).name] 49)
  have hfin := (k5.setCell (p := ⟨w.heap.size + 1, 0, none⟩) (show w.heap.size ≤ w.heap.size + 1 by omega) (.int .i64 2)).setCell (p := ⟨w.heap.size + 1, 1, none⟩) (show w.heap.size ≤ w.heap.size + 1 by omega) (.string (minTo x0 l' l'.length).name)
  refine bodyPost_ret (v := .tuple #[.agg #[.int .i64 2, .string (minTo x0 l' l'.length).name], .int .i64 0]) (by simp [results, Try.results31, go_sem, r0, r1]) rfl ⟨rfl, hfin.alloc hfin.size _⟩
set_option maxRecDepth 100000 in
set_option maxHeartbeats 2000000 in
theorem of_none6 (s : Stm) (C : Option Addr) (c : Nat) (cols : List Col) (A : Option Addr) (a : Nat) (l : List Idx) (w : World) (hc : RdC w C cols) (ha : RdI w A l) (hnA : A = none → a = 0) (hcl : cols.length ≤ 1000) (hal : l.length ≤ 1000) (hk : s.kind = 6) (hz : ¬ findV s.col cols 0 < 0) (hkm : keepL s.col l = []) :
    Calls Try.prog 31 #[sv s, .slice C cols.length c, .slice A l.length a] w fun e w' => e = .returned (.tuple #[.agg #[.int .i64 1, .string ⟨#[]⟩], .int .i64 0]) ∧ Below w.heap.size w w' := by
  have hst := run_sf
  have hm := OfMem.start w s 49
  have b0 : Below w.heap.size w ((w.alloc (.cells s.a 45)).alloc (.cells #[.int .i64 0, .string ⟨#[]⟩] 49)) := ((Below.refl _ _).alloc (Nat.le_refl _) _).alloc (by simp) _
  have HM := Lib.hid hm
  have HC0 := Lib.hid (hc.keep b0 (Nat.le_refl _))
  have HA0 := Lib.hid (ha.keep b0 (Nat.le_refl _))
  have HNA := Lib.hid hnA
  have t9 : (s.kind == 9) = false := by rw [beq_eq_false_iff_ne]; omega
  have t5 : (s.kind == 5) = false := by rw [beq_eq_false_iff_ne]; omega
  have t7 : (s.kind == 7) = false := by rw [beq_eq_false_iff_ne]; omega
  have t6 : (s.kind == 6) = true := by rw [beq_iff_eq]; omega
  have t8 : (s.kind == 8) = false := by rw [beq_eq_false_iff_ne]; omega
  clear hk
  have HKM := Lib.hid hkm
  have HAL := Lib.hid hal
  clear hkm
  clear hc ha hnA hm
  go_enter Try.func31, Try.ntmps31
  go_wp2_with fail
  have hf := find_any C c cols s.col _ HC0.out hcl
  generalize findV s.col cols 0 = z at *
  have tz : decide (z < 0) = false := decide_eq_false (by omega)
  clear hz
  refine hf.mono ?_
  rintro e w1 ⟨rfl, b1⟩
  obtain ⟨m1, m2, m3, m4, m5, m6, m7⟩ := HM.out.keep b1
  have HM1 := Lib.hid (HM.out.keep b1)
  have hlt1 := HM1.out.lt
  have k1 := b0.trans (b1.mono b0.size)
  have HC1 := Lib.hid (HC0.out.keep b1 (Nat.le_refl _))
  have HA1 := Lib.hid (HA0.out.keep b1 (Nat.le_refl _))
  clear hf b0 b1 HM HC0 HA0
  go_wp2_with fail
  refine (clone_idx A a l w1 HA1.out HNA.out hal).mono ?_
  rintro e w3 ⟨A3, c3, rfl, hF3, hn3, b3⟩
  have HF3 := Lib.hid hF3
  have HM3 := Lib.hid (HM1.out.keep b3)
  have hg3 := HM3.out.2.1
  have k3 := k1.trans (b3.mono k1.size)
  have hB3 := b3.size
  have hd := delete_any A3 c3 l s.col w.heap.size w1.heap.size w3 hF3 hal hg3 (by omega) hB3
  rw [HKM.out] at hd
  clear hF3 hn3 b3 HM1 HC1 HA1 m1 m2 m3 m4 m5 m6 m7
  go_wp2_with fail
  refine hd.mono ?_
  rintro e w4 ⟨A4, c4, rfl, hr4, b4⟩
  have HR4 := Lib.hid hr4
  have hM4 : OfMem w4 w.heap.size s.kind s.col s.set := by
    obtain ⟨a1, a2, a3, a4, a5, a6, a7⟩ := HM3.out
    have h0 : w.heap.size < w1.heap.size := by omega
    exact ⟨kd b4 h0 a1, kd b4 h0 a2, kd b4 h0 a3, kd b4 hlt1 a4, kd b4 hlt1 a5, (b4.frozen (p := ⟨w.heap.size + 1, 0, none⟩) hlt1).trans a6, (b4.frozen (p := ⟨w.heap.size + 1, 1, none⟩) hlt1).trans a7⟩
  have k4 := k3.trans (b4.mono k1.size)
  have HM4 := Lib.hid hM4
  have hlt4 := hM4.lt
  obtain ⟨m1, m2, m3, m4, m5, m6, m7⟩ := HM4.out
  clear hd hr4 b4 k3 HM3 HF3 hg3 hM4
  go_wp2_with fail
  refine bodyPost_ret (v := .tuple #[.agg #[.int .i64 1, .string ⟨#[]⟩], .int .i64 0]) (by simp [results, Try.results31, go_sem, m4, m5]) rfl ⟨rfl, (k4.setCell (by show w.heap.size ≤ w.heap.size + 1; omega) _).setCell (by show w.heap.size ≤ w.heap.size + 1; omega) _⟩
set_option maxRecDepth 100000 in
set_option maxHeartbeats 2000000 in
theorem of_some6 (s : Stm) (C : Option Addr) (c : Nat) (cols : List Col) (A : Option Addr) (a : Nat) (l : List Idx) (w : World) (hc : RdC w C cols) (ha : RdI w A l) (hnA : A = none → a = 0) (hcl : cols.length ≤ 1000) (hal : l.length ≤ 1000) (hk : s.kind = 6) (hz : ¬ findV s.col cols 0 < 0) (x0 : Idx) (l' : List Idx) (hkm : keepL s.col l = x0 :: l') :
    Calls Try.prog 31 #[sv s, .slice C cols.length c, .slice A l.length a] w fun e w' => e = .returned (.tuple #[.agg #[.int .i64 2, .string (minTo x0 l' l'.length).name], .int .i64 0]) ∧ Below w.heap.size w w' := by
  have hst := run_sf
  have hm := OfMem.start w s 49
  have b0 : Below w.heap.size w ((w.alloc (.cells s.a 45)).alloc (.cells #[.int .i64 0, .string ⟨#[]⟩] 49)) := ((Below.refl _ _).alloc (Nat.le_refl _) _).alloc (by simp) _
  have HM := Lib.hid hm
  have HC0 := Lib.hid (hc.keep b0 (Nat.le_refl _))
  have HA0 := Lib.hid (ha.keep b0 (Nat.le_refl _))
  have HNA := Lib.hid hnA
  have t9 : (s.kind == 9) = false := by rw [beq_eq_false_iff_ne]; omega
  have t5 : (s.kind == 5) = false := by rw [beq_eq_false_iff_ne]; omega
  have t7 : (s.kind == 7) = false := by rw [beq_eq_false_iff_ne]; omega
  have t6 : (s.kind == 6) = true := by rw [beq_iff_eq]; omega
  have t8 : (s.kind == 8) = false := by rw [beq_eq_false_iff_ne]; omega
  clear hk
  have HKM := Lib.hid hkm
  have HAL := Lib.hid hal
  clear hkm
  clear hc ha hnA hm
  go_enter Try.func31, Try.ntmps31
  go_wp2_with fail
  have hf := find_any C c cols s.col _ HC0.out hcl
  generalize findV s.col cols 0 = z at *
  have tz : decide (z < 0) = false := decide_eq_false (by omega)
  clear hz
  refine hf.mono ?_
  rintro e w1 ⟨rfl, b1⟩
  obtain ⟨m1, m2, m3, m4, m5, m6, m7⟩ := HM.out.keep b1
  have HM1 := Lib.hid (HM.out.keep b1)
  have hlt1 := HM1.out.lt
  have k1 := b0.trans (b1.mono b0.size)
  have HC1 := Lib.hid (HC0.out.keep b1 (Nat.le_refl _))
  have HA1 := Lib.hid (HA0.out.keep b1 (Nat.le_refl _))
  clear hf b0 b1 HM HC0 HA0
  go_wp2_with fail
  refine (clone_idx A a l w1 HA1.out HNA.out hal).mono ?_
  rintro e w3 ⟨A3, c3, rfl, hF3, hn3, b3⟩
  have HF3 := Lib.hid hF3
  have HM3 := Lib.hid (HM1.out.keep b3)
  have hg3 := HM3.out.2.1
  have k3 := k1.trans (b3.mono k1.size)
  have hB3 := b3.size
  have hd := delete_any A3 c3 l s.col w.heap.size w1.heap.size w3 hF3 hal hg3 (by omega) hB3
  rw [HKM.out] at hd
  clear hF3 hn3 b3 HM1 HC1 HA1 m1 m2 m3 m4 m5 m6 m7
  go_wp2_with fail
  refine hd.mono ?_
  rintro e w4 ⟨A4, c4, rfl, hr4, b4⟩
  have HR4 := Lib.hid hr4
  have hM4 : OfMem w4 w.heap.size s.kind s.col s.set := by
    obtain ⟨a1, a2, a3, a4, a5, a6, a7⟩ := HM3.out
    have h0 : w.heap.size < w1.heap.size := by omega
    exact ⟨kd b4 h0 a1, kd b4 h0 a2, kd b4 h0 a3, kd b4 hlt1 a4, kd b4 hlt1 a5, (b4.frozen (p := ⟨w.heap.size + 1, 0, none⟩) hlt1).trans a6, (b4.frozen (p := ⟨w.heap.size + 1, 1, none⟩) hlt1).trans a7⟩
  have k4 := k3.trans (b4.mono k1.size)
  have HM4 := Lib.hid hM4
  have hlt4 := hM4.lt
  obtain ⟨m1, m2, m3, m4, m5, m6, m7⟩ := HM4.out
  clear hd hr4 b4 k3 HM3 HF3 hg3 hM4
  have hml : l'.length + 1 ≤ 1000 := by
    have h1 : (keepL s.col l).length ≤ l.length := List.length_filter_le _ _
    rw [HKM.out] at h1
    have := HAL.out
    simp at h1
    omega
  have te : ((l'.length : Int) + 1 == 0) = false := by rw [beq_eq_false_iff_ne]; omega
  have te2 : (((l'.length + 1 : Nat) : Int) == 0) = false := by rw [beq_eq_false_iff_ne]; omega
  go_wp2_with fail
  have hfld := fld60
  refine (min_any A4 c4 x0 l' w4 HR4.out (by omega)).mono ?_
  rintro e w5 ⟨rfl, b5⟩
  have HM5 := Lib.hid (HM4.out.keep b5)
  have hlt5 := HM5.out.lt
  have hlt6 : w.heap.size < w5.heap.size := by omega
  have k5 := k4.trans (b5.mono k4.size)
  clear b5 k4 HM4 HR4 m1 m2 m3 m4 m5 m6 m7
  obtain ⟨m1, m2, m3, m4, m5, m6, m7⟩ := HM5.out
  go_wp2_with fail
  obtain ⟨r0, r1⟩ := res_cells w5 (w.heap.size + 1) (.int .i64 2) (.string (minTo x0 l' l'.length).name) _ _ m4 m5 (.cells #[.int .i64 2, .string (minTo x0 l' l'.length).name] 49)
  have hfin := (k5.setCell (p := ⟨w.heap.size + 1, 0, none⟩) (show w.heap.size ≤ w.heap.size + 1 by omega) (.int .i64 2)).setCell (p := ⟨w.heap.size + 1, 1, none⟩) (show w.heap.size ≤ w.heap.size + 1 by omega) (.string (minTo x0 l' l'.length).name)
  refine bodyPost_ret (v := .tuple #[.agg #[.int .i64 2, .string (minTo x0 l' l'.length).name], .int .i64 0]) (by simp [results, Try.results31, go_sem, r0, r1]) rfl ⟨rfl, hfin.alloc hfin.size _⟩
set_option maxRecDepth 100000 in
set_option maxHeartbeats 2000000 in
theorem of_none8 (s : Stm) (C : Option Addr) (c : Nat) (cols : List Col) (A : Option Addr) (a : Nat) (l : List Idx) (w : World) (hc : RdC w C cols) (ha : RdI w A l) (hnA : A = none → a = 0) (hcl : cols.length ≤ 1000) (hal : l.length ≤ 1000) (hk : s.kind = 8) (hz : ¬ findV s.col cols 0 < 0) (hkm : keepL s.col l = []) :
    Calls Try.prog 31 #[sv s, .slice C cols.length c, .slice A l.length a] w fun e w' => e = .returned (.tuple #[.agg #[.int .i64 1, .string ⟨#[]⟩], .int .i64 0]) ∧ Below w.heap.size w w' := by
  have hst := run_sf
  have hm := OfMem.start w s 49
  have b0 : Below w.heap.size w ((w.alloc (.cells s.a 45)).alloc (.cells #[.int .i64 0, .string ⟨#[]⟩] 49)) := ((Below.refl _ _).alloc (Nat.le_refl _) _).alloc (by simp) _
  have HM := Lib.hid hm
  have HC0 := Lib.hid (hc.keep b0 (Nat.le_refl _))
  have HA0 := Lib.hid (ha.keep b0 (Nat.le_refl _))
  have HNA := Lib.hid hnA
  have t9 : (s.kind == 9) = false := by rw [beq_eq_false_iff_ne]; omega
  have t5 : (s.kind == 5) = false := by rw [beq_eq_false_iff_ne]; omega
  have t7 : (s.kind == 7) = false := by rw [beq_eq_false_iff_ne]; omega
  have t6 : (s.kind == 6) = false := by rw [beq_eq_false_iff_ne]; omega
  have t8 : (s.kind == 8) = true := by rw [beq_iff_eq]; omega
  clear hk
  have HKM := Lib.hid hkm
  have HAL := Lib.hid hal
  clear hkm
  clear hc ha hnA hm
  go_enter Try.func31, Try.ntmps31
  go_wp2_with fail
  have hf := find_any C c cols s.col _ HC0.out hcl
  generalize findV s.col cols 0 = z at *
  have tz : decide (z < 0) = false := decide_eq_false (by omega)
  clear hz
  refine hf.mono ?_
  rintro e w1 ⟨rfl, b1⟩
  obtain ⟨m1, m2, m3, m4, m5, m6, m7⟩ := HM.out.keep b1
  have HM1 := Lib.hid (HM.out.keep b1)
  have hlt1 := HM1.out.lt
  have k1 := b0.trans (b1.mono b0.size)
  have HC1 := Lib.hid (HC0.out.keep b1 (Nat.le_refl _))
  have HA1 := Lib.hid (HA0.out.keep b1 (Nat.le_refl _))
  clear hf b0 b1 HM HC0 HA0
  go_wp2_with fail
  refine (clone_idx A a l w1 HA1.out HNA.out hal).mono ?_
  rintro e w3 ⟨A3, c3, rfl, hF3, hn3, b3⟩
  have HF3 := Lib.hid hF3
  have HM3 := Lib.hid (HM1.out.keep b3)
  have hg3 := HM3.out.2.1
  have k3 := k1.trans (b3.mono k1.size)
  have hB3 := b3.size
  have hd := delete_any A3 c3 l s.col w.heap.size w1.heap.size w3 hF3 hal hg3 (by omega) hB3
  rw [HKM.out] at hd
  clear hF3 hn3 b3 HM1 HC1 HA1 m1 m2 m3 m4 m5 m6 m7
  go_wp2_with fail
  refine hd.mono ?_
  rintro e w4 ⟨A4, c4, rfl, hr4, b4⟩
  have HR4 := Lib.hid hr4
  have hM4 : OfMem w4 w.heap.size s.kind s.col s.set := by
    obtain ⟨a1, a2, a3, a4, a5, a6, a7⟩ := HM3.out
    have h0 : w.heap.size < w1.heap.size := by omega
    exact ⟨kd b4 h0 a1, kd b4 h0 a2, kd b4 h0 a3, kd b4 hlt1 a4, kd b4 hlt1 a5, (b4.frozen (p := ⟨w.heap.size + 1, 0, none⟩) hlt1).trans a6, (b4.frozen (p := ⟨w.heap.size + 1, 1, none⟩) hlt1).trans a7⟩
  have k4 := k3.trans (b4.mono k1.size)
  have HM4 := Lib.hid hM4
  have hlt4 := hM4.lt
  obtain ⟨m1, m2, m3, m4, m5, m6, m7⟩ := HM4.out
  clear hd hr4 b4 k3 HM3 HF3 hg3 hM4
  go_wp2_with fail
  refine bodyPost_ret (v := .tuple #[.agg #[.int .i64 1, .string ⟨#[]⟩], .int .i64 0]) (by simp [results, Try.results31, go_sem, m4, m5]) rfl ⟨rfl, (k4.setCell (by show w.heap.size ≤ w.heap.size + 1; omega) _).setCell (by show w.heap.size ≤ w.heap.size + 1; omega) _⟩
set_option maxRecDepth 100000 in
set_option maxHeartbeats 2000000 in
theorem of_some8 (s : Stm) (C : Option Addr) (c : Nat) (cols : List Col) (A : Option Addr) (a : Nat) (l : List Idx) (w : World) (hc : RdC w C cols) (ha : RdI w A l) (hnA : A = none → a = 0) (hcl : cols.length ≤ 1000) (hal : l.length ≤ 1000) (hk : s.kind = 8) (hz : ¬ findV s.col cols 0 < 0) (x0 : Idx) (l' : List Idx) (hkm : keepL s.col l = x0 :: l') :
    Calls Try.prog 31 #[sv s, .slice C cols.length c, .slice A l.length a] w fun e w' => e = .returned (.tuple #[.agg #[.int .i64 3, .string (minTo x0 l' l'.length).name], .int .i64 0]) ∧ Below w.heap.size w w' := by
  have hst := run_sf
  have hm := OfMem.start w s 49
  have b0 : Below w.heap.size w ((w.alloc (.cells s.a 45)).alloc (.cells #[.int .i64 0, .string ⟨#[]⟩] 49)) := ((Below.refl _ _).alloc (Nat.le_refl _) _).alloc (by simp) _
  have HM := Lib.hid hm
  have HC0 := Lib.hid (hc.keep b0 (Nat.le_refl _))
  have HA0 := Lib.hid (ha.keep b0 (Nat.le_refl _))
  have HNA := Lib.hid hnA
  have t9 : (s.kind == 9) = false := by rw [beq_eq_false_iff_ne]; omega
  have t5 : (s.kind == 5) = false := by rw [beq_eq_false_iff_ne]; omega
  have t7 : (s.kind == 7) = false := by rw [beq_eq_false_iff_ne]; omega
  have t6 : (s.kind == 6) = false := by rw [beq_eq_false_iff_ne]; omega
  have t8 : (s.kind == 8) = true := by rw [beq_iff_eq]; omega
  clear hk
  have HKM := Lib.hid hkm
  have HAL := Lib.hid hal
  clear hkm
  clear hc ha hnA hm
  go_enter Try.func31, Try.ntmps31
  go_wp2_with fail
  have hf := find_any C c cols s.col _ HC0.out hcl
  generalize findV s.col cols 0 = z at *
  have tz : decide (z < 0) = false := decide_eq_false (by omega)
  clear hz
  refine hf.mono ?_
  rintro e w1 ⟨rfl, b1⟩
  obtain ⟨m1, m2, m3, m4, m5, m6, m7⟩ := HM.out.keep b1
  have HM1 := Lib.hid (HM.out.keep b1)
  have hlt1 := HM1.out.lt
  have k1 := b0.trans (b1.mono b0.size)
  have HC1 := Lib.hid (HC0.out.keep b1 (Nat.le_refl _))
  have HA1 := Lib.hid (HA0.out.keep b1 (Nat.le_refl _))
  clear hf b0 b1 HM HC0 HA0
  go_wp2_with fail
  refine (clone_idx A a l w1 HA1.out HNA.out hal).mono ?_
  rintro e w3 ⟨A3, c3, rfl, hF3, hn3, b3⟩
  have HF3 := Lib.hid hF3
  have HM3 := Lib.hid (HM1.out.keep b3)
  have hg3 := HM3.out.2.1
  have k3 := k1.trans (b3.mono k1.size)
  have hB3 := b3.size
  have hd := delete_any A3 c3 l s.col w.heap.size w1.heap.size w3 hF3 hal hg3 (by omega) hB3
  rw [HKM.out] at hd
  clear hF3 hn3 b3 HM1 HC1 HA1 m1 m2 m3 m4 m5 m6 m7
  go_wp2_with fail
  refine hd.mono ?_
  rintro e w4 ⟨A4, c4, rfl, hr4, b4⟩
  have HR4 := Lib.hid hr4
  have hM4 : OfMem w4 w.heap.size s.kind s.col s.set := by
    obtain ⟨a1, a2, a3, a4, a5, a6, a7⟩ := HM3.out
    have h0 : w.heap.size < w1.heap.size := by omega
    exact ⟨kd b4 h0 a1, kd b4 h0 a2, kd b4 h0 a3, kd b4 hlt1 a4, kd b4 hlt1 a5, (b4.frozen (p := ⟨w.heap.size + 1, 0, none⟩) hlt1).trans a6, (b4.frozen (p := ⟨w.heap.size + 1, 1, none⟩) hlt1).trans a7⟩
  have k4 := k3.trans (b4.mono k1.size)
  have HM4 := Lib.hid hM4
  have hlt4 := hM4.lt
  obtain ⟨m1, m2, m3, m4, m5, m6, m7⟩ := HM4.out
  clear hd hr4 b4 k3 HM3 HF3 hg3 hM4
  have hml : l'.length + 1 ≤ 1000 := by
    have h1 : (keepL s.col l).length ≤ l.length := List.length_filter_le _ _
    rw [HKM.out] at h1
    have := HAL.out
    simp at h1
    omega
  have te : ((l'.length : Int) + 1 == 0) = false := by rw [beq_eq_false_iff_ne]; omega
  have te2 : (((l'.length + 1 : Nat) : Int) == 0) = false := by rw [beq_eq_false_iff_ne]; omega
  go_wp2_with fail
  have hfld := fld60
  refine (min_any A4 c4 x0 l' w4 HR4.out (by omega)).mono ?_
  rintro e w5 ⟨rfl, b5⟩
  have HM5 := Lib.hid (HM4.out.keep b5)
  have hlt5 := HM5.out.lt
  have hlt6 : w.heap.size < w5.heap.size := by omega
  have k5 := k4.trans (b5.mono k4.size)
  clear b5 k4 HM4 HR4 m1 m2 m3 m4 m5 m6 m7
  obtain ⟨m1, m2, m3, m4, m5, m6, m7⟩ := HM5.out
  go_wp2_with fail
  obtain ⟨r0, r1⟩ := res_cells w5 (w.heap.size + 1) (.int .i64 3) (.string (minTo x0 l' l'.length).name) _ _ m4 m5 (.cells #[.int .i64 3, .string (minTo x0 l' l'.length).name] 49)
  have hfin := (k5.setCell (p := ⟨w.heap.size + 1, 0, none⟩) (show w.heap.size ≤ w.heap.size + 1 by omega) (.int .i64 3)).setCell (p := ⟨w.heap.size + 1, 1, none⟩) (show w.heap.size ≤ w.heap.size + 1 by omega) (.string (minTo x0 l' l'.length).name)
  refine bodyPost_ret (v := .tuple #[.agg #[.int .i64 3, .string (minTo x0 l' l'.length).name], .int .i64 0]) (by simp [results, Try.results31, go_sem, r0, r1]) rfl ⟨rfl, hfin.alloc hfin.size _⟩
end Go.Proofs.Ytobdooojdadgpaa
