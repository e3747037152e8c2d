/- The law ValueBack: what was encoded is decoded as it was, wherever it stands; what was decoded is encoded as it stood. No condition. -/
import Derived.Test.YtmgpecomgffelaaCodO
namespace Go.Proofs.Ytmgpecomgffelaa
open Go.RowKit Go.ChangeShapes Go.WideShapes Go.ChangeAt
set_option linter.unusedVariables false
theorem raw_ok {s : ByteArray} {a : Nat} {v : Val} {m : Nat} (h : rawV s a = some (v, m)) : v.ok := by
  have z1 : (-9223372036854775808 : Int) ≤ 0 := by decide
  have z2 : (0 : Int) < 9223372036854775808 := by decide
  have z3 : 0 < two64 := by decide
  have z : (⟨0, 0, 0, ⟨#[]⟩⟩ : Val).ok := ⟨⟨z1, z2⟩, z3⟩
  unfold rawV at h
  by_cases h0 : sAt s a = 0
  · rw [if_pos h0] at h
    injection h with h; injection h with e1 e2; subst e1
    exact z
  rw [if_neg h0] at h
  by_cases h1 : sAt s a = 1
  · rw [if_pos h1] at h
    split at h
    · injection h with h; injection h with e1 e2; subst e1
      have := sAt_lt s (a + 1)
      exact ⟨⟨by show _ ≤ ((sAt s (a + 1) : Nat) : Int); omega, by show ((sAt s (a + 1) : Nat) : Int) < _; omega⟩, z3⟩
    · exact absurd h (by simp)
  rw [if_neg h1] at h
  by_cases h2 : sAt s a = 2
  · rw [if_pos h2] at h
    split at h
    · injection h with h; injection h with e1 e2; subst e1
      exact ⟨sg_bd _, z3⟩
    · exact absurd h (by simp)
  rw [if_neg h2] at h
  by_cases h3 : sAt s a = 3
  · rw [if_pos h3] at h
    split at h
    · injection h with h; injection h with e1 e2; subst e1
      exact ⟨⟨z1, z2⟩, fromF_lt _ (numB_lt s (a + 1) 8)⟩
    · exact absurd h (by simp)
  rw [if_neg h3] at h
  by_cases h4 : sAt s a = 4
  · rw [if_pos h4] at h
    split at h
    · injection h with h; injection h with e1 e2; subst e1
      exact ⟨⟨z1, z2⟩, z3⟩
    · exact absurd h (by simp)
  · rw [if_neg h4] at h
    exact absurd h (by simp)
theorem got_ok {s : ByteArray} {a : Nat} {v : Val} {n : Nat} (h : gotA s a = some (v, n)) : v.ok := by
  obtain ⟨_, m, _, hr, _⟩ := gotA_some h
  exact raw_ok hr
theorem got_in (v : Val) (hg : gd v = true) (hk : v.ok) (pre post : ByteArray) : gotA (pre ++ ev v ++ post) pre.size = some (v, (ev v).size) := by
  refine got_enc v hg hk.1.1 hk.1.2 hk.2 _ _ (by rw [ByteArray.size_append, ByteArray.size_append]; show pre.size + (ev v).size ≤ _; omega) fun i hi => ?_
  have hi : i < (ev v).size := hi
  rw [sAt_append_left _ _ _ (by rw [ByteArray.size_append]; omega), sAt_append_right]
set_option maxRecDepth 100000 in
theorem back_long_s (v : Val) (s a : ByteArray) (w : World) (h : 20000 < s.size) : Tells Try.prog 22 #[v.v, .string s, .string a] w := by
  unfold Tells
  have hst := run_sf
  have t1 : decide ((20000 : Int) < (s.size : Int)) = true := by rw [decide_eq_true]; omega
  have t2 : decide (20000 < s.size) = true := by rw [decide_eq_true]; omega
  clear h
  obtain ⟨k, n, f, z⟩ := v
  go_enter Try.func22, Try.ntmps22
  go_wp2_with fail
  refine (val_wakes _).mono ?_
  rintro e w1 ⟨rfl, b1⟩
  go_wp2_with fail
  go_ret
  exact ⟨rfl, below_trans ((Below.refl _ _).alloc (Nat.le_refl _) _) b1⟩
set_option maxRecDepth 100000 in
theorem back_long_a (v : Val) (s a : ByteArray) (w : World) (h : ¬ 20000 < s.size) (h2 : 20000 < a.size) : Tells Try.prog 22 #[v.v, .string s, .string a] w := by
  unfold Tells
  have hst := run_sf
  have t1 : decide ((20000 : Int) < (s.size : Int)) = false := by rw [decide_eq_false]; omega
  have t2 : decide (20000 < s.size) = false := by rw [decide_eq_false]; omega
  have t3 : decide ((20000 : Int) < (a.size : Int)) = true := by rw [decide_eq_true]; omega
  have t4 : decide (20000 < a.size) = true := by rw [decide_eq_true]; omega
  clear h2
  clear h
  obtain ⟨k, n, f, z⟩ := v
  go_enter Try.func22, Try.ntmps22
  go_wp2_with fail
  refine (val_wakes _).mono ?_
  rintro e w1 ⟨rfl, b1⟩
  go_wp2_with fail
  go_ret
  exact ⟨rfl, below_trans ((Below.refl _ _).alloc (Nat.le_refl _) _) b1⟩
set_option maxRecDepth 100000 in
theorem back_large (v : Val) (s a : ByteArray) (w : World) (h : ¬ 20000 < s.size) (h2 : ¬ 20000 < a.size) (hv : 2000 < v.s.size) : Tells Try.prog 22 #[v.v, .string s, .string a] w := by
  unfold Tells
  have hst := run_sf
  have t1 : decide ((20000 : Int) < (s.size : Int)) = false := by rw [decide_eq_false]; omega
  have t2 : decide (20000 < s.size) = false := by rw [decide_eq_false]; omega
  have t3 : decide ((20000 : Int) < (a.size : Int)) = false := by rw [decide_eq_false]; omega
  have t4 : decide (20000 < a.size) = false := by rw [decide_eq_false]; omega
  obtain ⟨k, n, f, z⟩ := v
  have HL := Lib.hid (large_value k n f z)
  rw [decide_eq_true hv] at HL
  clear h h2 hv
  go_enter Try.func22, Try.ntmps22
  go_wp2_with fail
  refine (HL.out _).mono ?_
  rintro e w0 ⟨rfl, b0⟩
  go_wp2_with fail
  refine (val_wakes _).mono ?_
  rintro e w1 ⟨rfl, b1⟩
  go_wp2_with fail
  go_ret
  exact ⟨rfl, below_trans (below_trans ((Below.refl _ _).alloc (Nat.le_refl _) _) b0) b1⟩
set_option maxRecDepth 100000 in
set_option maxHeartbeats 1000000 in
theorem back_gs (v : Val) (s a : ByteArray) (w : World) (hok : v.ok) (h : ¬ 20000 < s.size) (h2 : ¬ 20000 < a.size) (hv : ¬ 2000 < v.s.size) (hg : gd v = true) (x : Val) (m : Nat) (ho : gotA s 0 = some (x, m)) : Tells Try.prog 22 #[v.v, .string s, .string a] w := by
  unfold Tells
  have hst := run_sf
  have t1 : decide ((20000 : Int) < (s.size : Int)) = false := by rw [decide_eq_false]; omega
  have t2 : decide (20000 < s.size) = false := by rw [decide_eq_false]; omega
  have t3 : decide ((20000 : Int) < (a.size : Int)) = false := by rw [decide_eq_false]; omega
  have t4 : decide (20000 < a.size) = false := by rw [decide_eq_false]; omega
  have HD := Lib.hid (dec_nat s 0 (by omega))
  have HE := Lib.hid (enc_any v.kind v.n v.f v.s hok.2)
  have eS : encS v.kind v.n v.f v.s = ev v := if_pos hg
  have eE : encE v.kind v.n v.f v.s = 0 := if_pos hg
  rw [eS, eE] at HE
  have hz := ev_size v hg
  have hin := got_in v hg hok a ⟨#[120]⟩
  have HX := Lib.hid (dec_nat (a ++ ev v ++ ⟨#[120]⟩) a.size (by rw [ByteArray.size_append, ByteArray.size_append]; show a.size + (ev v).size + 1 ≤ _; omega))
  rw [hin] at HX
  have g1 : gV (some (v, (ev v).size)) = v := rfl
  have g2 : gN (some (v, (ev v).size)) = (ev v).size := rfl
  rw [g1, g2] at HX
  simp only [Option.isSome_some] at HX
  clear eS eE hin g1 g2
  have HSv := Lib.hid (value_same v.kind v.n v.f v.s)
  generalize ev v = E at *
  have hae : (a ++ E).size ≤ 25000 := by rw [ByteArray.size_append]; omega
  have e5 : ((E.size : Int) == (E.size : Int)) = true := beq_self_eq_true _
  obtain ⟨i1, i2, i3, i4⟩ := enc_got ho
  have iok := got_ok ho
  rw [ho] at HD
  have g3 : gV (some (x, m)) = x := rfl
  have g4 : gN (some (x, m)) = m := rfl
  rw [g3, g4] at HD
  simp only [Option.isSome_some] at HD
  have HE2 := Lib.hid (enc_any x.kind x.n x.f x.s iok.2)
  have jS : encS x.kind x.n x.f x.s = s.extract 0 m := (if_pos i3).trans (by rw [i4, Nat.zero_add])
  have jE : encE x.kind x.n x.f x.s = 0 := if_pos i3
  rw [jS, jE] at HE2
  have hmz : (s.extract 0 m).size = m := by rw [size_extract _ _ _ (by omega)]; omega
  have t5 : decide ((m : Int) ≤ (s.size : Int)) = true := by rw [decide_eq_true]; omega
  have t6 : decide (m ≤ s.size) = true := by rw [decide_eq_true]; omega
  have hm1 : m ≤ s.size := by omega
  have hm2 : (m : Int) ≤ (s.size : Int) := by omega
  have e6 : ((m : Int) == (m : Int)) = true := beq_self_eq_true _
  have e7 : ((s.extract 0 m).toList == (s.extract 0 m).toList) = true := beq_self_eq_true _
  clear i1 i2 i3 i4 iok jS jE g3 g4
  obtain ⟨xk, xn, xf, xs⟩ := x
  obtain ⟨k, n, f, z⟩ := v
  have HL := Lib.hid (large_value k n f z)
  rw [decide_eq_false hv] at HL
  have HV := Lib.hid (RdB.new w ⟨k, n, f, z⟩ 24)
  have hsb : s.size ≤ 20000 := by omega
  have hab : a.size ≤ 20000 := by omega
  clear h h2 hv hok hg ho
  go_enter Try.func22, Try.ntmps22
  go_wp2_with fail
  refine (HL.out _).mono ?_
  rintro e w0 ⟨rfl, b0⟩
  have k0 := below_trans ((Below.refl w.heap.size w).alloc (Nat.le_refl _) _) b0
  have V0 := Lib.hid (HV.out.keep b0)
  obtain ⟨⟨c0, _⟩, ⟨c1, _⟩, ⟨c2, _⟩, ⟨c3, _⟩⟩ := RdB.cells V0.out
  clear b0
  go_wp2_with fail
  refine (HE.out _).mono ?_
  rintro e w1 ⟨rfl, b1⟩
  have k1 := k0.trans (b1.mono k0.size)
  have V1 := Lib.hid (V0.out.keep b1)
  clear c0 c1 c2 c3 b1 V0 k0
  go_wp2_with fail
  refine (HX.out _).mono ?_
  rintro e w2 ⟨rfl, b2⟩
  have k2 := k1.trans (b2.mono k1.size)
  have V2 := Lib.hid (BoxT.alloc (V1.out.keep b2) (.cells (va k n f z) 24))
  obtain ⟨⟨c0, _⟩, ⟨c1, _⟩, ⟨c2, _⟩, ⟨c3, _⟩⟩ := RdB.cells (k := k) (n := n) (f := f) (s := z) V2.out
  have hlt := World.block_lt_of_cell? _ _ (RdB.cells (V1.out.keep b2)).1.1
  have hlt : w.heap.size < w2.heap.size := hlt
  have hn1 : w2.heap.size ≠ w.heap.size := by omega
  have hn2 : w.heap.size ≠ w2.heap.size := by omega
  clear b2 k1 V1 hlt V2
  go_wp2_with fail
  refine (HSv.out _).mono ?_
  rintro e w3 ⟨rfl, b3⟩
  have k3 := (k2.alloc k2.size _).trans (b3.mono (by have := k2.size; simp; omega))
  clear b3 k2 c0 c1 c2 c3 hn1 hn2
  go_wp2_with fail
  refine (HD.out _).mono ?_
  rintro e w4 ⟨rfl, b4⟩
  have k4 := k3.trans (b4.mono k3.size)
  clear b4 k3
  go_wp2_with fail
  refine (HE2.out _).mono ?_
  rintro e w5 ⟨rfl, b5⟩
  have k5 := (k4.alloc k4.size _).trans (b5.mono (by have := k4.size; simp; omega))
  clear b5
  go_wp2_with fail
  refine (val_wakes _).mono ?_
  rintro e w6 ⟨rfl, b6⟩
  have k6 := k5.trans (b6.mono k5.size)
  go_wp2_with fail
  go_ret
  exact ⟨rfl, k6⟩
set_option maxRecDepth 100000 in
set_option maxHeartbeats 1000000 in
theorem back_gn (v : Val) (s a : ByteArray) (w : World) (hok : v.ok) (h : ¬ 20000 < s.size) (h2 : ¬ 20000 < a.size) (hv : ¬ 2000 < v.s.size) (hg : gd v = true) (ho : gotA s 0 = none) : Tells Try.prog 22 #[v.v, .string s, .string a] w := by
  unfold Tells
  have hst := run_sf
  have t1 : decide ((20000 : Int) < (s.size : Int)) = false := by rw [decide_eq_false]; omega
  have t2 : decide (20000 < s.size) = false := by rw [decide_eq_false]; omega
  have t3 : decide ((20000 : Int) < (a.size : Int)) = false := by rw [decide_eq_false]; omega
  have t4 : decide (20000 < a.size) = false := by rw [decide_eq_false]; omega
  have HD := Lib.hid (dec_nat s 0 (by omega))
  have HE := Lib.hid (enc_any v.kind v.n v.f v.s hok.2)
  have eS : encS v.kind v.n v.f v.s = ev v := if_pos hg
  have eE : encE v.kind v.n v.f v.s = 0 := if_pos hg
  rw [eS, eE] at HE
  have hz := ev_size v hg
  have hin := got_in v hg hok a ⟨#[120]⟩
  have HX := Lib.hid (dec_nat (a ++ ev v ++ ⟨#[120]⟩) a.size (by rw [ByteArray.size_append, ByteArray.size_append]; show a.size + (ev v).size + 1 ≤ _; omega))
  rw [hin] at HX
  have g1 : gV (some (v, (ev v).size)) = v := rfl
  have g2 : gN (some (v, (ev v).size)) = (ev v).size := rfl
  rw [g1, g2] at HX
  simp only [Option.isSome_some] at HX
  clear eS eE hin g1 g2
  have HSv := Lib.hid (value_same v.kind v.n v.f v.s)
  generalize ev v = E at *
  have hae : (a ++ E).size ≤ 25000 := by rw [ByteArray.size_append]; omega
  have e5 : ((E.size : Int) == (E.size : Int)) = true := beq_self_eq_true _
  rw [ho] at HD
  have g3 : (gV (none : Option (Val × Nat))).v = vv 0 0 0 ⟨#[]⟩ := rfl
  have g4 : gN (none : Option (Val × Nat)) = 0 := rfl
  rw [g3, g4] at HD
  simp only [Option.isSome_none] at HD
  clear g3 g4
  obtain ⟨k, n, f, z⟩ := v
  have HL := Lib.hid (large_value k n f z)
  rw [decide_eq_false hv] at HL
  have HV := Lib.hid (RdB.new w ⟨k, n, f, z⟩ 24)
  have hsb : s.size ≤ 20000 := by omega
  have hab : a.size ≤ 20000 := by omega
  clear h h2 hv hok hg ho
  go_enter Try.func22, Try.ntmps22
  go_wp2_with fail
  refine (HL.out _).mono ?_
  rintro e w0 ⟨rfl, b0⟩
  have k0 := below_trans ((Below.refl w.heap.size w).alloc (Nat.le_refl _) _) b0
  have V0 := Lib.hid (HV.out.keep b0)
  obtain ⟨⟨c0, _⟩, ⟨c1, _⟩, ⟨c2, _⟩, ⟨c3, _⟩⟩ := RdB.cells V0.out
  clear b0
  go_wp2_with fail
  refine (HE.out _).mono ?_
  rintro e w1 ⟨rfl, b1⟩
  have k1 := k0.trans (b1.mono k0.size)
  have V1 := Lib.hid (V0.out.keep b1)
  clear c0 c1 c2 c3 b1 V0 k0
  go_wp2_with fail
  refine (HX.out _).mono ?_
  rintro e w2 ⟨rfl, b2⟩
  have k2 := k1.trans (b2.mono k1.size)
  have V2 := Lib.hid (BoxT.alloc (V1.out.keep b2) (.cells (va k n f z) 24))
  obtain ⟨⟨c0, _⟩, ⟨c1, _⟩, ⟨c2, _⟩, ⟨c3, _⟩⟩ := RdB.cells (k := k) (n := n) (f := f) (s := z) V2.out
  have hlt := World.block_lt_of_cell? _ _ (RdB.cells (V1.out.keep b2)).1.1
  have hlt : w.heap.size < w2.heap.size := hlt
  have hn1 : w2.heap.size ≠ w.heap.size := by omega
  have hn2 : w.heap.size ≠ w2.heap.size := by omega
  clear b2 k1 V1 hlt V2
  go_wp2_with fail
  refine (HSv.out _).mono ?_
  rintro e w3 ⟨rfl, b3⟩
  have k3 := (k2.alloc k2.size _).trans (b3.mono (by have := k2.size; simp; omega))
  clear b3 k2 c0 c1 c2 c3 hn1 hn2
  go_wp2_with fail
  refine (HD.out _).mono ?_
  rintro e w4 ⟨rfl, b4⟩
  have k4 := k3.trans (b4.mono k3.size)
  clear b4 k3
  go_wp2_with fail
  refine (val_wakes _).mono ?_
  rintro e w6 ⟨rfl, b6⟩
  have k6 := (k4.alloc k4.size _).trans (b6.mono (by have := k4.size; simp; omega))
  go_wp2_with fail
  go_ret
  exact ⟨rfl, k6⟩
set_option maxRecDepth 100000 in
set_option maxHeartbeats 1000000 in
theorem back_bs (v : Val) (s a : ByteArray) (w : World) (hok : v.ok) (h : ¬ 20000 < s.size) (h2 : ¬ 20000 < a.size) (hv : ¬ 2000 < v.s.size) (hg : gd v = false) (x : Val) (m : Nat) (ho : gotA s 0 = some (x, m)) : Tells Try.prog 22 #[v.v, .string s, .string a] w := by
  unfold Tells
  have hst := run_sf
  have t1 : decide ((20000 : Int) < (s.size : Int)) = false := by rw [decide_eq_false]; omega
  have t2 : decide (20000 < s.size) = false := by rw [decide_eq_false]; omega
  have t3 : decide ((20000 : Int) < (a.size : Int)) = false := by rw [decide_eq_false]; omega
  have t4 : decide (20000 < a.size) = false := by rw [decide_eq_false]; omega
  have HD := Lib.hid (dec_nat s 0 (by omega))
  have HE := Lib.hid (enc_any v.kind v.n v.f v.s hok.2)
  have eS : encS v.kind v.n v.f v.s = ⟨#[]⟩ := if_neg (fun h => by rw [show goodV v.kind v.n v.f v.s = _ from hg] at h; exact absurd h (by simp))
  have eE : encE v.kind v.n v.f v.s = 11 := if_neg (fun h => by rw [show goodV v.kind v.n v.f v.s = _ from hg] at h; exact absurd h (by simp))
  rw [eS, eE] at HE
  clear eS eE
  obtain ⟨i1, i2, i3, i4⟩ := enc_got ho
  have iok := got_ok ho
  rw [ho] at HD
  have g3 : gV (some (x, m)) = x := rfl
  have g4 : gN (some (x, m)) = m := rfl
  rw [g3, g4] at HD
  simp only [Option.isSome_some] at HD
  have HE2 := Lib.hid (enc_any x.kind x.n x.f x.s iok.2)
  have jS : encS x.kind x.n x.f x.s = s.extract 0 m := (if_pos i3).trans (by rw [i4, Nat.zero_add])
  have jE : encE x.kind x.n x.f x.s = 0 := if_pos i3
  rw [jS, jE] at HE2
  have hmz : (s.extract 0 m).size = m := by rw [size_extract _ _ _ (by omega)]; omega
  have t5 : decide ((m : Int) ≤ (s.size : Int)) = true := by rw [decide_eq_true]; omega
  have t6 : decide (m ≤ s.size) = true := by rw [decide_eq_true]; omega
  have hm1 : m ≤ s.size := by omega
  have hm2 : (m : Int) ≤ (s.size : Int) := by omega
  have e6 : ((m : Int) == (m : Int)) = true := beq_self_eq_true _
  have e7 : ((s.extract 0 m).toList == (s.extract 0 m).toList) = true := beq_self_eq_true _
  clear i1 i2 i3 i4 iok jS jE g3 g4
  obtain ⟨xk, xn, xf, xs⟩ := x
  obtain ⟨k, n, f, z⟩ := v
  have HL := Lib.hid (large_value k n f z)
  rw [decide_eq_false hv] at HL
  have HV := Lib.hid (RdB.new w ⟨k, n, f, z⟩ 24)
  have hsb : s.size ≤ 20000 := by omega
  have hab : a.size ≤ 20000 := by omega
  clear h h2 hv hok hg ho
  go_enter Try.func22, Try.ntmps22
  go_wp2_with fail
  refine (HL.out _).mono ?_
  rintro e w0 ⟨rfl, b0⟩
  have k0 := below_trans ((Below.refl w.heap.size w).alloc (Nat.le_refl _) _) b0
  have V0 := Lib.hid (HV.out.keep b0)
  obtain ⟨⟨c0, _⟩, ⟨c1, _⟩, ⟨c2, _⟩, ⟨c3, _⟩⟩ := RdB.cells V0.out
  clear b0
  go_wp2_with fail
  refine (HE.out _).mono ?_
  rintro e w1 ⟨rfl, b1⟩
  have k1 := k0.trans (b1.mono k0.size)
  have V1 := Lib.hid (V0.out.keep b1)
  clear c0 c1 c2 c3 b1 V0 k0
  go_wp2_with fail
  refine (HD.out _).mono ?_
  rintro e w4 ⟨rfl, b4⟩
  have k4 := k1.trans (b4.mono k1.size)
  clear b4 k1
  go_wp2_with fail
  refine (HE2.out _).mono ?_
  rintro e w5 ⟨rfl, b5⟩
  have k5 := (k4.alloc k4.size _).trans (b5.mono (by have := k4.size; simp; omega))
  clear b5
  go_wp2_with fail
  refine (val_wakes _).mono ?_
  rintro e w6 ⟨rfl, b6⟩
  have k6 := k5.trans (b6.mono k5.size)
  go_wp2_with fail
  go_ret
  exact ⟨rfl, k6⟩
set_option maxRecDepth 100000 in
set_option maxHeartbeats 1000000 in
theorem back_bn (v : Val) (s a : ByteArray) (w : World) (hok : v.ok) (h : ¬ 20000 < s.size) (h2 : ¬ 20000 < a.size) (hv : ¬ 2000 < v.s.size) (hg : gd v = false) (ho : gotA s 0 = none) : Tells Try.prog 22 #[v.v, .string s, .string a] w := by
  unfold Tells
  have hst := run_sf
  have t1 : decide ((20000 : Int) < (s.size : Int)) = false := by rw [decide_eq_false]; omega
  have t2 : decide (20000 < s.size) = false := by rw [decide_eq_false]; omega
  have t3 : decide ((20000 : Int) < (a.size : Int)) = false := by rw [decide_eq_false]; omega
  have t4 : decide (20000 < a.size) = false := by rw [decide_eq_false]; omega
  have HD := Lib.hid (dec_nat s 0 (by omega))
  have HE := Lib.hid (enc_any v.kind v.n v.f v.s hok.2)
  have eS : encS v.kind v.n v.f v.s = ⟨#[]⟩ := if_neg (fun h => by rw [show goodV v.kind v.n v.f v.s = _ from hg] at h; exact absurd h (by simp))
  have eE : encE v.kind v.n v.f v.s = 11 := if_neg (fun h => by rw [show goodV v.kind v.n v.f v.s = _ from hg] at h; exact absurd h (by simp))
  rw [eS, eE] at HE
  clear eS eE
  rw [ho] at HD
  have g3 : (gV (none : Option (Val × Nat))).v = vv 0 0 0 ⟨#[]⟩ := rfl
  have g4 : gN (none : Option (Val × Nat)) = 0 := rfl
  rw [g3, g4] at HD
  simp only [Option.isSome_none] at HD
  clear g3 g4
  obtain ⟨k, n, f, z⟩ := v
  have HL := Lib.hid (large_value k n f z)
  rw [decide_eq_false hv] at HL
  have HV := Lib.hid (RdB.new w ⟨k, n, f, z⟩ 24)
  have hsb : s.size ≤ 20000 := by omega
  have hab : a.size ≤ 20000 := by omega
  clear h h2 hv hok hg ho
  go_enter Try.func22, Try.ntmps22
  go_wp2_with fail
  refine (HL.out _).mono ?_
  rintro e w0 ⟨rfl, b0⟩
  have k0 := below_trans ((Below.refl w.heap.size w).alloc (Nat.le_refl _) _) b0
  have V0 := Lib.hid (HV.out.keep b0)
  obtain ⟨⟨c0, _⟩, ⟨c1, _⟩, ⟨c2, _⟩, ⟨c3, _⟩⟩ := RdB.cells V0.out
  clear b0
  go_wp2_with fail
  refine (HE.out _).mono ?_
  rintro e w1 ⟨rfl, b1⟩
  have k1 := k0.trans (b1.mono k0.size)
  have V1 := Lib.hid (V0.out.keep b1)
  clear c0 c1 c2 c3 b1 V0 k0
  go_wp2_with fail
  refine (HD.out _).mono ?_
  rintro e w4 ⟨rfl, b4⟩
  have k4 := k1.trans (b4.mono k1.size)
  clear b4 k1
  go_wp2_with fail
  refine (val_wakes _).mono ?_
  rintro e w6 ⟨rfl, b6⟩
  have k6 := (k4.alloc k4.size _).trans (b6.mono (by have := k4.size; simp; omega))
  go_wp2_with fail
  go_ret
  exact ⟨rfl, k6⟩

set_option maxRecDepth 100000 in
theorem valueBack_lifted (os : Os) (started : os.Started) (H : Type) (enc : TypeId × Value → H) :
    ReturnsInHanded {} Try.checked os 22 .any (Rows.valueBackSpec.pre6 enc Try.prog Try.f22 [] false) (Rows.valueBackSpec.post enc Try.prog Try.f22 false true false false) := by
  refine law_lifted (C := Try.checked) own started (by kernel_rfl) Try.func22
    (ChangeSpec.witness6 (enc := enc) (C := Try.checked) false ⟨#[], #[.agg #[.int .i64 0, .int .i64 0, .float .f64 0, .string ⟨#[]⟩], .string ⟨#[]⟩, .string ⟨#[]⟩], []⟩ 8 (by kernel_rfl) (by kernel_rfl) (by kernel_rfl) (by kernel_rfl))
    rfl (fun ds h => by match ds, h with | [_, _, _], _ => rfl) laid (by kernel_rfl) (tb := 4) rfl Try.underlying4 ?_
  intro W base args ds ps hval hA hsz
  rw [Try.params22] at hA hval hsz
  obtain ⟨v0, v1, v2, d0, d1, d2, q0, q1, q2, rfl, rfl, rfl, h0, h1, h2⟩ := trodAll_three hA
  obtain ⟨v, rfl, hw⟩ := open_val (hval 0 24 v0 rfl rfl) h0
  obtain ⟨s, rfl, _⟩ := open_string (hval 1 9 v1 rfl rfl) h1
  obtain ⟨a, rfl, _⟩ := open_string (hval 2 9 v2 rfl rfl) h2
  have hok := Val.wf_ok hw
  by_cases h : 20000 < s.size
  · exact back_long_s v s a W h
  by_cases h2 : 20000 < a.size
  · exact back_long_a v s a W h h2
  by_cases hv : 2000 < v.s.size
  · exact back_large v s a W h h2 hv
  cases hg : gd v with
  | true =>
    cases ho : gotA s 0 with
    | none => exact back_gn v s a W hok h h2 hv hg ho
    | some y => exact back_gs v s a W hok h h2 hv hg y.1 y.2 ho
  | false =>
    cases ho : gotA s 0 with
    | none => exact back_bn v s a W hok h h2 hv hg ho
    | some y =>
      exact back_bs v s a W hok h h2 hv hg y.1 y.2 ho

theorem valueBack_holds : Rows.ValueBackSaid :=
  OpenClaim.holds_of_wide 22 Try.f22 rfl rfl rfl rfl rfl rfl rfl ⟨rfl, rfl, rfl, rfl, rfl⟩ rfl rfl rfl rfl rfl (by kernel_rfl) Try.func22 (by kernel_rfl)
    (of_decide_eq_true (by kernel_rfl)) (by unfold Func.isWrapper; first | (rw [if_pos (by decide +kernel)]; kernel_rfl) | (rw [if_neg (by decide +kernel)]; exact ⟨rfl, rfl⟩))
    (fun os started H enc _ => valueBack_lifted os started H enc)
#print axioms valueBack_holds
end Go.Proofs.Ytmgpecomgffelaa
