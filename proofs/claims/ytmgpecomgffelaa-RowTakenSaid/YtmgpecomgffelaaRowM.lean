/- Fill as one answer; the law RowFills: any row filled, or what is wrong with it, and padded, by any columns. No condition. -/
import Derived.Test.YtmgpecomgffelaaRowL
import Derived.Test.YtmgpecomgffelaaRowI
namespace Go.Proofs.Ytmgpecomgffelaa
open Go.RowKit Go.ChangeShapes Go.WideShapes Go.ChangeAt
set_option linter.unusedVariables false
/-- The first column that does not take its value, from place k on. -/
def firstBad (l : List Col) (r : List Val) : Option Nat := (List.range l.length).find? fun j => decide (tkAt l r j ≠ 0)
def fillE (l : List Col) (r : List Val) : Int := if l.length < r.length then 22 else match firstBad l r with
  | none => 0
  | some m => tkAt l r m
def fillV (l : List Col) (r : List Val) : List Val := if fillE l r = 0 then padV l r else []
theorem bad_none {l : List Col} {r : List Val} (h : firstBad l r = none) : ∀ j, j < l.length → tkAt l r j = 0 := fun j hj => by
  unfold firstBad at h
  rw [List.find?_eq_none] at h
  have := h j (by simpa using hj)
  simpa using this
theorem find_range {n : Nat} {p : Nat → Bool} {m : Nat} (h : (List.range n).find? p = some m) : m < n ∧ p m = true ∧ ∀ j, j < m → p j = false := by
  induction n with
  | zero => simp at h
  | succ n ih =>
    rw [List.range_succ, List.find?_append] at h
    cases h2 : (List.range n).find? p with
    | some k =>
      rw [h2] at h
      simp at h
      subst h
      obtain ⟨a, b, c⟩ := ih h2
      exact ⟨by omega, b, c⟩
    | none =>
      rw [h2] at h
      simp [List.find?_cons] at h
      split at h
      · rename_i hp
        simp at h
        subst h
        refine ⟨by omega, hp, fun j hj => ?_⟩
        rw [List.find?_eq_none] at h2
        simpa using h2 j (by simpa using hj)
      · simp at h
theorem bad_some {l : List Col} {r : List Val} {m : Nat} (h : firstBad l r = some m) : m < l.length ∧ tkAt l r m ≠ 0 ∧ ∀ j, j < m → tkAt l r j = 0 := by
  obtain ⟨a, b, c⟩ := find_range h
  exact ⟨a, by simpa using b, fun j hj => by simpa using c j hj⟩

theorem fill_any (A B : Option Addr) (c d : Nat) (l : List Col) (r : List Val) (w : World) (ha : RdC w A l) (hb : RdV w B r) (hl : l.length ≤ 1000) :
    Calls Try.prog 52 #[.slice A l.length c, .slice B r.length d] w fun e w' => ∃ A' c', e = .returned (.tuple #[.slice A' (fillV l r).length c', .int .i64 (fillE l r)]) ∧ RdV w' A' (fillV l r) ∧ (A' = none → c' = 0) ∧ Below w.heap.size w w' := by
  by_cases h1 : l.length < r.length
  · have e : fillE l r = 22 := by unfold fillE; rw [if_pos h1]
    have v : fillV l r = [] := by unfold fillV; rw [e]; rfl
    rw [e, v]
    refine (fill_many A B c d l.length r.length w h1).mono ?_
    rintro e w1 ⟨rfl, rfl⟩
    exact ⟨none, 0, rfl, RdL.nil _ _ _ _, fun _ => rfl, Below.refl _ _⟩
  · cases hm : firstBad l r with
    | none =>
      have e : fillE l r = 0 := by unfold fillE; rw [if_neg h1, hm]
      have v : fillV l r = padV l r := by unfold fillV; rw [e]; rfl
      rw [e, v, padV_len]
      exact fill_ok A B c d l r w ha hb hl (by omega) (bad_none hm)
    | some m =>
      obtain ⟨a, b, f⟩ := bad_some hm
      have e : fillE l r = tkAt l r m := by unfold fillE; rw [if_neg h1, hm]
      have v : fillV l r = [] := by unfold fillV; rw [e, if_neg b]
      rw [v, e]
      refine (fill_bad A B c d l r w ha hb hl (by omega) m a f _ rfl b).mono ?_
      rintro e w1 ⟨rfl, h1⟩
      exact ⟨none, 0, rfl, RdL.nil _ _ _ _, fun _ => rfl, h1⟩

theorem rfill_any (A B : Option Addr) (c d : Nat) (l : List Col) (r : List Val) (w : World) (ha : RdC w A l) (hb : RdV w B r) (hl : l.length ≤ 1000) :
    Calls Try.prog 53 #[.slice A l.length c, .slice B r.length d] w fun e w' => ∃ A' c', e = .returned (.tuple #[.slice A' (fillV l r).length c', .int .i64 (fillE l r)]) ∧ RdV w' A' (fillV l r) ∧ (A' = none → c' = 0) ∧ Below w.heap.size w w' := by
  by_cases h1 : l.length < r.length
  · have e : fillE l r = 22 := by unfold fillE; rw [if_pos h1]
    have v : fillV l r = [] := by unfold fillV; rw [e]; rfl
    rw [e, v]
    refine (rfill_many A B c d l.length r.length w h1).mono ?_
    rintro e w1 ⟨rfl, rfl⟩
    exact ⟨none, 0, rfl, RdL.nil _ _ _ _, fun _ => rfl, Below.refl _ _⟩
  · cases hm : firstBad l r with
    | none =>
      have e : fillE l r = 0 := by unfold fillE; rw [if_neg h1, hm]
      have v : fillV l r = padV l r := by unfold fillV; rw [e]; rfl
      rw [e, v, padV_len]
      exact rfill_ok A B c d l r w ha hb hl (by omega) (bad_none hm)
    | some m =>
      obtain ⟨a, b, f⟩ := bad_some hm
      have e : fillE l r = tkAt l r m := by unfold fillE; rw [if_neg h1, hm]
      have v : fillV l r = [] := by unfold fillV; rw [e, if_neg b]
      rw [v, e]
      refine (rfill_bad A B c d l r w ha hb hl (by omega) m a f _ rfl b).mono ?_
      rintro e w1 ⟨rfl, h1⟩
      exact ⟨none, 0, rfl, RdL.nil _ _ _ _, fun _ => rfl, h1⟩

theorem fillV_len (l : List Col) (r : List Val) : (fillV l r).length ≤ l.length := by
  unfold fillV
  split
  · rw [padV_len]; exact Nat.le_refl _
  · simp
theorem RdC.one (w : World) (x : Col) : RdC (w.alloc (.cells #[.string x.name, .int .i64 x.kind, .bool x.nn, .int .i64 x.d.kind, .int .i64 x.d.n, .float .f64 x.d.f, .string x.d.s] 53)) (some ⟨w.heap.size, 0, none⟩) [x] := RdL.new Col.cells_len w 53 [x]

set_option maxRecDepth 100000 in
theorem fills_large1 (A B : Option Addr) (c d : Nat) (l : List Col) (r : List Val) (x : Col) (w : World) (ha : RdC w A l) (hb : RdV w B r) (h : largeC l = true) : Tells Try.prog 10 #[.slice A l.length c, .slice B r.length d, cv x.name x.kind x.nn x.d.kind x.d.n x.d.f x.d.s] w := by
  unfold Tells
  have hst := run_sf
  have h0 : Below w.heap.size w (w.alloc (.cells #[.string x.name, .int .i64 x.kind, .bool x.nn, .int .i64 x.d.kind, .int .i64 x.d.n, .float .f64 x.d.f, .string x.d.s] 53)) := (Below.refl _ _).alloc (Nat.le_refl _) _
  have h1 := large_cols A c l _ (ha.keep h0 (Nat.le_refl _))
  rw [h] at h1
  have H := Lib.hid h1
  clear ha hb h h1
  go_enter Try.func10, Try.ntmps10
  go_wp2_with fail
  refine H.out.mono ?_
  rintro e w1 ⟨rfl, b1⟩
  have b2 := below_trans h0 b1
  clear h0 b1
  go_wp2_with fail
  refine (row_wakes _).mono ?_
  rintro e w9 ⟨rfl, b9⟩
  go_wp2_with fail
  go_ret
  exact ⟨rfl, below_trans b2 b9⟩
set_option maxRecDepth 100000 in
theorem fills_large2 (A B : Option Addr) (c d : Nat) (l : List Col) (r : List Val) (x : Col) (w : World) (ha : RdC w A l) (hb : RdV w B r) (h : largeC l = false) (h2 : largeR r = true) : Tells Try.prog 10 #[.slice A l.length c, .slice B r.length d, cv x.name x.kind x.nn x.d.kind x.d.n x.d.f x.d.s] w := by
  unfold Tells
  have hst := run_sf
  have h0 : Below w.heap.size w (w.alloc (.cells #[.string x.name, .int .i64 x.kind, .bool x.nn, .int .i64 x.d.kind, .int .i64 x.d.n, .float .f64 x.d.f, .string x.d.s] 53)) := (Below.refl _ _).alloc (Nat.le_refl _) _
  have h1 := large_cols A c l _ (ha.keep h0 (Nat.le_refl _))
  rw [h] at h1
  have H := Lib.hid h1
  have HB := Lib.hid (hb.keep h0 (Nat.le_refl _))
  have HR := Lib.hid h2
  clear ha hb h h1 h2
  go_enter Try.func10, Try.ntmps10
  go_wp2_with fail
  refine H.out.mono ?_
  rintro e w1 ⟨rfl, b1⟩
  have hr := large_row B d r w1 (HB.out.keep b1 (Nat.le_refl _))
  rw [HR.out] at hr
  have b2 := below_trans h0 b1
  clear h0 b1
  go_wp2_with fail
  refine hr.mono ?_
  rintro e w2 ⟨rfl, b3⟩
  go_wp2_with fail
  refine (row_wakes _).mono ?_
  rintro e w9 ⟨rfl, b9⟩
  go_wp2_with fail
  go_ret
  exact ⟨rfl, below_trans (below_trans b2 b3) b9⟩
set_option maxRecDepth 100000 in
set_option maxHeartbeats 4000000 in
theorem fills_large3 (A B : Option Addr) (c d : Nat) (l : List Col) (r : List Val) (x : Col) (w : World) (ha : RdC w A l) (hb : RdV w B r) (h : largeC l = false) (h2 : largeR r = false) (h3 : largeC [x] = true) : Tells Try.prog 10 #[.slice A l.length c, .slice B r.length d, cv x.name x.kind x.nn x.d.kind x.d.n x.d.f x.d.s] w := by
  unfold Tells
  have hst := run_sf
  have h0 : Below w.heap.size w (w.alloc (.cells #[.string x.name, .int .i64 x.kind, .bool x.nn, .int .i64 x.d.kind, .int .i64 x.d.n, .float .f64 x.d.f, .string x.d.s] 53)) := (Below.refl _ _).alloc (Nat.le_refl _) _
  have hx := RdC.one w x
  have h1 := large_cols A c l _ (ha.keep h0 (Nat.le_refl _))
  rw [h] at h1
  have H := Lib.hid h1
  have HB := Lib.hid (hb.keep h0 (Nat.le_refl _))
  have HR := Lib.hid h2
  have HX := Lib.hid hx
  have H3 := Lib.hid h3
  clear ha hb h h1 h2 hx h3
  go_enter Try.func10, Try.ntmps10
  go_wp2_with fail
  refine H.out.mono ?_
  rintro e w1 ⟨rfl, b1⟩
  have hr := large_row B d r w1 (HB.out.keep b1 (Nat.le_refl _))
  rw [HR.out] at hr
  have b2 := below_trans h0 b1
  go_wp2_with fail
  refine hr.mono ?_
  rintro e w2 ⟨rfl, b3⟩
  have b4 := below_trans b2 b3
  have hxc := (HX.out.keep b1 (Nat.le_refl _)).keep b3 (Nat.le_refl _)
  obtain ⟨ad, e1, q0, q1, q2, q3, q4, q5, q6⟩ := RdC.at hxc 0 (by simp)
  cases e1
  simp [Addr.add] at q0 q1 q2 q3 q4 q5 q6
  have hl := large_cols (some ⟨w2.heap.size, 0, none⟩) 1 [x] _ (RdC.one w2 x)
  rw [H3.out] at hl
  clear hxc h0 b1 b2 b3
  go_wp2_with fail
  refine hl.mono ?_
  rintro e w3 ⟨rfl, b5⟩
  have b6 := below_trans b4 (below_trans ((Below.refl _ _).alloc (Nat.le_refl _) _) b5)
  go_wp2_with fail
  refine (row_wakes _).mono ?_
  rintro e w9 ⟨rfl, b9⟩
  go_wp2_with fail
  go_ret
  exact ⟨rfl, below_trans b6 b9⟩

set_option maxRecDepth 100000 in
set_option maxHeartbeats 8000000 in
theorem fills_main (A B : Option Addr) (c d : Nat) (l : List Col) (r : List Val) (x : Col) (w : World) (ha : RdC w A l) (hb : RdV w B r) (hnA : A = none → c = 0) (hnB : B = none → d = 0) (h : largeC l = false) (h2 : largeR r = false) (h3 : largeC [x] = false) : Tells Try.prog 10 #[.slice A l.length c, .slice B r.length d, cv x.name x.kind x.nn x.d.kind x.d.n x.d.f x.d.s] w := by
  unfold Tells
  have hst := run_sf
  have hl := largeC_len h
  have hrl := largeR_len h2
  have h0 : Below w.heap.size w (w.alloc (.cells #[.string x.name, .int .i64 x.kind, .bool x.nn, .int .i64 x.d.kind, .int .i64 x.d.n, .float .f64 x.d.f, .string x.d.s] 53)) := (Below.refl _ _).alloc (Nat.le_refl _) _
  have hx := RdC.one w x
  have h1 := large_cols A c l _ (ha.keep h0 (Nat.le_refl _))
  rw [h] at h1
  have H := Lib.hid h1
  have HA := Lib.hid (ha.keep h0 (Nat.le_refl _))
  have HB := Lib.hid (hb.keep h0 (Nat.le_refl _))
  have HNA := Lib.hid hnA
  have HNB := Lib.hid hnB
  have HR := Lib.hid h2
  have HX := Lib.hid hx
  have H3 := Lib.hid h3
  clear ha hb h h1 h2 hx h3 hnA hnB
  go_enter Try.func10, Try.ntmps10
  go_wp2_with fail
  refine H.out.mono ?_
  rintro e w1 ⟨rfl, b1⟩
  have hr := large_row B d r w1 (HB.out.keep b1 (Nat.le_refl _))
  rw [HR.out] at hr
  have b2 := below_trans h0 b1
  go_wp2_with fail
  refine hr.mono ?_
  rintro e w2 ⟨rfl, b3⟩
  have b4 := below_trans b2 b3
  have hxc := (HX.out.keep b1 (Nat.le_refl _)).keep b3 (Nat.le_refl _)
  obtain ⟨ad, e1, q0, q1, q2, q3, q4, q5, q6⟩ := RdC.at hxc 0 (by simp)
  cases e1
  simp [Addr.add] at q0 q1 q2 q3 q4 q5 q6
  have hlx := large_cols (some ⟨w2.heap.size, 0, none⟩) 1 [x] _ (RdC.one w2 x)
  rw [H3.out] at hlx
  have HA2 := Lib.hid ((HA.out.keep b1 (Nat.le_refl _)).keep b3 (Nat.le_refl _))
  have HB2 := Lib.hid ((HB.out.keep b1 (Nat.le_refl _)).keep b3 (Nat.le_refl _))
  clear h0 b1 b2 b3 HA HB HX H3 HR H
  go_wp2_with fail
  refine hlx.mono ?_
  rintro e w3 ⟨rfl, b5⟩
  have b5' := below_trans ((Below.refl w2.heap.size w2).alloc (Nat.le_refl _) _) b5
  have HA3 := Lib.hid (HA2.out.keep b5' (Nat.le_refl _))
  have HB3 := Lib.hid (HB2.out.keep b5' (Nat.le_refl _))
  have HX3 := Lib.hid (hxc.keep b5' (Nat.le_refl _))
  have b6 := below_trans b4 b5'
  clear q0 q1 q2 q3 q4 q5 q6 hlx b4 b5 b5' hxc HA2 HB2
  go_wp2_with (first | (at_builtin; refine copy_vals rfl _ _ rfl _ _ _ rfl HNB.out HB3.out (by omega) rfl ?_; intro A1 c1 W1 hin hb1 hne) | (at_builtin; refine copy_cols rfl _ _ rfl _ _ _ rfl HNA.out (HA3.out.keep hb1 (Nat.le_refl _)) (by omega) rfl ?_; intro A2 c2 W2 hin2 hb2 hne2))
  have HI1 := Lib.hid hin
  have HA4 := Lib.hid (HA3.out.keep hb1 (Nat.le_refl _))
  have HB4 := Lib.hid (HB3.out.keep hb1 (Nat.le_refl _))
  have HX4 := Lib.hid (HX3.out.keep hb1 (Nat.le_refl _))
  have b7 := below_trans b6 hb1
  clear hin hne hb1 b6 HA3 HB3 HX3
  have hin := hin2
  have hb1 := hb2
  have hne := hne2
  clear hin2 hb2 hne2
  have hf := fill_any A2 A1 c2 c1 l r W2 hin (HI1.out.keep hb1 (Nat.le_refl _)) (by omega)
  have HI2 := Lib.hid (HI1.out.keep hb1 (Nat.le_refl _))
  have HA5 := Lib.hid (HA4.out.keep hb1 (Nat.le_refl _))
  have HB5 := Lib.hid (HB4.out.keep hb1 (Nat.le_refl _))
  have HX5 := Lib.hid (HX4.out.keep hb1 (Nat.le_refl _))
  have b8 := below_trans b7 hb1
  clear hin hne hb1 b7 HA4 HB4 HX4 HI1
  go_wp2_with fail
  refine hf.mono ?_
  rintro e w4 ⟨A3, c3, rfl, hf3, hfn, hb1⟩
  have HF := Lib.hid hf3
  have HI3 := Lib.hid (HI2.out.keep hb1 (Nat.le_refl _))
  have HA6 := Lib.hid (HA5.out.keep hb1 (Nat.le_refl _))
  have HB6 := Lib.hid (HB5.out.keep hb1 (Nat.le_refl _))
  have HX6 := Lib.hid (HX5.out.keep hb1 (Nat.le_refl _))
  have b9 := below_trans b8 hb1
  have hg := rfill_any A B c d l r w4 HA6.out HB6.out (by omega)
  clear hf hf3 hfn hb1 b8 HA5 HB5 HX5 HI2
  go_wp2_with fail
  refine hg.mono ?_
  rintro e w5 ⟨A4, c4, rfl, hf3, hfn, hb1⟩
  have hfl := fillV_len l r
  have hvs := values_same A3 A4 c3 c4 (fillV l r) w5 (HF.out.keep hb1 (Nat.le_refl _)) hf3 (by omega)
  have HI4 := Lib.hid (HI3.out.keep hb1 (Nat.le_refl _))
  have HA7 := Lib.hid (HA6.out.keep hb1 (Nat.le_refl _))
  have HB7 := Lib.hid (HB6.out.keep hb1 (Nat.le_refl _))
  have HX7 := Lib.hid (HX6.out.keep hb1 (Nat.le_refl _))
  have b10 := below_trans b9 hb1
  clear hg hf3 hfn hb1 b9 HA6 HB6 HX6 HI3 HF hfl
  generalize (fillV l r).length = fl at *
  have hself : (fillE l r == fillE l r) = true := beq_self_eq_true _
  generalize fillE l r = fe at *
  go_wp2_with fail
  refine hvs.mono ?_
  rintro e w6 ⟨rfl, hb1⟩
  have HI5 := Lib.hid (HI4.out.keep hb1 (Nat.le_refl _))
  have HA8 := Lib.hid (HA7.out.keep hb1 (Nat.le_refl _))
  have HB8 := Lib.hid (HB7.out.keep hb1 (Nat.le_refl _))
  have HX8 := Lib.hid (HX7.out.keep hb1 (Nat.le_refl _))
  have b11 := below_trans b10 hb1
  have hp := pad_any A A1 c c1 l r w6 HA8.out HI5.out (by omega)
  clear hvs hb1 b10 HA7 HB7 HX7 HI4
  go_wp2_with fail
  refine hp.mono ?_
  rintro e w7 ⟨A5, c5, rfl, hp5, hpn5, hb1⟩
  have HP := Lib.hid hp5
  have HI6 := Lib.hid (HI5.out.keep hb1 (Nat.le_refl _))
  have HA9 := Lib.hid (HA8.out.keep hb1 (Nat.le_refl _))
  have HB9 := Lib.hid (HB8.out.keep hb1 (Nat.le_refl _))
  have HX9 := Lib.hid (HX8.out.keep hb1 (Nat.le_refl _))
  have b12 := below_trans b11 hb1
  have hp2 := rpad_any A B c d l r w7 HA9.out HB9.out (by omega)
  clear hp hp5 hpn5 hb1 b11 HA8 HB8 HX8 HI5
  go_wp2_with fail
  refine hp2.mono ?_
  rintro e w8 ⟨A6, c6, rfl, hp5, hpn5, hb1⟩
  have hpl := padV_len l r
  have hvs := values_same A5 A6 c5 c6 (padV l r) w8 (HP.out.keep hb1 (Nat.le_refl _)) hp5 (by omega)
  rw [hpl] at hvs
  have HI7 := Lib.hid (HI6.out.keep hb1 (Nat.le_refl _))
  have HB10 := Lib.hid (HB9.out.keep hb1 (Nat.le_refl _))
  have HX10 := Lib.hid (HX9.out.keep hb1 (Nat.le_refl _))
  have b13 := below_trans b12 hb1
  clear hp2 hp5 hpn5 hb1 b12 HA9 HB9 HX9 HI6 HP hpl
  go_wp2_with fail
  refine hvs.mono ?_
  rintro e w9 ⟨rfl, hb1⟩
  have HI8 := Lib.hid (HI7.out.keep hb1 (Nat.le_refl _))
  have HB11 := Lib.hid (HB10.out.keep hb1 (Nat.le_refl _))
  have HX11 := Lib.hid (HX10.out.keep hb1 (Nat.le_refl _))
  have b14 := below_trans b13 hb1
  have hvs2 := values_same A1 B c1 d r w9 HI8.out HB11.out (by omega)
  clear hvs hb1 b13 HB10 HX10 HI7
  go_wp2_with fail
  refine hvs2.mono ?_
  rintro e w10 ⟨rfl, hb1⟩
  have HB12 := Lib.hid (HB11.out.keep hb1 (Nat.le_refl _))
  have HX12 := Lib.hid (HX11.out.keep hb1 (Nat.le_refl _))
  have b15 := below_trans b14 hb1
  have HT := Lib.hid takes_any
  have HT2 := Lib.hid rtakes_any
  clear hvs2 hb1 b14 HB11 HX11 HI8
  go_wp2_with fail
  go_loopw [12] (fun i wr => ∃ k : Nat, k ≤ r.length ∧ i = .int .i64 k ∧ Below w10.heap.size w10 wr) (fun i _ => r.length - (intOf i).toNat)
  case atStart => exact ⟨0, by omega, rfl, Below.refl _ _⟩
  case round =>
    obtain ⟨k, hk, rfl, hbr⟩ := hrel
    by_cases hkl : k < r.length
    · obtain ⟨bd, rfl, r0, r1, r2, r3⟩ := RdV.at (HB12.out.keep hbr (Nat.le_refl _)) k hkl
      obtain ⟨ad, e1, q0, q1, q2, q3, q4, q5, q6⟩ := RdC.at (HX12.out.keep hbr (Nat.le_refl _)) 0 (by simp)
      cases e1
      simp [Addr.add] at q0 q1 q2 q3 q4 q5 q6
      have hw1 : IntKind.i64.wrap ((k : Int) + 1) = (k : Int) + 1 := by rw [IntKind.wrap_i64]; omega
      have hc1 := HT.out x.name x.kind x.nn x.d.kind x.d.n x.d.f x.d.s r[k].kind r[k].n r[k].f r[k].s
      have hc2 := HT2.out x.name x.kind x.nn x.d.kind x.d.n x.d.f x.d.s r[k].kind r[k].n r[k].f r[k].s
      generalize r[k] = y at *
      have hsf : (takesV x.kind x.nn y.kind y.n y.f y.s == takesV x.kind x.nn y.kind y.n y.f y.s) = true := beq_self_eq_true _
      generalize takesV x.kind x.nn y.kind y.n y.f y.s = tv at *
      go_wp2_with fail
      refine wp_region_held_drew (S := (fun w' => Below wr.heap.size wr w' ∧ w'.cell? ⟨w.heap.size, 0, none⟩ = some (.string x.name) ∧ w'.cell? ⟨w.heap.size, 1, none⟩ = some (.int .i64 x.kind) ∧ w'.cell? ⟨w.heap.size, 2, none⟩ = some (.bool x.nn) ∧ w'.cell? ⟨w.heap.size, 3, none⟩ = some (.int .i64 x.d.kind) ∧ w'.cell? ⟨w.heap.size, 4, none⟩ = some (.int .i64 x.d.n) ∧ w'.cell? ⟨w.heap.size, 5, none⟩ = some (.float .f64 x.d.f) ∧ w'.cell? ⟨w.heap.size, 6, none⟩ = some (.string x.d.s) ∧ w'.cell? (bd.add (k * 4)) = some (.int .i64 y.kind) ∧ w'.cell? ⟨(bd.add (k * 4)).block, (bd.add (k * 4)).off + 1, none⟩ = some (.int .i64 y.n) ∧ w'.cell? ⟨(bd.add (k * 4)).block, (bd.add (k * 4)).off + 2, none⟩ = some (.float .f64 y.f) ∧ w'.cell? ⟨(bd.add (k * 4)).block, (bd.add (k * 4)).off + 3, none⟩ = some (.string y.s))) (by kernel_rfl) (⟨(Below.refl _ _).drew, q0, q1, q2, q3, q4, q5, q6, r0, r1, r2, r3⟩) (fun hHeld => ?_)
      (refine wpAnyH_take (i := 0) (oi := { dst := some 73, op := Go.Op.load 53 (Go.Operand.tmp 5), type := 53, pos := _, after := _, guard := none }) (v := ?_) rfl (by kernel_rfl) (by kernel_rfl) (by kernel_rfl) (fun _ _ _ h => h) (Or.inl ⟨by rfl, ?_⟩) (by assumption) ?_; rotate_left; (intro w hSw; (try dsimp only at hSw); go_simp; try with_reducible rfl); try simp only [Act.put, List.setIfInBounds_toArray, List.set_cons_zero, List.set_cons_succ])
      (refine wpAnyH_take (i := 1) (oi := { dst := some 74, op := Go.Op.move (Go.Operand.tmp 1), type := 39, pos := _, after := _, guard := none }) (v := ?_) rfl (by kernel_rfl) (by kernel_rfl) (by kernel_rfl) (fun _ _ _ h => h) (Or.inl ⟨by rfl, ?_⟩) (by assumption) ?_; rotate_left; (intro w hSw; (try dsimp only at hSw); go_simp; try with_reducible rfl); try simp only [Act.put, List.setIfInBounds_toArray, List.set_cons_zero, List.set_cons_succ])
      (refine wpAnyH_take (i := 2) (oi := { dst := some 75, op := Go.Op.move (Go.Operand.tmp 12), type := 3, pos := _, after := _, guard := none }) (v := ?_) rfl (by kernel_rfl) (by kernel_rfl) (by kernel_rfl) (fun _ _ _ h => h) (Or.inl ⟨by rfl, ?_⟩) (by assumption) ?_; rotate_left; (intro w hSw; (try dsimp only at hSw); go_simp; try with_reducible rfl); try simp only [Act.put, List.setIfInBounds_toArray, List.set_cons_zero, List.set_cons_succ])
      (refine wpAnyH_take (i := 3) (oi := { dst := some 76, op := Go.Op.indexAddr 39 (Go.Operand.tmp 74) (Go.Operand.tmp 75), type := 0, pos := _, after := _, guard := none }) (v := ?_) rfl (by kernel_rfl) (by kernel_rfl) (by kernel_rfl) (fun _ _ _ h => h) (Or.inl ⟨by rfl, ?_⟩) (by assumption) ?_; rotate_left; (intro w hSw; (try dsimp only at hSw); go_simp; try with_reducible rfl); try simp only [Act.put, List.setIfInBounds_toArray, List.set_cons_zero, List.set_cons_succ])
      (refine wpAnyH_take (i := 4) (oi := { dst := some 77, op := Go.Op.load 24 (Go.Operand.tmp 76), type := 24, pos := _, after := _, guard := none }) (v := ?_) rfl (by kernel_rfl) (by kernel_rfl) (by kernel_rfl) (fun _ _ _ h => h) (Or.inl ⟨by rfl, ?_⟩) (by assumption) ?_; rotate_left; (intro w hSw; (try dsimp only at hSw); go_simp; try with_reducible rfl); try simp only [Act.put, List.setIfInBounds_toArray, List.set_cons_zero, List.set_cons_succ])
      (refine wpAnyH_take (i := 6) (oi := { dst := some 79, op := Go.Op.load 53 (Go.Operand.tmp 5), type := 53, pos := _, after := _, guard := none }) (v := ?_) rfl (by kernel_rfl) (by kernel_rfl) (by kernel_rfl) (fun _ _ _ h => h) (Or.inl ⟨by rfl, ?_⟩) (by assumption) ?_; rotate_left; (intro w hSw; (try dsimp only at hSw); go_simp; try with_reducible rfl); try simp only [Act.put, List.setIfInBounds_toArray, List.set_cons_zero, List.set_cons_succ])
      (refine wpAnyH_take (i := 7) (oi := { dst := some 80, op := Go.Op.move (Go.Operand.tmp 1), type := 39, pos := _, after := _, guard := none }) (v := ?_) rfl (by kernel_rfl) (by kernel_rfl) (by kernel_rfl) (fun _ _ _ h => h) (Or.inl ⟨by rfl, ?_⟩) (by assumption) ?_; rotate_left; (intro w hSw; (try dsimp only at hSw); go_simp; try with_reducible rfl); try simp only [Act.put, List.setIfInBounds_toArray, List.set_cons_zero, List.set_cons_succ])
      (refine wpAnyH_take (i := 8) (oi := { dst := some 81, op := Go.Op.move (Go.Operand.tmp 12), type := 3, pos := _, after := _, guard := none }) (v := ?_) rfl (by kernel_rfl) (by kernel_rfl) (by kernel_rfl) (fun _ _ _ h => h) (Or.inl ⟨by rfl, ?_⟩) (by assumption) ?_; rotate_left; (intro w hSw; (try dsimp only at hSw); go_simp; try with_reducible rfl); try simp only [Act.put, List.setIfInBounds_toArray, List.set_cons_zero, List.set_cons_succ])
      (refine wpAnyH_take (i := 9) (oi := { dst := some 82, op := Go.Op.indexAddr 39 (Go.Operand.tmp 80) (Go.Operand.tmp 81), type := 0, pos := _, after := _, guard := none }) (v := ?_) rfl (by kernel_rfl) (by kernel_rfl) (by kernel_rfl) (fun _ _ _ h => h) (Or.inl ⟨by rfl, ?_⟩) (by assumption) ?_; rotate_left; (intro w hSw; (try dsimp only at hSw); go_simp; try with_reducible rfl); try simp only [Act.put, List.setIfInBounds_toArray, List.set_cons_zero, List.set_cons_succ])
      (refine wpAnyH_take (i := 10) (oi := { dst := some 83, op := Go.Op.load 24 (Go.Operand.tmp 82), type := 24, pos := _, after := _, guard := none }) (v := ?_) rfl (by kernel_rfl) (by kernel_rfl) (by kernel_rfl) (fun _ _ _ h => h) (Or.inl ⟨by rfl, ?_⟩) (by assumption) ?_; rotate_left; (intro w hSw; (try dsimp only at hSw); go_simp; try with_reducible rfl); try simp only [Act.put, List.setIfInBounds_toArray, List.set_cons_zero, List.set_cons_succ])
      refine wpAnyH_ready (rs := [5]) (by kernel_rfl) (by simp) ?_
      refine AllReadyH.cons (o := { dst := some 78, op := Go.Op.call { callee := Go.Callee.value (Go.Operand.func 55), args := #[Go.Operand.tmp 73, Go.Operand.tmp 77], argTypes := #[53, 24] }, type := 27, pos := _, after := _, guard := none }) rfl (fun K hK => ?_) AllReadyH.nil
      go_simp
      (refine (hc1 _).mono ?_; rintro e w6 ⟨rfl, b13⟩)
      go_wp2_with fail
      refine hK.out _ _ ?_ (fun hHeld2 => ?_)
      · (go_split_ands; exact ⟨Below.trans (by assumption) (b13.mono (Below.size (by assumption))), kc b13 (by assumption), kc b13 (by assumption), kc b13 (by assumption), kc b13 (by assumption), kc b13 (by assumption), kc b13 (by assumption), kc b13 (by assumption), kc b13 (by assumption), kc b13 (by assumption), kc b13 (by assumption), kc b13 (by assumption)⟩)
      clear hK K hHeld
      have hHeld := hHeld2
      clear hHeld2
      try simp only [Act.put, List.setIfInBounds_toArray, List.set_cons_zero, List.set_cons_succ]
      refine wpAnyH_ready (rs := [11]) (by kernel_rfl) (by simp) ?_
      refine AllReadyH.cons (o := { dst := some 84, op := Go.Op.call { callee := Go.Callee.value (Go.Operand.func 56), args := #[Go.Operand.tmp 79, Go.Operand.tmp 83], argTypes := #[53, 24] }, type := 3, pos := _, after := _, guard := none }) rfl (fun K hK => ?_) AllReadyH.nil
      go_simp
      (refine (hc2 _).mono ?_; rintro e w7 ⟨rfl, b14⟩)
      go_wp2_with fail
      refine hK.out _ _ ?_ (fun hHeld2 => ?_)
      · (go_split_ands; exact ⟨Below.trans (by assumption) (b14.mono (Below.size (by assumption))), kc b14 (by assumption), kc b14 (by assumption), kc b14 (by assumption), kc b14 (by assumption), kc b14 (by assumption), kc b14 (by assumption), kc b14 (by assumption), kc b14 (by assumption), kc b14 (by assumption), kc b14 (by assumption), kc b14 (by assumption)⟩)
      clear hK K hHeld
      have hHeld := hHeld2
      clear hHeld2
      try simp only [Act.put, List.setIfInBounds_toArray, List.set_cons_zero, List.set_cons_succ]
      (refine wpAnyH_take (i := 12) (oi := { dst := some 85, op := Go.Op.binOp Go.BinOp.neq 3 (Go.Operand.tmp 78) (Go.Operand.tmp 84) 3, type := 4, pos := _, after := _, guard := none }) (v := ?_) rfl (by kernel_rfl) (by kernel_rfl) (by kernel_rfl) (fun _ _ _ h => h) (Or.inl ⟨by rfl, ?_⟩) (by assumption) ?_; rotate_left; (intro w hSw; (try dsimp only at hSw); go_simp; try with_reducible rfl); try simp only [Act.put, List.setIfInBounds_toArray, List.set_cons_zero, List.set_cons_succ])
      refine wpAnyH_done (by kernel_rfl) ?_ _
      have hb3 := hbr.trans ((And.left hHeld).mono hbr.size)
      go_wp2_with fail
      exact ⟨⟨k + 1, by omega, by go_num, hb3⟩, by simp [intOf]; omega⟩
    · obtain rfl : k = r.length := by omega
      go_wp2_with fail
      refine (row_wakes _).mono ?_
      rintro e w11 ⟨rfl, hb1⟩
      go_wp2_with fail
      go_ret
      exact ⟨rfl, b15.trans ((hbr.trans (hb1.mono hbr.size)).mono b15.size)⟩
set_option maxRecDepth 100000 in
theorem open_col {H : Type} {enc : TypeId × Value → H} {w : World} {base : Nat} {v : Value} {d : DataW H} {ps : List MemPlace} (hval : Value.okWide Try.prog w .any base 53 v) (h : DataW.Trod enc Try.prog w 0 (fun _ => true) true 53 v d ps) :
    ∃ x : Col, v = cv x.name x.kind x.nn x.d.kind x.d.n x.d.f x.d.s ∧ x.wf := by
  obtain ⟨cs, rfl, _⟩ := okWide_struct Try.underlying53 hval
  obtain ⟨fuel, hf⟩ := h
  obtain ⟨x, hx, hw⟩ := read_col hf
  refine ⟨x, ?_, hw⟩
  have : cs.toList = x.cells := hx
  rw [← Array.toArray_toList (xs := cs), this]
  rfl

set_option maxRecDepth 100000 in
theorem rowFills_lifted (os : Os) (started : os.Started) (H : Type) (enc : TypeId × Value → H) :
    ReturnsInHanded {} Try.checked os 10 .any (Rows.rowFillsSpec.pre6 enc Try.prog Try.f10 [] false) (Rows.rowFillsSpec.post enc Try.prog Try.f10 false true false false) := by
  refine law_lifted (C := Try.checked) own started (by kernel_rfl) Try.func10
    (ChangeSpec.witness6 (enc := enc) (C := Try.checked) false ⟨#[], #[.slice none 0 0, .slice none 0 0, .agg #[.string ⟨#[]⟩, .int .i64 0, .bool false, .int .i64 0, .int .i64 0, .float .f64 0, .string ⟨#[]⟩]], []⟩ 8 (by kernel_rfl) (by kernel_rfl) (by kernel_rfl) (by kernel_rfl))
    rfl (fun ds h => by match ds, h with | [_, _, _], _ => rfl) laid (by kernel_rfl) (tb := 4) rfl Try.underlying4 ?_
  intro W base args ds ps hval hA hsz
  rw [Try.params10] at hA hval hsz
  obtain ⟨v0, v1, v2, d0, d1, d2, q0, q1, q2, rfl, rfl, rfl, h0, h1, h2⟩ := trodAll_three hA
  obtain ⟨A, c, l, rfl, hr, hlc, hw, hn⟩ := open_cols (hval 0 49 v0 rfl rfl) h0
  obtain ⟨B, d, r, rfl, hr2, hlc2, hw2, hn2⟩ := open_row (hval 1 39 v1 rfl rfl) h1
  obtain ⟨x, rfl, hx⟩ := open_col (hval 2 53 v2 rfl rfl) h2
  cases hL : largeC l with
  | true => exact fills_large1 A B c d l r x W hr hr2 hL
  | false =>
  cases hR : largeR r with
  | true => exact fills_large2 A B c d l r x W hr hr2 hL hR
  | false =>
  cases hX : largeC [x] with
  | true => exact fills_large3 A B c d l r x W hr hr2 hL hR hX
  | false =>
  exact fills_main A B c d l r x W hr hr2 hn hn2 hL hR hX

theorem rowFills_holds : Rows.RowFillsSaid :=
  OpenClaim.holds_of_wide 10 Try.f10 rfl rfl rfl rfl rfl rfl rfl ⟨rfl, rfl, rfl, rfl, rfl⟩ rfl rfl rfl rfl rfl (by kernel_rfl) Try.func10 (by kernel_rfl)
    (of_decide_eq_true (by kernel_rfl)) (by unfold Func.isWrapper; first | (rw [if_pos (by decide +kernel)]; kernel_rfl) | (rw [if_neg (by decide +kernel)]; exact ⟨rfl, rfl⟩))
    (fun os started H enc _ => rowFills_lifted os started H enc)
#print axioms rowFills_holds
end Go.Proofs.Ytmgpecomgffelaa
