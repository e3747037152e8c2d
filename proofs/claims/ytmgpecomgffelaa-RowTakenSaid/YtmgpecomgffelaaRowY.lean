/- The walks of the law RowTaken: a row that was filled is taken by all columns; padded by columns that were added, by those, too; filled again it is the same. No condition. -/
import Derived.Test.YtmgpecomgffelaaRowT
import Derived.Test.YtmgpecomgffelaaRowM
import Derived.Deep.RegionHeld3
namespace Go.Proofs.Ytmgpecomgffelaa
open Go.RowKit Go.ChangeShapes Go.WideShapes Go.ChangeAt
set_option linter.unusedVariables false
/-- What the columns are while more are added. -/
def InvK (l K : List Col) : Prop := l.length ≤ K.length ∧ K.length ≤ 50 ∧ (∀ i (h : i < l.length) (h2 : i < K.length), K[i] = l[i]) ∧ ∀ i (h : i < K.length), l.length ≤ i → tk K[i] K[i].d = 0
theorem InvK.start {l : List Col} (h : l.length ≤ 50) : InvK l l := ⟨Nat.le_refl _, h, fun _ _ _ => rfl, fun i h h2 => absurd h (by omega)⟩
theorem addE_len {K : List Col} {x : Col} (h : addE K x = 0) : K.length < 6 ∧ tk x x.d = 0 := by
  unfold addE at h
  split at h
  · simp at h
  split at h
  · simp at h
  rename_i hg ho
  split at h
  · simp at h
  split at h
  · simp at h
  split at h
  · simp at h
  rename_i hl hn
  have hg' : goodC K = true := by simpa using hg
  have ho' : oneV x = true := by simpa using ho
  refine ⟨by have := (goodC_len hg').2; omega, ?_⟩
  unfold oneV at ho'
  simp at ho'
  obtain ⟨_, _, _, hgv, hd⟩ := ho'
  unfold tk takesV
  rw [hgv, if_neg (by simp)]
  by_cases hd0 : x.d.kind = 0
  · rw [if_pos hd0, if_neg (fun h => hn ⟨h, hd0⟩)]
  · rw [if_neg hd0, if_pos (by omega)]
theorem addV_eq {K : List Col} {x : Col} (h : addE K x = 0) : addV K x = K ++ [x] := by unfold addV; rw [if_pos h]
theorem InvK.step {l K : List Col} {x : Col} (hi : InvK l K) (h : addE K x = 0) : InvK l (addV K x) := by
  obtain ⟨a, b, c, d⟩ := hi
  obtain ⟨e, f⟩ := addE_len h
  rw [addV_eq h]
  refine ⟨by simp; omega, by simp; omega, fun i h1 h2 => ?_, fun i h1 h2 => ?_⟩
  · rw [List.getElem_append_left (by omega)]
    exact c i h1 (by omega)
  · by_cases hk : i < K.length
    · rw [List.getElem_append_left hk]
      exact d i hk h2
    · have : i = K.length := by simp at h1; omega
      subst this
      simpa using f
theorem fill_again {l : List Col} {r : List Val} (h : fillE l r = 0) : fillV l r = padV l r ∧ fillE l (padV l r) = 0 ∧ fillV l (padV l r) = padV l r ∧ ∀ j (hj : j < l.length), tk l[j] (r.getD j l[j].d) = 0 := by
  have hv : fillV l r = padV l r := by unfold fillV; rw [if_pos h]
  have hle : ¬ l.length < r.length := fun hlt => by unfold fillE at h; rw [if_pos hlt] at h; simp at h
  have hall : ∀ j, j < l.length → tkAt l r j = 0 := by
    unfold fillE at h
    rw [if_neg hle] at h
    cases hm : firstBad l r with
    | none => exact bad_none hm
    | some m => rw [hm] at h; exact absurd h (bad_some hm).2.1
  have hall2 : ∀ j, j < l.length → tkAt l (padV l r) j = 0 := fun j hj => by
    have e : (padV l r).getD j l[j].d = r.getD j l[j].d := by
      rw [List.getD_eq_getElem?_getD, List.getElem?_eq_getElem (by rw [padV_len]; exact hj), padV_at l r j hj]
      rfl
    rw [tkAt_eq l _ j hj, e, ← tkAt_eq l r j hj]
    exact hall j hj
  have h2 : fillE l (padV l r) = 0 := by
    unfold fillE
    rw [if_neg (by rw [padV_len]; omega)]
    cases hm : firstBad l (padV l r) with
    | none => rfl
    | some m => exact absurd (hall2 m (bad_some hm).1) (bad_some hm).2.1
  refine ⟨hv, h2, ?_, fun j hj => ?_⟩
  · unfold fillV
    rw [if_pos h2, padV_idem]
  · rw [← tkAt_eq l r j hj]
    exact hall j hj
set_option maxRecDepth 100000 in
set_option maxHeartbeats 8000000 in
theorem taken_1 (A B C : Option Addr) (c d m : Nat) (l : List Col) (r : List Val) (o : List Col) (w : World) (ha : RdC w A l) (hb : RdV w B r) (hc : RdC w C o) (hnA : A = none → c = 0) (hnB : B = none → d = 0) (hL : largeC l = true) : Tells Try.prog 17 #[.slice A l.length c, .slice B r.length d, .slice C o.length m] w := by
  unfold Tells
  have hst := run_sf
  have HA0 := Lib.hid ha
  have HB0 := Lib.hid hb
  have HC0 := Lib.hid hc
  have HNA := Lib.hid hnA
  have HNB := Lib.hid hnB
  have hl := large_cols A c l _ HA0.out
  rw [hL] at hl
  clear ha hb hc hnA hnB
  go_enter Try.func17, Try.ntmps17
  go_wp2_with fail
  refine hl.mono ?_
  rintro e w1 ⟨rfl, b1⟩
  have k1 := b1
  have HA1 := Lib.hid (HA0.out.keep b1 (Nat.le_refl _))
  have HB1 := Lib.hid (HB0.out.keep b1 (Nat.le_refl _))
  have HC1 := Lib.hid (HC0.out.keep b1 (Nat.le_refl _))
  clear hl b1 HA0 HB0 HC0
  go_wp2_with fail
  refine (row_wakes _).mono ?_
  rintro e w9 ⟨rfl, b9⟩
  go_wp2_with fail
  go_ret
  exact ⟨rfl, below_trans k1 b9⟩
set_option maxRecDepth 100000 in
set_option maxHeartbeats 8000000 in
theorem taken_2 (A B C : Option Addr) (c d m : Nat) (l : List Col) (r : List Val) (o : List Col) (w : World) (ha : RdC w A l) (hb : RdV w B r) (hc : RdC w C o) (hnA : A = none → c = 0) (hnB : B = none → d = 0) (hL : largeC l = false) (hR : largeR r = true) : Tells Try.prog 17 #[.slice A l.length c, .slice B r.length d, .slice C o.length m] w := by
  unfold Tells
  have hst := run_sf
  have HA0 := Lib.hid ha
  have HB0 := Lib.hid hb
  have HC0 := Lib.hid hc
  have HNA := Lib.hid hnA
  have HNB := Lib.hid hnB
  have hl := large_cols A c l _ HA0.out
  rw [hL] at hl
  have HR := Lib.hid hR
  clear hR
  clear ha hb hc hnA hnB
  go_enter Try.func17, Try.ntmps17
  go_wp2_with fail
  refine hl.mono ?_
  rintro e w1 ⟨rfl, b1⟩
  have k1 := b1
  have HA1 := Lib.hid (HA0.out.keep b1 (Nat.le_refl _))
  have HB1 := Lib.hid (HB0.out.keep b1 (Nat.le_refl _))
  have HC1 := Lib.hid (HC0.out.keep b1 (Nat.le_refl _))
  clear hl b1 HA0 HB0 HC0
  have h2 := large_row B d r w1 HB1.out
  rw [HR.out] at h2
  go_wp2_with fail
  refine h2.mono ?_
  rintro e w2 ⟨rfl, b2⟩
  have k2 := below_trans k1 b2
  have HA2 := Lib.hid (HA1.out.keep b2 (Nat.le_refl _))
  have HB2 := Lib.hid (HB1.out.keep b2 (Nat.le_refl _))
  have HC2 := Lib.hid (HC1.out.keep b2 (Nat.le_refl _))
  clear b2 k1 HA1 HB1 HC1 h2
  go_wp2_with fail
  refine (row_wakes _).mono ?_
  rintro e w9 ⟨rfl, b9⟩
  go_wp2_with fail
  go_ret
  exact ⟨rfl, below_trans k2 b9⟩
set_option maxRecDepth 100000 in
set_option maxHeartbeats 8000000 in
theorem taken_3 (A B C : Option Addr) (c d m : Nat) (l : List Col) (r : List Val) (o : List Col) (w : World) (ha : RdC w A l) (hb : RdV w B r) (hc : RdC w C o) (hnA : A = none → c = 0) (hnB : B = none → d = 0) (hL : largeC l = false) (hR : largeR r = false) (hO : largeC o = true) : Tells Try.prog 17 #[.slice A l.length c, .slice B r.length d, .slice C o.length m] w := by
  unfold Tells
  have hst := run_sf
  have HA0 := Lib.hid ha
  have HB0 := Lib.hid hb
  have HC0 := Lib.hid hc
  have HNA := Lib.hid hnA
  have HNB := Lib.hid hnB
  have hl := large_cols A c l _ HA0.out
  rw [hL] at hl
  have HR := Lib.hid hR
  clear hR
  have HO := Lib.hid hO
  clear hO
  clear ha hb hc hnA hnB
  go_enter Try.func17, Try.ntmps17
  go_wp2_with fail
  refine hl.mono ?_
  rintro e w1 ⟨rfl, b1⟩
  have k1 := b1
  have HA1 := Lib.hid (HA0.out.keep b1 (Nat.le_refl _))
  have HB1 := Lib.hid (HB0.out.keep b1 (Nat.le_refl _))
  have HC1 := Lib.hid (HC0.out.keep b1 (Nat.le_refl _))
  clear hl b1 HA0 HB0 HC0
  have h2 := large_row B d r w1 HB1.out
  rw [HR.out] at h2
  go_wp2_with fail
  refine h2.mono ?_
  rintro e w2 ⟨rfl, b2⟩
  have k2 := below_trans k1 b2
  have HA2 := Lib.hid (HA1.out.keep b2 (Nat.le_refl _))
  have HB2 := Lib.hid (HB1.out.keep b2 (Nat.le_refl _))
  have HC2 := Lib.hid (HC1.out.keep b2 (Nat.le_refl _))
  clear b2 k1 HA1 HB1 HC1 h2
  have h3 := large_cols C m o w2 HC2.out
  rw [HO.out] at h3
  go_wp2_with fail
  refine h3.mono ?_
  rintro e w3 ⟨rfl, b3⟩
  have k3 := below_trans k2 b3
  have HA3 := Lib.hid (HA2.out.keep b3 (Nat.le_refl _))
  have HB3 := Lib.hid (HB2.out.keep b3 (Nat.le_refl _))
  have HC3 := Lib.hid (HC2.out.keep b3 (Nat.le_refl _))
  clear b3 k2 HA2 HB2 HC2 h3
  go_wp2_with fail
  refine (row_wakes _).mono ?_
  rintro e w9 ⟨rfl, b9⟩
  go_wp2_with fail
  go_ret
  exact ⟨rfl, below_trans k3 b9⟩
set_option maxRecDepth 100000 in
set_option maxHeartbeats 8000000 in
theorem taken_4 (A B C : Option Addr) (c d m : Nat) (l : List Col) (r : List Val) (o : List Col) (w : World) (ha : RdC w A l) (hb : RdV w B r) (hc : RdC w C o) (hnA : A = none → c = 0) (hnB : B = none → d = 0) (hL : largeC l = false) (hR : largeR r = false) (hO : largeC o = false) (hG : goodC l = false) : Tells Try.prog 17 #[.slice A l.length c, .slice B r.length d, .slice C o.length m] w := by
  unfold Tells
  have hst := run_sf
  have HA0 := Lib.hid ha
  have HB0 := Lib.hid hb
  have HC0 := Lib.hid hc
  have HNA := Lib.hid hnA
  have HNB := Lib.hid hnB
  have hl := large_cols A c l _ HA0.out
  rw [hL] at hl
  have HR := Lib.hid hR
  clear hR
  have HO := Lib.hid hO
  clear hO
  have HG := Lib.hid hG
  clear hG
  clear ha hb hc hnA hnB
  go_enter Try.func17, Try.ntmps17
  go_wp2_with fail
  refine hl.mono ?_
  rintro e w1 ⟨rfl, b1⟩
  have k1 := b1
  have HA1 := Lib.hid (HA0.out.keep b1 (Nat.le_refl _))
  have HB1 := Lib.hid (HB0.out.keep b1 (Nat.le_refl _))
  have HC1 := Lib.hid (HC0.out.keep b1 (Nat.le_refl _))
  clear hl b1 HA0 HB0 HC0
  have h2 := large_row B d r w1 HB1.out
  rw [HR.out] at h2
  go_wp2_with fail
  refine h2.mono ?_
  rintro e w2 ⟨rfl, b2⟩
  have k2 := below_trans k1 b2
  have HA2 := Lib.hid (HA1.out.keep b2 (Nat.le_refl _))
  have HB2 := Lib.hid (HB1.out.keep b2 (Nat.le_refl _))
  have HC2 := Lib.hid (HC1.out.keep b2 (Nat.le_refl _))
  clear b2 k1 HA1 HB1 HC1 h2
  have h3 := large_cols C m o w2 HC2.out
  rw [HO.out] at h3
  go_wp2_with fail
  refine h3.mono ?_
  rintro e w3 ⟨rfl, b3⟩
  have k3 := below_trans k2 b3
  have HA3 := Lib.hid (HA2.out.keep b3 (Nat.le_refl _))
  have HB3 := Lib.hid (HB2.out.keep b3 (Nat.le_refl _))
  have HC3 := Lib.hid (HC2.out.keep b3 (Nat.le_refl _))
  clear b3 k2 HA2 HB2 HC2 h3
  have h4 := rgoodc_any A c l w3 HA3.out
  rw [HG.out] at h4
  go_wp2_with fail
  refine h4.mono ?_
  rintro e w4 ⟨rfl, b4⟩
  have k4 := below_trans k3 b4
  have HA4 := Lib.hid (HA3.out.keep b4 (Nat.le_refl _))
  have HB4 := Lib.hid (HB3.out.keep b4 (Nat.le_refl _))
  have HC4 := Lib.hid (HC3.out.keep b4 (Nat.le_refl _))
  clear b4 k3 HA3 HB3 HC3 h4
  go_wp2_with fail
  refine (row_wakes _).mono ?_
  rintro e w9 ⟨rfl, b9⟩
  go_wp2_with fail
  go_ret
  exact ⟨rfl, below_trans k4 b9⟩
set_option maxRecDepth 100000 in
set_option maxHeartbeats 8000000 in
theorem taken_5 (A B C : Option Addr) (c d m : Nat) (l : List Col) (r : List Val) (o : List Col) (w : World) (ha : RdC w A l) (hb : RdV w B r) (hc : RdC w C o) (hnA : A = none → c = 0) (hnB : B = none → d = 0) (hL : largeC l = false) (hR : largeR r = false) (hO : largeC o = false) (hG : goodC l = true) (hE : fillE l r ≠ 0) : Tells Try.prog 17 #[.slice A l.length c, .slice B r.length d, .slice C o.length m] w := by
  unfold Tells
  have hst := run_sf
  have HA0 := Lib.hid ha
  have HB0 := Lib.hid hb
  have HC0 := Lib.hid hc
  have HNA := Lib.hid hnA
  have HNB := Lib.hid hnB
  have hl := large_cols A c l _ HA0.out
  rw [hL] at hl
  have HR := Lib.hid hR
  clear hR
  have HO := Lib.hid hO
  clear hO
  have HG := Lib.hid hG
  clear hG
  have hll := largeC_len hL
  have hrl := largeR_len HR.out
  have t1 : (fillE l r == 0) = false := by rw [beq_eq_false_iff_ne]; exact hE
  have t2 : (fillE l r != 0) = true := by rw [bne, t1]; rfl
  have hv : fillV l r = [] := by unfold fillV; rw [if_neg hE]
  have HV := Lib.hid hv
  clear hv hE hL
  clear ha hb hc hnA hnB
  go_enter Try.func17, Try.ntmps17
  go_wp2_with fail
  refine hl.mono ?_
  rintro e w1 ⟨rfl, b1⟩
  have k1 := b1
  have HA1 := Lib.hid (HA0.out.keep b1 (Nat.le_refl _))
  have HB1 := Lib.hid (HB0.out.keep b1 (Nat.le_refl _))
  have HC1 := Lib.hid (HC0.out.keep b1 (Nat.le_refl _))
  clear hl b1 HA0 HB0 HC0
  have h2 := large_row B d r w1 HB1.out
  rw [HR.out] at h2
  go_wp2_with fail
  refine h2.mono ?_
  rintro e w2 ⟨rfl, b2⟩
  have k2 := below_trans k1 b2
  have HA2 := Lib.hid (HA1.out.keep b2 (Nat.le_refl _))
  have HB2 := Lib.hid (HB1.out.keep b2 (Nat.le_refl _))
  have HC2 := Lib.hid (HC1.out.keep b2 (Nat.le_refl _))
  clear b2 k1 HA1 HB1 HC1 h2
  have h3 := large_cols C m o w2 HC2.out
  rw [HO.out] at h3
  go_wp2_with fail
  refine h3.mono ?_
  rintro e w3 ⟨rfl, b3⟩
  have k3 := below_trans k2 b3
  have HA3 := Lib.hid (HA2.out.keep b3 (Nat.le_refl _))
  have HB3 := Lib.hid (HB2.out.keep b3 (Nat.le_refl _))
  have HC3 := Lib.hid (HC2.out.keep b3 (Nat.le_refl _))
  clear b3 k2 HA2 HB2 HC2 h3
  have h4 := rgoodc_any A c l w3 HA3.out
  rw [HG.out] at h4
  go_wp2_with fail
  refine h4.mono ?_
  rintro e w4 ⟨rfl, b4⟩
  have k4 := below_trans k3 b4
  have HA4 := Lib.hid (HA3.out.keep b4 (Nat.le_refl _))
  have HB4 := Lib.hid (HB3.out.keep b4 (Nat.le_refl _))
  have HC4 := Lib.hid (HC3.out.keep b4 (Nat.le_refl _))
  clear b4 k3 HA3 HB3 HC3 h4
  go_wp2_with (at_builtin; refine wl_app_vals rfl _ _ rfl w4.heap.size _ 0 [] rfl (Fresh.empty _ _ _ _ _) (by simp) B d r rfl HNB.out (HB4.out.keep ((Below.refl _ _).alloc (Nat.le_refl _) _) (Nat.le_refl _)) (by omega) ?_; intro v5 w5 hF b5' _; rw [Nat.zero_add, List.nil_append] at hF; obtain ⟨A5, c5, rfl, hn5⟩ := hF.slice; have b5 : Below w4.heap.size w4 w5 := ((Below.refl _ _).alloc (Nat.le_refl _) _).trans b5'; have HI5 := Lib.hid (Fresh.rd Val.cells_len (by decide) hF); have k5 := below_trans k4 b5; have HA5 := Lib.hid (HA4.out.keep b5 (Nat.le_refl _)); have HC5 := Lib.hid (HC4.out.keep b5 (Nat.le_refl _)); clear b5 b5' k4 HA4 HB4 HC4 hF hn5)
  have hf := fill_any A A5 c c5 l r w5 HA5.out HI5.out (by omega)
  rw [HV.out] at hf
  generalize fillE l r = fe at *
  refine hf.mono ?_
  rintro e w6 ⟨A6, c6, rfl, hf6, hn6, b6⟩
  have k6 := below_trans k5 b6
  clear hf hf6 hn6 b6 k5
  go_wp2_with fail
  refine (row_wakes _).mono ?_
  rintro e w9 ⟨rfl, b9⟩
  go_wp2_with fail
  go_ret
  exact ⟨rfl, below_trans k6 b9⟩
set_option maxRecDepth 100000 in
set_option maxHeartbeats 8000000 in
theorem taken_main (A B C : Option Addr) (c d m : Nat) (l : List Col) (r : List Val) (o : List Col) (w : World) (ha : RdC w A l) (hb : RdV w B r) (hc : RdC w C o) (hnA : A = none → c = 0) (hnB : B = none → d = 0) (hL : largeC l = false) (hR : largeR r = false) (hO : largeC o = false) (hG : goodC l = true) (hE : fillE l r = 0) : Tells Try.prog 17 #[.slice A l.length c, .slice B r.length d, .slice C o.length m] w := by
  unfold Tells
  have hst := run_sf
  have HA0 := Lib.hid ha
  have HB0 := Lib.hid hb
  have HC0 := Lib.hid hc
  have HNA := Lib.hid hnA
  have HNB := Lib.hid hnB
  have hl := large_cols A c l _ HA0.out
  rw [hL] at hl
  have HR := Lib.hid hR
  clear hR
  have HO := Lib.hid hO
  clear hO
  have HG := Lib.hid hG
  clear hG
  have hll := largeC_len hL
  have hrl := largeR_len HR.out
  have hol := largeC_len HO.out
  obtain ⟨e1, e2, e3, e4⟩ := fill_again hE
  have HE1 := Lib.hid e1
  have HE2 := Lib.hid e2
  have HE3 := Lib.hid e3
  have HE4 := Lib.hid e4
  have HE0 := Lib.hid hE
  have HPL := Lib.hid (padV_len l r)
  clear hL hE e1 e2 e3 e4
  clear ha hb hc hnA hnB
  go_enter Try.func17, Try.ntmps17
  go_wp2_with fail
  refine hl.mono ?_
  rintro e w1 ⟨rfl, b1⟩
  have k1 := b1
  have HA1 := Lib.hid (HA0.out.keep b1 (Nat.le_refl _))
  have HB1 := Lib.hid (HB0.out.keep b1 (Nat.le_refl _))
  have HC1 := Lib.hid (HC0.out.keep b1 (Nat.le_refl _))
  clear hl b1 HA0 HB0 HC0
  have h2 := large_row B d r w1 HB1.out
  rw [HR.out] at h2
  go_wp2_with fail
  refine h2.mono ?_
  rintro e w2 ⟨rfl, b2⟩
  have k2 := below_trans k1 b2
  have HA2 := Lib.hid (HA1.out.keep b2 (Nat.le_refl _))
  have HB2 := Lib.hid (HB1.out.keep b2 (Nat.le_refl _))
  have HC2 := Lib.hid (HC1.out.keep b2 (Nat.le_refl _))
  clear b2 k1 HA1 HB1 HC1 h2
  have h3 := large_cols C m o w2 HC2.out
  rw [HO.out] at h3
  go_wp2_with fail
  refine h3.mono ?_
  rintro e w3 ⟨rfl, b3⟩
  have k3 := below_trans k2 b3
  have HA3 := Lib.hid (HA2.out.keep b3 (Nat.le_refl _))
  have HB3 := Lib.hid (HB2.out.keep b3 (Nat.le_refl _))
  have HC3 := Lib.hid (HC2.out.keep b3 (Nat.le_refl _))
  clear b3 k2 HA2 HB2 HC2 h3
  have h4 := rgoodc_any A c l w3 HA3.out
  rw [HG.out] at h4
  go_wp2_with fail
  refine h4.mono ?_
  rintro e w4 ⟨rfl, b4⟩
  have k4 := below_trans k3 b4
  have HA4 := Lib.hid (HA3.out.keep b4 (Nat.le_refl _))
  have HB4 := Lib.hid (HB3.out.keep b4 (Nat.le_refl _))
  have HC4 := Lib.hid (HC3.out.keep b4 (Nat.le_refl _))
  clear b4 k3 HA3 HB3 HC3 h4
  go_wp2_with (at_builtin; refine wl_app_vals rfl _ _ rfl w4.heap.size _ 0 [] rfl (Fresh.empty _ _ _ _ _) (by simp) B d r rfl HNB.out (HB4.out.keep ((Below.refl _ _).alloc (Nat.le_refl _) _) (Nat.le_refl _)) (by omega) ?_; intro v5 w5 hF b5' _; rw [Nat.zero_add, List.nil_append] at hF; obtain ⟨A5, c5, rfl, hn5⟩ := hF.slice; have b5 : Below w4.heap.size w4 w5 := ((Below.refl _ _).alloc (Nat.le_refl _) _).trans b5'; have HI5 := Lib.hid (Fresh.rd Val.cells_len (by decide) hF); have k5 := below_trans k4 b5; have HA5 := Lib.hid (HA4.out.keep b5 (Nat.le_refl _)); have HC5 := Lib.hid (HC4.out.keep b5 (Nat.le_refl _)); clear b5 b5' k4 HA4 HB4 HC4 hF hn5)
  have hf := fill_any A A5 c c5 l r w5 HA5.out HI5.out (by omega)
  rw [HE0.out, HE1.out, HPL.out] at hf
  refine hf.mono ?_
  rintro e w6 ⟨A6, c6, rfl, hf6, hn6, b6⟩
  have HF6 := Lib.hid hf6
  have HNF := Lib.hid hn6
  have k6 := below_trans k5 b6
  have HA6 := Lib.hid (HA5.out.keep b6 (Nat.le_refl _))
  have HC6 := Lib.hid (HC5.out.keep b6 (Nat.le_refl _))
  clear hf hf6 hn6 b6 k5 HA5 HC5 HI5
  have hpat : ∀ j (hj : j < l.length), (padV l r)[j]? = some (r.getD j l[j].d) := fun j hj => by rw [List.getElem?_eq_getElem (by rw [padV_len]; exact hj), padV_at l r j hj]
  have HPA := Lib.hid hpat
  clear hpat
  generalize padV l r = f at *
  go_wp2_with (at_builtin; refine wl_app_cols rfl _ _ rfl w6.heap.size _ 0 [] rfl (Fresh.empty _ _ _ _ _) (by simp) A c l rfl HNA.out (HA6.out.keep ((Below.refl _ _).alloc (Nat.le_refl _) _) (Nat.le_refl _)) (by omega) ?_; intro v7 w7 hF b7' _; rw [Nat.zero_add, List.nil_append] at hF; obtain ⟨A7, c7, rfl, hn7⟩ := hF.slice; have b7 : Below w6.heap.size w6 w7 := ((Below.refl _ _).alloc (Nat.le_refl _) _).trans b7'; have HI7 := Lib.hid (Fresh.rd Col.cells_len (by decide) hF); have HN7 := Lib.hid hn7; have k7 := below_trans k6 b7; have HA7 := Lib.hid (HA6.out.keep b7 (Nat.le_refl _)); have HC7 := Lib.hid (HC6.out.keep b7 (Nat.le_refl _)); have HF7 := Lib.hid (HF6.out.keep b7 (Nat.le_refl _)); clear b7 b7' k6 HA6 HC6 HF6 hF hn7)
  go_loopw [9, 10] (fun kv i wr => ∃ k : Nat, k ≤ o.length ∧ i = .int .i64 k ∧ (∃ A' c' K, kv = .slice A' K.length c' ∧ RdC wr A' K ∧ (A' = none → c' = 0) ∧ InvK l K) ∧ Below w7.heap.size w7 wr) (fun _ i _ => o.length - (intOf i).toNat)
  case atStart => exact ⟨0, by omega, rfl, ⟨A7, c7, l, rfl, HI7.out, HN7.out, InvK.start hll⟩, Below.refl _ _⟩
  case round =>
    obtain ⟨k, hk, rfl, ⟨A8, c8, K, rfl, hrK, hnK, hiK⟩, hbr⟩ := hrel
    by_cases hlt : k < o.length
    · obtain ⟨ad, rfl, q0, q1, q2, q3, q4, q5, q6⟩ := RdC.at (HC7.out.keep hbr (Nat.le_refl _)) k hlt
      have hadd := add_any A8 c8 K o[k] wr hrK hnK
      have HI := Lib.hid hiK
      have HRK := Lib.hid hrK
      have HNK := Lib.hid hnK
      have hkl : K.length ≤ 50 := hiK.2.1
      clear hiK hrK hnK
      generalize o[k] = x at *
      by_cases hz : addE K x = 0
      · rw [hz] at hadd
        have HZ := Lib.hid hz
        clear hz
        go_wp2_with fail
        refine hadd.mono ?_
        rintro e w8 ⟨A9, c9, rfl, hr9, hn9, b9⟩
        have H9 := Lib.hid hr9
        have N9 := Lib.hid hn9
        have hb9 := hbr.trans (b9.mono hbr.size)
        clear hr9 hn9 b9 hadd
        go_wp2_with fail
        exact ⟨⟨k + 1, by omega, by go_num, ⟨A9, c9, _, rfl, H9.out, N9.out, HI.out.step HZ.out⟩, hb9⟩, by simp [intOf]; omega⟩
      · have t1 : (addE K x == 0) = false := by rw [beq_eq_false_iff_ne]; exact hz
        generalize addE K x = ae at *
        clear hz
        go_wp2_with fail
        refine hadd.mono ?_
        rintro e w8 ⟨A9, c9, rfl, hr9, hn9, b9⟩
        have hb9 := hbr.trans (b9.mono hbr.size)
        have H9 := Lib.hid (HRK.out.keep b9 (Nat.le_refl _))
        clear hr9 hn9 b9 hadd
        go_wp2_with fail
        exact ⟨⟨k + 1, by omega, by go_num, ⟨A8, c8, K, rfl, H9.out, HNK.out, HI.out⟩, hb9⟩, by simp [intOf]; omega⟩
    · obtain rfl : k = o.length := by omega
      have HI := Lib.hid hiK
      have HRK := Lib.hid hrK
      have hkl : K.length ≤ 50 := hiK.2.1
      have hkl2 : l.length ≤ K.length := hiK.1
      have HAr := Lib.hid (HA7.out.keep hbr (Nat.le_refl _))
      have HFr := Lib.hid (HF7.out.keep hbr (Nat.le_refl _))
      have kr := below_trans k7 hbr
      clear hiK hrK hnK HA7 HC7 HF7 HI7 k7 hbr hlt hk
      obtain ⟨wo, hwo⟩ : ∃ wo : World, wo = wr := ⟨_, rfl⟩
      subst hwo
      go_wp2_with (at_builtin; refine wl_app_vals rfl _ _ rfl wo.heap.size _ 0 [] rfl (Fresh.empty _ _ _ _ _) (by simp) A6 c6 f (by rw [HPL.out]; rfl) HNF.out (HFr.out.keep ((Below.refl _ _).alloc (Nat.le_refl _) _) (Nat.le_refl _)) (by rw [HPL.out]; omega) ?_; intro v10 w10 hF b10' _; rw [Nat.zero_add, List.nil_append] at hF; obtain ⟨A10, c10, rfl, hn10⟩ := hF.slice; have b10 : Below wo.heap.size wo w10 := ((Below.refl _ _).alloc (Nat.le_refl _) _).trans b10'; have HI10 := Lib.hid (Fresh.rd Val.cells_len (by decide) hF); have k10 := below_trans kr b10; have HA10 := Lib.hid (HAr.out.keep b10 (Nat.le_refl _)); have HK10 := Lib.hid (HRK.out.keep b10 (Nat.le_refl _)); have HF10 := Lib.hid (HFr.out.keep b10 (Nat.le_refl _)); clear b10 b10' kr HAr HRK HFr hF hn10)
      have hp := pad_any A8 A10 c8 c10 K f w10 HK10.out HI10.out (by omega)
      refine hp.mono ?_
      rintro e w11 ⟨A11, c11, rfl, hp11, hn11, b11⟩
      have HP11 := Lib.hid hp11
      have k11 := below_trans k10 b11
      have HA11 := Lib.hid (HA10.out.keep b11 (Nat.le_refl _))
      have HK11 := Lib.hid (HK10.out.keep b11 (Nat.le_refl _))
      have HF11 := Lib.hid (HF10.out.keep b11 (Nat.le_refl _))
      clear hp hp11 hn11 b11 k10 HA10 HK10 HF10 HI10
      have hpf := HPL.out
      have t0 : ((l.length : Int) == (l.length : Int)) = true := beq_self_eq_true _
      have t1 : ((K.length : Int) == (K.length : Int)) = true := beq_self_eq_true _
      have t2 : decide ((K.length : Int) < (l.length : Int)) = false := by rw [decide_eq_false]; omega
      have t3 : decide (K.length < l.length) = false := by rw [decide_eq_false]; omega
      have HV := Lib.hid value_same
      have HT := Lib.hid takes_any
      clear hpf
      go_wp2_with fail
      go_loopw [14] (fun i wr => ∃ k : Nat, k ≤ K.length ∧ i = .int .i64 k ∧ Below w11.heap.size w11 wr) (fun i _ => K.length - (intOf i).toNat)
      case atStart => exact ⟨0, by omega, rfl, Below.refl _ _⟩
      case round =>
        obtain ⟨k, hk, rfl, hbr⟩ := hrel
        by_cases hlt : k < K.length
        · obtain ⟨gd, rfl, q0, q1, q2, q3, q4, q5, q6⟩ := RdC.at (HK11.out.keep hbr (Nat.le_refl _)) k hlt
          obtain ⟨pd, rfl, p0, p1, p2, p3⟩ := RdV.at (HP11.out.keep hbr (Nat.le_refl _)) k (by rw [padV_len]; exact hlt)
          have hpa := padV_at K f k hlt
          rw [hpa] at p0 p1 p2 p3
          have hw1 : IntKind.i64.wrap ((k : Int) + 1) = (k : Int) + 1 := by rw [IntKind.wrap_i64]; omega
          have hpl := HPL.out
          by_cases hkl3 : k < l.length
          · have hkf : k < f.length := by omega
            clear hpl
            obtain ⟨fd, rfl, f0, f1, f2, f3⟩ := RdV.at (HF11.out.keep hbr (Nat.le_refl _)) k hkf
            have hg : f.getD k K[k].d = f[k] := by simp [List.getD, List.getElem?_eq_getElem hkf]
            rw [hg] at p0 p1 p2 p3
            have htk : takesV K[k].kind K[k].nn f[k].kind f[k].n f[k].f f[k].s = 0 := by
              have h1 := HE4.out k hkl3
              have h2 : f[k] = r.getD k l[k].d := by have := HPA.out k hkl3; rw [List.getElem?_eq_getElem (by omega)] at this; exact Option.some.inj this
              have h3 := HI.out.2.2.1 k hkl3 hlt
              rw [h3, h2]
              exact h1
            have hc1 := HT.out K[k].name K[k].kind K[k].nn K[k].d.kind K[k].d.n K[k].d.f K[k].d.s f[k].kind f[k].n f[k].f f[k].s
            rw [htk] at hc1
            have hc2 := HV.out f[k].kind f[k].n f[k].f f[k].s
            have s1 : decide ((k : Int) < (l.length : Int)) = true := by rw [decide_eq_true]; omega
            have s2 : decide ((l.length : Int) ≤ (k : Int)) = false := by rw [decide_eq_false]; omega
            have s3 : decide (l.length ≤ k) = false := by rw [decide_eq_false]; omega
            have s4 : decide (k < l.length) = true := by rw [decide_eq_true]; omega
            clear hpa hg htk
            generalize f[k] = y at *
            generalize K[k] = x at *
            go_wp2_with fail
            refine wp_region_held_drew (S := (fun w' => Below wr.heap.size wr w' ∧ w'.cell? (gd.add (k * 7)) = some (.string x.name) ∧ w'.cell? ⟨(gd.add (k * 7)).block, (gd.add (k * 7)).off + 1, none⟩ = some (.int .i64 x.kind) ∧ w'.cell? ⟨(gd.add (k * 7)).block, (gd.add (k * 7)).off + 2, none⟩ = some (.bool x.nn) ∧ w'.cell? ⟨(gd.add (k * 7)).block, (gd.add (k * 7)).off + 3, none⟩ = some (.int .i64 x.d.kind) ∧ w'.cell? ⟨(gd.add (k * 7)).block, (gd.add (k * 7)).off + 4, none⟩ = some (.int .i64 x.d.n) ∧ w'.cell? ⟨(gd.add (k * 7)).block, (gd.add (k * 7)).off + 5, none⟩ = some (.float .f64 x.d.f) ∧ w'.cell? ⟨(gd.add (k * 7)).block, (gd.add (k * 7)).off + 6, none⟩ = some (.string x.d.s) ∧ w'.cell? (pd.add (k * 4)) = some (.int .i64 y.kind) ∧ w'.cell? ⟨(pd.add (k * 4)).block, (pd.add (k * 4)).off + 1, none⟩ = some (.int .i64 y.n) ∧ w'.cell? ⟨(pd.add (k * 4)).block, (pd.add (k * 4)).off + 2, none⟩ = some (.float .f64 y.f) ∧ w'.cell? ⟨(pd.add (k * 4)).block, (pd.add (k * 4)).off + 3, none⟩ = some (.string y.s) ∧ w'.cell? (fd.add (k * 4)) = some (.int .i64 y.kind) ∧ w'.cell? ⟨(fd.add (k * 4)).block, (fd.add (k * 4)).off + 1, none⟩ = some (.int .i64 y.n) ∧ w'.cell? ⟨(fd.add (k * 4)).block, (fd.add (k * 4)).off + 2, none⟩ = some (.float .f64 y.f) ∧ w'.cell? ⟨(fd.add (k * 4)).block, (fd.add (k * 4)).off + 3, none⟩ = some (.string y.s))) (by kernel_rfl) (⟨(Below.refl _ _).drew, q0, q1, q2, q3, q4, q5, q6, p0, p1, p2, p3, f0, f1, f2, f3⟩) (fun hHeld => ?_)
            (refine wpAnyH_take (i := 0) (oi := { dst := some 100, op := Go.Op.move (Go.Operand.tmp 9), type := 49, pos := _, after := _, guard := none }) (v := ?_) rfl (by kernel_rfl) (by kernel_rfl) (by kernel_rfl) (fun _ _ _ h => h) (Or.inl ⟨by rfl, ?_⟩) (by assumption) ?_; rotate_left; (intro w hSw; (try dsimp only at hSw); go_simp; try with_reducible rfl); try simp only [Act.put, List.setIfInBounds_toArray, List.set_cons_zero, List.set_cons_succ])
            (refine wpAnyH_take (i := 1) (oi := { dst := some 101, op := Go.Op.move (Go.Operand.tmp 14), type := 3, pos := _, after := _, guard := none }) (v := ?_) rfl (by kernel_rfl) (by kernel_rfl) (by kernel_rfl) (fun _ _ _ h => h) (Or.inl ⟨by rfl, ?_⟩) (by assumption) ?_; rotate_left; (intro w hSw; (try dsimp only at hSw); go_simp; try with_reducible rfl); try simp only [Act.put, List.setIfInBounds_toArray, List.set_cons_zero, List.set_cons_succ])
            (refine wpAnyH_take (i := 2) (oi := { dst := some 102, op := Go.Op.indexAddr 49 (Go.Operand.tmp 100) (Go.Operand.tmp 101), type := 0, pos := _, after := _, guard := none }) (v := ?_) rfl (by kernel_rfl) (by kernel_rfl) (by kernel_rfl) (fun _ _ _ h => h) (Or.inl ⟨by rfl, ?_⟩) (by assumption) ?_; rotate_left; (intro w hSw; (try dsimp only at hSw); go_simp; try with_reducible rfl); try simp only [Act.put, List.setIfInBounds_toArray, List.set_cons_zero, List.set_cons_succ])
            (refine wpAnyH_take (i := 3) (oi := { dst := some 103, op := Go.Op.load 53 (Go.Operand.tmp 102), type := 53, pos := _, after := _, guard := none }) (v := ?_) rfl (by kernel_rfl) (by kernel_rfl) (by kernel_rfl) (fun _ _ _ h => h) (Or.inl ⟨by rfl, ?_⟩) (by assumption) ?_; rotate_left; (intro w hSw; (try dsimp only at hSw); go_simp; try with_reducible rfl); try simp only [Act.put, List.setIfInBounds_toArray, List.set_cons_zero, List.set_cons_succ])
            (refine wpAnyH_take (i := 4) (oi := { dst := some 104, op := Go.Op.move (Go.Operand.tmp 13), type := 39, pos := _, after := _, guard := none }) (v := ?_) rfl (by kernel_rfl) (by kernel_rfl) (by kernel_rfl) (fun _ _ _ h => h) (Or.inl ⟨by rfl, ?_⟩) (by assumption) ?_; rotate_left; (intro w hSw; (try dsimp only at hSw); go_simp; try with_reducible rfl); try simp only [Act.put, List.setIfInBounds_toArray, List.set_cons_zero, List.set_cons_succ])
            (refine wpAnyH_take (i := 5) (oi := { dst := some 105, op := Go.Op.move (Go.Operand.tmp 14), type := 3, pos := _, after := _, guard := none }) (v := ?_) rfl (by kernel_rfl) (by kernel_rfl) (by kernel_rfl) (fun _ _ _ h => h) (Or.inl ⟨by rfl, ?_⟩) (by assumption) ?_; rotate_left; (intro w hSw; (try dsimp only at hSw); go_simp; try with_reducible rfl); try simp only [Act.put, List.setIfInBounds_toArray, List.set_cons_zero, List.set_cons_succ])
            (refine wpAnyH_take (i := 6) (oi := { dst := some 106, op := Go.Op.indexAddr 39 (Go.Operand.tmp 104) (Go.Operand.tmp 105), type := 0, pos := _, after := _, guard := none }) (v := ?_) rfl (by kernel_rfl) (by kernel_rfl) (by kernel_rfl) (fun _ _ _ h => h) (Or.inl ⟨by rfl, ?_⟩) (by assumption) ?_; rotate_left; (intro w hSw; (try dsimp only at hSw); go_simp; try with_reducible rfl); try simp only [Act.put, List.setIfInBounds_toArray, List.set_cons_zero, List.set_cons_succ])
            (refine wpAnyH_take (i := 7) (oi := { dst := some 107, op := Go.Op.load 24 (Go.Operand.tmp 106), type := 24, pos := _, after := _, guard := none }) (v := ?_) rfl (by kernel_rfl) (by kernel_rfl) (by kernel_rfl) (fun _ _ _ h => h) (Or.inl ⟨by rfl, ?_⟩) (by assumption) ?_; rotate_left; (intro w hSw; (try dsimp only at hSw); go_simp; try with_reducible rfl); try simp only [Act.put, List.setIfInBounds_toArray, List.set_cons_zero, List.set_cons_succ])
            refine wpAnyH_ready (rs := [8]) (by kernel_rfl) (by simp) ?_
            refine AllReadyH.cons (o := { dst := some 108, op := Go.Op.call { callee := Go.Callee.value (Go.Operand.func 55), args := #[Go.Operand.tmp 103, Go.Operand.tmp 107], argTypes := #[53, 24] }, type := 27, pos := _, after := _, guard := none }) rfl (fun K hK => ?_) AllReadyH.nil
            go_simp
            (refine (hc1 _).mono ?_; rintro e w16 ⟨rfl, b16⟩)
            go_wp2_with fail
            refine hK.out _ _ ?_ (fun hHeld2 => ?_)
            · (go_split_ands; exact ⟨Below.trans (by assumption) (b16.mono (Below.size (by assumption))), kc b16 (by assumption), kc b16 (by assumption), kc b16 (by assumption), kc b16 (by assumption), kc b16 (by assumption), kc b16 (by assumption), kc b16 (by assumption), kc b16 (by assumption), kc b16 (by assumption), kc b16 (by assumption), kc b16 (by assumption), kc b16 (by assumption), kc b16 (by assumption), kc b16 (by assumption), kc b16 (by assumption)⟩)
            clear hK K hHeld
            have hHeld := hHeld2
            clear hHeld2
            try simp only [Act.put, List.setIfInBounds_toArray, List.set_cons_zero, List.set_cons_succ]
            (refine wpAnyH_take (i := 9) (oi := { dst := some 109, op := Go.Op.binOp Go.BinOp.neq 27 (Go.Operand.tmp 108) (Go.Operand.const (Go.Value.int Go.IntKind.i64 0)) 27, type := 4, pos := _, after := _, guard := none }) (v := ?_) rfl (by kernel_rfl) (by kernel_rfl) (by kernel_rfl) (fun _ _ _ h => h) (Or.inl ⟨by rfl, ?_⟩) (by assumption) ?_; rotate_left; (intro w hSw; (try dsimp only at hSw); go_simp; try with_reducible rfl); try simp only [Act.put, List.setIfInBounds_toArray, List.set_cons_zero, List.set_cons_succ])
            (refine wpAnyH_take (i := 10) (oi := { dst := some 110, op := Go.Op.move (Go.Operand.tmp 109), type := 4, pos := _, after := _, guard := none }) (v := ?_) rfl (by kernel_rfl) (by kernel_rfl) (by kernel_rfl) (fun _ _ _ h => h) (Or.inl ⟨by rfl, ?_⟩) (by assumption) ?_; rotate_left; (intro w hSw; (try dsimp only at hSw); go_simp; try with_reducible rfl); try simp only [Act.put, List.setIfInBounds_toArray, List.set_cons_zero, List.set_cons_succ])
            (refine wpAnyH_take (i := 11) (oi := { dst := some 111, op := Go.Op.move (Go.Operand.tmp 14), type := 3, pos := _, after := _, guard := some (10, false) }) (v := ?_) rfl (by kernel_rfl) (by kernel_rfl) (by kernel_rfl) (fun _ _ _ h => h) (Or.inl ⟨by rfl, ?_⟩) (by assumption) ?_; rotate_left; (intro w hSw; (try dsimp only at hSw); go_simp; try with_reducible rfl); try simp only [Act.put, List.setIfInBounds_toArray, List.set_cons_zero, List.set_cons_succ])
            (refine wpAnyH_take (i := 12) (oi := { dst := some 112, op := Go.Op.move (Go.Operand.tmp 7), type := 39, pos := _, after := _, guard := some (10, false) }) (v := ?_) rfl (by kernel_rfl) (by kernel_rfl) (by kernel_rfl) (fun _ _ _ h => h) (Or.inl ⟨by rfl, ?_⟩) (by assumption) ?_; rotate_left; (intro w hSw; (try dsimp only at hSw); go_simp; try with_reducible rfl); try simp only [Act.put, List.setIfInBounds_toArray, List.set_cons_zero, List.set_cons_succ])
            (refine wpAnyH_take (i := 13) (oi := { dst := some 113, op := Go.Op.call { callee := Go.Callee.builtin Go.Builtin.len, args := #[Go.Operand.tmp 112], argTypes := #[39] }, type := 3, pos := _, after := _, guard := some (10, false) }) (v := ?_) rfl (by kernel_rfl) (by kernel_rfl) (by kernel_rfl) (fun _ _ _ h => h) (Or.inl ⟨by rfl, ?_⟩) (by assumption) ?_; rotate_left; (intro w hSw; (try dsimp only at hSw); go_simp; try with_reducible rfl); try simp only [Act.put, List.setIfInBounds_toArray, List.set_cons_zero, List.set_cons_succ])
            (refine wpAnyH_take (i := 14) (oi := { dst := some 114, op := Go.Op.binOp Go.BinOp.lss 3 (Go.Operand.tmp 111) (Go.Operand.tmp 113) 3, type := 4, pos := _, after := _, guard := some (10, false) }) (v := ?_) rfl (by kernel_rfl) (by kernel_rfl) (by kernel_rfl) (fun _ _ _ h => h) (Or.inl ⟨by rfl, ?_⟩) (by assumption) ?_; rotate_left; (intro w hSw; (try dsimp only at hSw); go_simp; try with_reducible rfl); try simp only [Act.put, List.setIfInBounds_toArray, List.set_cons_zero, List.set_cons_succ])
            (refine wpAnyH_take (i := 15) (oi := { dst := some 115, op := Go.Op.move (Go.Operand.tmp 114), type := 4, pos := _, after := _, guard := some (10, false) }) (v := ?_) rfl (by kernel_rfl) (by kernel_rfl) (by kernel_rfl) (fun _ _ _ h => h) (Or.inl ⟨by rfl, ?_⟩) (by assumption) ?_; rotate_left; (intro w hSw; (try dsimp only at hSw); go_simp; try with_reducible rfl); try simp only [Act.put, List.setIfInBounds_toArray, List.set_cons_zero, List.set_cons_succ])
            (refine wpAnyH_take (i := 16) (oi := { dst := some 116, op := Go.Op.move (Go.Operand.tmp 13), type := 39, pos := _, after := _, guard := some (15, true) }) (v := ?_) rfl (by kernel_rfl) (by kernel_rfl) (by kernel_rfl) (fun _ _ _ h => h) (Or.inl ⟨by rfl, ?_⟩) (by assumption) ?_; rotate_left; (intro w hSw; (try dsimp only at hSw); go_simp; try with_reducible rfl); try simp only [Act.put, List.setIfInBounds_toArray, List.set_cons_zero, List.set_cons_succ])
            (refine wpAnyH_take (i := 17) (oi := { dst := some 117, op := Go.Op.move (Go.Operand.tmp 14), type := 3, pos := _, after := _, guard := some (15, true) }) (v := ?_) rfl (by kernel_rfl) (by kernel_rfl) (by kernel_rfl) (fun _ _ _ h => h) (Or.inl ⟨by rfl, ?_⟩) (by assumption) ?_; rotate_left; (intro w hSw; (try dsimp only at hSw); go_simp; try with_reducible rfl); try simp only [Act.put, List.setIfInBounds_toArray, List.set_cons_zero, List.set_cons_succ])
            (refine wpAnyH_take (i := 18) (oi := { dst := some 118, op := Go.Op.indexAddr 39 (Go.Operand.tmp 116) (Go.Operand.tmp 117), type := 0, pos := _, after := _, guard := some (15, true) }) (v := ?_) rfl (by kernel_rfl) (by kernel_rfl) (by kernel_rfl) (fun _ _ _ h => h) (Or.inl ⟨by rfl, ?_⟩) (by assumption) ?_; rotate_left; (intro w hSw; (try dsimp only at hSw); go_simp; try with_reducible rfl); try simp only [Act.put, List.setIfInBounds_toArray, List.set_cons_zero, List.set_cons_succ])
            (refine wpAnyH_take (i := 19) (oi := { dst := some 119, op := Go.Op.load 24 (Go.Operand.tmp 118), type := 24, pos := _, after := _, guard := some (15, true) }) (v := ?_) rfl (by kernel_rfl) (by kernel_rfl) (by kernel_rfl) (fun _ _ _ h => h) (Or.inl ⟨by rfl, ?_⟩) (by assumption) ?_; rotate_left; (intro w hSw; (try dsimp only at hSw); go_simp; try with_reducible rfl); try simp only [Act.put, List.setIfInBounds_toArray, List.set_cons_zero, List.set_cons_succ])
            (refine wpAnyH_take (i := 20) (oi := { dst := some 120, op := Go.Op.move (Go.Operand.tmp 7), type := 39, pos := _, after := _, guard := some (15, true) }) (v := ?_) rfl (by kernel_rfl) (by kernel_rfl) (by kernel_rfl) (fun _ _ _ h => h) (Or.inl ⟨by rfl, ?_⟩) (by assumption) ?_; rotate_left; (intro w hSw; (try dsimp only at hSw); go_simp; try with_reducible rfl); try simp only [Act.put, List.setIfInBounds_toArray, List.set_cons_zero, List.set_cons_succ])
            (refine wpAnyH_take (i := 21) (oi := { dst := some 121, op := Go.Op.move (Go.Operand.tmp 14), type := 3, pos := _, after := _, guard := some (15, true) }) (v := ?_) rfl (by kernel_rfl) (by kernel_rfl) (by kernel_rfl) (fun _ _ _ h => h) (Or.inl ⟨by rfl, ?_⟩) (by assumption) ?_; rotate_left; (intro w hSw; (try dsimp only at hSw); go_simp; try with_reducible rfl); try simp only [Act.put, List.setIfInBounds_toArray, List.set_cons_zero, List.set_cons_succ])
            (refine wpAnyH_take (i := 22) (oi := { dst := some 122, op := Go.Op.indexAddr 39 (Go.Operand.tmp 120) (Go.Operand.tmp 121), type := 0, pos := _, after := _, guard := some (15, true) }) (v := ?_) rfl (by kernel_rfl) (by kernel_rfl) (by kernel_rfl) (fun _ _ _ h => h) (Or.inl ⟨by rfl, ?_⟩) (by assumption) ?_; rotate_left; (intro w hSw; (try dsimp only at hSw); go_simp; try with_reducible rfl); try simp only [Act.put, List.setIfInBounds_toArray, List.set_cons_zero, List.set_cons_succ])
            (refine wpAnyH_take (i := 23) (oi := { dst := some 123, op := Go.Op.load 24 (Go.Operand.tmp 122), type := 24, pos := _, after := _, guard := some (15, true) }) (v := ?_) rfl (by kernel_rfl) (by kernel_rfl) (by kernel_rfl) (fun _ _ _ h => h) (Or.inl ⟨by rfl, ?_⟩) (by assumption) ?_; rotate_left; (intro w hSw; (try dsimp only at hSw); go_simp; try with_reducible rfl); try simp only [Act.put, List.setIfInBounds_toArray, List.set_cons_zero, List.set_cons_succ])
            refine wpAnyH_ready (rs := [24]) (by kernel_rfl) (by simp) ?_
            refine AllReadyH.cons (o := { dst := some 124, op := Go.Op.call { callee := Go.Callee.value (Go.Operand.func 29), args := #[Go.Operand.tmp 119, Go.Operand.tmp 123], argTypes := #[24, 24] }, type := 4, pos := _, after := _, guard := some (15, true) }) rfl (fun K hK => ?_) AllReadyH.nil
            go_simp
            (refine (hc2 _).mono ?_; rintro e w17 ⟨rfl, b17⟩)
            go_wp2_with fail
            refine hK.out _ _ ?_ (fun hHeld2 => ?_)
            · (go_split_ands; exact ⟨Below.trans (by assumption) (b17.mono (Below.size (by assumption))), kc b17 (by assumption), kc b17 (by assumption), kc b17 (by assumption), kc b17 (by assumption), kc b17 (by assumption), kc b17 (by assumption), kc b17 (by assumption), kc b17 (by assumption), kc b17 (by assumption), kc b17 (by assumption), kc b17 (by assumption), kc b17 (by assumption), kc b17 (by assumption), kc b17 (by assumption), kc b17 (by assumption)⟩)
            clear hK K hHeld
            have hHeld := hHeld2
            clear hHeld2
            try simp only [Act.put, List.setIfInBounds_toArray, List.set_cons_zero, List.set_cons_succ]
            (refine wpAnyH_take (i := 25) (oi := { dst := some 125, op := Go.Op.unOp Go.UnOp.not 4 (Go.Operand.tmp 124), type := 4, pos := _, after := _, guard := some (15, true) }) (v := ?_) rfl (by kernel_rfl) (by kernel_rfl) (by kernel_rfl) (fun _ _ _ h => h) (Or.inl ⟨by rfl, ?_⟩) (by assumption) ?_; rotate_left; (intro w hSw; (try dsimp only at hSw); go_simp; try with_reducible rfl); try simp only [Act.put, List.setIfInBounds_toArray, List.set_cons_zero, List.set_cons_succ])
            (refine wpAnyH_take (i := 26) (oi := { dst := some 126, op := Go.Op.pick (Go.Operand.tmp 115) (Go.Operand.tmp 125) (Go.Operand.const (Go.Value.bool false)), type := 4, pos := _, after := _, guard := some (10, false) }) (v := ?_) rfl (by kernel_rfl) (by kernel_rfl) (by kernel_rfl) (fun _ _ _ h => h) (Or.inl ⟨by rfl, ?_⟩) (by assumption) ?_; rotate_left; (intro w hSw; (try dsimp only at hSw); go_simp; try with_reducible rfl); try simp only [Act.put, List.setIfInBounds_toArray, List.set_cons_zero, List.set_cons_succ])
            (refine wpAnyH_take (i := 27) (oi := { dst := some 127, op := Go.Op.pick (Go.Operand.tmp 110) (Go.Operand.const (Go.Value.bool true)) (Go.Operand.tmp 126), type := 4, pos := _, after := _, guard := none }) (v := ?_) rfl (by kernel_rfl) (by kernel_rfl) (by kernel_rfl) (fun _ _ _ h => h) (Or.inl ⟨by rfl, ?_⟩) (by assumption) ?_; rotate_left; (intro w hSw; (try dsimp only at hSw); go_simp; try with_reducible rfl); try simp only [Act.put, List.setIfInBounds_toArray, List.set_cons_zero, List.set_cons_succ])
            (refine wpAnyH_take (i := 28) (oi := { dst := some 128, op := Go.Op.move (Go.Operand.tmp 127), type := 4, pos := _, after := _, guard := none }) (v := ?_) rfl (by kernel_rfl) (by kernel_rfl) (by kernel_rfl) (fun _ _ _ h => h) (Or.inl ⟨by rfl, ?_⟩) (by assumption) ?_; rotate_left; (intro w hSw; (try dsimp only at hSw); go_simp; try with_reducible rfl); try simp only [Act.put, List.setIfInBounds_toArray, List.set_cons_zero, List.set_cons_succ])
            (refine wpAnyH_take (i := 29) (oi := { dst := some 129, op := Go.Op.move (Go.Operand.tmp 14), type := 3, pos := _, after := _, guard := some (28, false) }) (v := ?_) rfl (by kernel_rfl) (by kernel_rfl) (by kernel_rfl) (fun _ _ _ h => h) (Or.inl ⟨by rfl, ?_⟩) (by assumption) ?_; rotate_left; (intro w hSw; (try dsimp only at hSw); go_simp; try with_reducible rfl); try simp only [Act.put, List.setIfInBounds_toArray, List.set_cons_zero, List.set_cons_succ])
            (refine wpAnyH_take (i := 30) (oi := { dst := some 130, op := Go.Op.move (Go.Operand.tmp 7), type := 39, pos := _, after := _, guard := some (28, false) }) (v := ?_) rfl (by kernel_rfl) (by kernel_rfl) (by kernel_rfl) (fun _ _ _ h => h) (Or.inl ⟨by rfl, ?_⟩) (by assumption) ?_; rotate_left; (intro w hSw; (try dsimp only at hSw); go_simp; try with_reducible rfl); try simp only [Act.put, List.setIfInBounds_toArray, List.set_cons_zero, List.set_cons_succ])
            (refine wpAnyH_take (i := 31) (oi := { dst := some 131, op := Go.Op.call { callee := Go.Callee.builtin Go.Builtin.len, args := #[Go.Operand.tmp 130], argTypes := #[39] }, type := 3, pos := _, after := _, guard := some (28, false) }) (v := ?_) rfl (by kernel_rfl) (by kernel_rfl) (by kernel_rfl) (fun _ _ _ h => h) (Or.inl ⟨by rfl, ?_⟩) (by assumption) ?_; rotate_left; (intro w hSw; (try dsimp only at hSw); go_simp; try with_reducible rfl); try simp only [Act.put, List.setIfInBounds_toArray, List.set_cons_zero, List.set_cons_succ])
            (refine wpAnyH_take (i := 32) (oi := { dst := some 132, op := Go.Op.binOp Go.BinOp.geq 3 (Go.Operand.tmp 129) (Go.Operand.tmp 131) 3, type := 4, pos := _, after := _, guard := some (28, false) }) (v := ?_) rfl (by kernel_rfl) (by kernel_rfl) (by kernel_rfl) (fun _ _ _ h => h) (Or.inl ⟨by rfl, ?_⟩) (by assumption) ?_; rotate_left; (intro w hSw; (try dsimp only at hSw); go_simp; try with_reducible rfl); try simp only [Act.put, List.setIfInBounds_toArray, List.set_cons_zero, List.set_cons_succ])
            (refine wpAnyH_take (i := 33) (oi := { dst := some 133, op := Go.Op.move (Go.Operand.tmp 132), type := 4, pos := _, after := _, guard := some (28, false) }) (v := ?_) rfl (by kernel_rfl) (by kernel_rfl) (by kernel_rfl) (fun _ _ _ h => h) (Or.inl ⟨by rfl, ?_⟩) (by assumption) ?_; rotate_left; (intro w hSw; (try dsimp only at hSw); go_simp; try with_reducible rfl); try simp only [Act.put, List.setIfInBounds_toArray, List.set_cons_zero, List.set_cons_succ])
            (refine wpAnyH_take (i := 34) (oi := { dst := some 134, op := Go.Op.move (Go.Operand.tmp 13), type := 39, pos := _, after := _, guard := some (33, true) }) (v := undef) rfl (by kernel_rfl) (by kernel_rfl) (by kernel_rfl) (fun _ _ _ h => h) (Or.inr ⟨by rfl, rfl⟩) (by assumption) ?_; try simp only [Act.put, List.setIfInBounds_toArray, List.set_cons_zero, List.set_cons_succ])
            (refine wpAnyH_take (i := 35) (oi := { dst := some 135, op := Go.Op.move (Go.Operand.tmp 14), type := 3, pos := _, after := _, guard := some (33, true) }) (v := undef) rfl (by kernel_rfl) (by kernel_rfl) (by kernel_rfl) (fun _ _ _ h => h) (Or.inr ⟨by rfl, rfl⟩) (by assumption) ?_; try simp only [Act.put, List.setIfInBounds_toArray, List.set_cons_zero, List.set_cons_succ])
            (refine wpAnyH_take (i := 36) (oi := { dst := some 136, op := Go.Op.indexAddr 39 (Go.Operand.tmp 134) (Go.Operand.tmp 135), type := 0, pos := _, after := _, guard := some (33, true) }) (v := undef) rfl (by kernel_rfl) (by kernel_rfl) (by kernel_rfl) (fun _ _ _ h => h) (Or.inr ⟨by rfl, rfl⟩) (by assumption) ?_; try simp only [Act.put, List.setIfInBounds_toArray, List.set_cons_zero, List.set_cons_succ])
            (refine wpAnyH_take (i := 37) (oi := { dst := some 137, op := Go.Op.load 24 (Go.Operand.tmp 136), type := 24, pos := _, after := _, guard := some (33, true) }) (v := undef) rfl (by kernel_rfl) (by kernel_rfl) (by kernel_rfl) (fun _ _ _ h => h) (Or.inr ⟨by rfl, rfl⟩) (by assumption) ?_; try simp only [Act.put, List.setIfInBounds_toArray, List.set_cons_zero, List.set_cons_succ])
            (refine wpAnyH_take (i := 38) (oi := { dst := some 138, op := Go.Op.move (Go.Operand.tmp 9), type := 49, pos := _, after := _, guard := some (33, true) }) (v := undef) rfl (by kernel_rfl) (by kernel_rfl) (by kernel_rfl) (fun _ _ _ h => h) (Or.inr ⟨by rfl, rfl⟩) (by assumption) ?_; try simp only [Act.put, List.setIfInBounds_toArray, List.set_cons_zero, List.set_cons_succ])
            (refine wpAnyH_take (i := 39) (oi := { dst := some 139, op := Go.Op.move (Go.Operand.tmp 14), type := 3, pos := _, after := _, guard := some (33, true) }) (v := undef) rfl (by kernel_rfl) (by kernel_rfl) (by kernel_rfl) (fun _ _ _ h => h) (Or.inr ⟨by rfl, rfl⟩) (by assumption) ?_; try simp only [Act.put, List.setIfInBounds_toArray, List.set_cons_zero, List.set_cons_succ])
            (refine wpAnyH_take (i := 40) (oi := { dst := some 140, op := Go.Op.indexAddr 49 (Go.Operand.tmp 138) (Go.Operand.tmp 139), type := 0, pos := _, after := _, guard := some (33, true) }) (v := undef) rfl (by kernel_rfl) (by kernel_rfl) (by kernel_rfl) (fun _ _ _ h => h) (Or.inr ⟨by rfl, rfl⟩) (by assumption) ?_; try simp only [Act.put, List.setIfInBounds_toArray, List.set_cons_zero, List.set_cons_succ])
            (refine wpAnyH_take (i := 41) (oi := { dst := some 141, op := Go.Op.fieldAddr 53 (Go.Operand.tmp 140) 3, type := 0, pos := _, after := _, guard := some (33, true) }) (v := undef) rfl (by kernel_rfl) (by kernel_rfl) (by kernel_rfl) (fun _ _ _ h => h) (Or.inr ⟨by rfl, rfl⟩) (by assumption) ?_; try simp only [Act.put, List.setIfInBounds_toArray, List.set_cons_zero, List.set_cons_succ])
            (refine wpAnyH_take (i := 42) (oi := { dst := some 142, op := Go.Op.load 24 (Go.Operand.tmp 141), type := 24, pos := _, after := _, guard := some (33, true) }) (v := undef) rfl (by kernel_rfl) (by kernel_rfl) (by kernel_rfl) (fun _ _ _ h => h) (Or.inr ⟨by rfl, rfl⟩) (by assumption) ?_; try simp only [Act.put, List.setIfInBounds_toArray, List.set_cons_zero, List.set_cons_succ])
            (refine wpAnyH_take (i := 43) (oi := { dst := some 143, op := Go.Op.call { callee := Go.Callee.value (Go.Operand.func 29), args := #[Go.Operand.tmp 137, Go.Operand.tmp 142], argTypes := #[24, 24] }, type := 4, pos := _, after := _, guard := some (33, true) }) (v := undef) rfl (by kernel_rfl) (by kernel_rfl) (by kernel_rfl) (fun _ _ _ h => h) (Or.inr ⟨by rfl, rfl⟩) (by assumption) ?_; try simp only [Act.put, List.setIfInBounds_toArray, List.set_cons_zero, List.set_cons_succ])
            (refine wpAnyH_take (i := 44) (oi := { dst := some 144, op := Go.Op.unOp Go.UnOp.not 4 (Go.Operand.tmp 143), type := 4, pos := _, after := _, guard := some (33, true) }) (v := undef) rfl (by kernel_rfl) (by kernel_rfl) (by kernel_rfl) (fun _ _ _ h => h) (Or.inr ⟨by rfl, rfl⟩) (by assumption) ?_; try simp only [Act.put, List.setIfInBounds_toArray, List.set_cons_zero, List.set_cons_succ])
            (refine wpAnyH_take (i := 45) (oi := { dst := some 145, op := Go.Op.pick (Go.Operand.tmp 133) (Go.Operand.tmp 144) (Go.Operand.const (Go.Value.bool false)), type := 4, pos := _, after := _, guard := some (28, false) }) (v := ?_) rfl (by kernel_rfl) (by kernel_rfl) (by kernel_rfl) (fun _ _ _ h => h) (Or.inl ⟨by rfl, ?_⟩) (by assumption) ?_; rotate_left; (intro w hSw; (try dsimp only at hSw); go_simp; try with_reducible rfl); try simp only [Act.put, List.setIfInBounds_toArray, List.set_cons_zero, List.set_cons_succ])
            (refine wpAnyH_take (i := 46) (oi := { dst := some 146, op := Go.Op.pick (Go.Operand.tmp 128) (Go.Operand.const (Go.Value.bool true)) (Go.Operand.tmp 145), type := 4, pos := _, after := _, guard := none }) (v := ?_) rfl (by kernel_rfl) (by kernel_rfl) (by kernel_rfl) (fun _ _ _ h => h) (Or.inl ⟨by rfl, ?_⟩) (by assumption) ?_; rotate_left; (intro w hSw; (try dsimp only at hSw); go_simp; try with_reducible rfl); try simp only [Act.put, List.setIfInBounds_toArray, List.set_cons_zero, List.set_cons_succ])
            refine wpAnyH_done (by kernel_rfl) ?_ _
            have hb3 := hbr.trans ((And.left hHeld).mono hbr.size)
            go_wp2_with fail
            exact ⟨⟨k + 1, by omega, by go_num, hb3⟩, by simp [intOf]; omega⟩
          · have hg : f.getD k K[k].d = K[k].d := by simp [List.getD, List.getElem?_eq_none (show f.length ≤ k by omega)]
            rw [hg] at p0 p1 p2 p3
            have htk : takesV K[k].kind K[k].nn K[k].d.kind K[k].d.n K[k].d.f K[k].d.s = 0 := HI.out.2.2.2 k hlt (by omega)
            have hc1 := HT.out K[k].name K[k].kind K[k].nn K[k].d.kind K[k].d.n K[k].d.f K[k].d.s K[k].d.kind K[k].d.n K[k].d.f K[k].d.s
            rw [htk] at hc1
            have hc2 := HV.out K[k].d.kind K[k].d.n K[k].d.f K[k].d.s
            have s1 : decide ((k : Int) < (l.length : Int)) = false := by rw [decide_eq_false]; omega
            have s2 : decide ((l.length : Int) ≤ (k : Int)) = true := by rw [decide_eq_true]; omega
            have s3 : decide (l.length ≤ k) = true := by rw [decide_eq_true]; omega
            have s4 : decide (k < l.length) = false := by rw [decide_eq_false]; omega
            clear hpa hg htk hpl
            generalize K[k] = x at *
            go_wp2_with fail
            refine wp_region_held_drew (S := (fun w' => Below wr.heap.size wr w' ∧ w'.cell? (gd.add (k * 7)) = some (.string x.name) ∧ w'.cell? ⟨(gd.add (k * 7)).block, (gd.add (k * 7)).off + 1, none⟩ = some (.int .i64 x.kind) ∧ w'.cell? ⟨(gd.add (k * 7)).block, (gd.add (k * 7)).off + 2, none⟩ = some (.bool x.nn) ∧ w'.cell? ⟨(gd.add (k * 7)).block, (gd.add (k * 7)).off + 3, none⟩ = some (.int .i64 x.d.kind) ∧ w'.cell? ⟨(gd.add (k * 7)).block, (gd.add (k * 7)).off + 4, none⟩ = some (.int .i64 x.d.n) ∧ w'.cell? ⟨(gd.add (k * 7)).block, (gd.add (k * 7)).off + 5, none⟩ = some (.float .f64 x.d.f) ∧ w'.cell? ⟨(gd.add (k * 7)).block, (gd.add (k * 7)).off + 6, none⟩ = some (.string x.d.s) ∧ w'.cell? (pd.add (k * 4)) = some (.int .i64 x.d.kind) ∧ w'.cell? ⟨(pd.add (k * 4)).block, (pd.add (k * 4)).off + 1, none⟩ = some (.int .i64 x.d.n) ∧ w'.cell? ⟨(pd.add (k * 4)).block, (pd.add (k * 4)).off + 2, none⟩ = some (.float .f64 x.d.f) ∧ w'.cell? ⟨(pd.add (k * 4)).block, (pd.add (k * 4)).off + 3, none⟩ = some (.string x.d.s))) (by kernel_rfl) (⟨(Below.refl _ _).drew, q0, q1, q2, q3, q4, q5, q6, p0, p1, p2, p3⟩) (fun hHeld => ?_)
            (refine wpAnyH_take (i := 0) (oi := { dst := some 100, op := Go.Op.move (Go.Operand.tmp 9), type := 49, pos := _, after := _, guard := none }) (v := ?_) rfl (by kernel_rfl) (by kernel_rfl) (by kernel_rfl) (fun _ _ _ h => h) (Or.inl ⟨by rfl, ?_⟩) (by assumption) ?_; rotate_left; (intro w hSw; (try dsimp only at hSw); go_simp; try with_reducible rfl); try simp only [Act.put, List.setIfInBounds_toArray, List.set_cons_zero, List.set_cons_succ])
            (refine wpAnyH_take (i := 1) (oi := { dst := some 101, op := Go.Op.move (Go.Operand.tmp 14), type := 3, pos := _, after := _, guard := none }) (v := ?_) rfl (by kernel_rfl) (by kernel_rfl) (by kernel_rfl) (fun _ _ _ h => h) (Or.inl ⟨by rfl, ?_⟩) (by assumption) ?_; rotate_left; (intro w hSw; (try dsimp only at hSw); go_simp; try with_reducible rfl); try simp only [Act.put, List.setIfInBounds_toArray, List.set_cons_zero, List.set_cons_succ])
            (refine wpAnyH_take (i := 2) (oi := { dst := some 102, op := Go.Op.indexAddr 49 (Go.Operand.tmp 100) (Go.Operand.tmp 101), type := 0, pos := _, after := _, guard := none }) (v := ?_) rfl (by kernel_rfl) (by kernel_rfl) (by kernel_rfl) (fun _ _ _ h => h) (Or.inl ⟨by rfl, ?_⟩) (by assumption) ?_; rotate_left; (intro w hSw; (try dsimp only at hSw); go_simp; try with_reducible rfl); try simp only [Act.put, List.setIfInBounds_toArray, List.set_cons_zero, List.set_cons_succ])
            (refine wpAnyH_take (i := 3) (oi := { dst := some 103, op := Go.Op.load 53 (Go.Operand.tmp 102), type := 53, pos := _, after := _, guard := none }) (v := ?_) rfl (by kernel_rfl) (by kernel_rfl) (by kernel_rfl) (fun _ _ _ h => h) (Or.inl ⟨by rfl, ?_⟩) (by assumption) ?_; rotate_left; (intro w hSw; (try dsimp only at hSw); go_simp; try with_reducible rfl); try simp only [Act.put, List.setIfInBounds_toArray, List.set_cons_zero, List.set_cons_succ])
            (refine wpAnyH_take (i := 4) (oi := { dst := some 104, op := Go.Op.move (Go.Operand.tmp 13), type := 39, pos := _, after := _, guard := none }) (v := ?_) rfl (by kernel_rfl) (by kernel_rfl) (by kernel_rfl) (fun _ _ _ h => h) (Or.inl ⟨by rfl, ?_⟩) (by assumption) ?_; rotate_left; (intro w hSw; (try dsimp only at hSw); go_simp; try with_reducible rfl); try simp only [Act.put, List.setIfInBounds_toArray, List.set_cons_zero, List.set_cons_succ])
            (refine wpAnyH_take (i := 5) (oi := { dst := some 105, op := Go.Op.move (Go.Operand.tmp 14), type := 3, pos := _, after := _, guard := none }) (v := ?_) rfl (by kernel_rfl) (by kernel_rfl) (by kernel_rfl) (fun _ _ _ h => h) (Or.inl ⟨by rfl, ?_⟩) (by assumption) ?_; rotate_left; (intro w hSw; (try dsimp only at hSw); go_simp; try with_reducible rfl); try simp only [Act.put, List.setIfInBounds_toArray, List.set_cons_zero, List.set_cons_succ])
            (refine wpAnyH_take (i := 6) (oi := { dst := some 106, op := Go.Op.indexAddr 39 (Go.Operand.tmp 104) (Go.Operand.tmp 105), type := 0, pos := _, after := _, guard := none }) (v := ?_) rfl (by kernel_rfl) (by kernel_rfl) (by kernel_rfl) (fun _ _ _ h => h) (Or.inl ⟨by rfl, ?_⟩) (by assumption) ?_; rotate_left; (intro w hSw; (try dsimp only at hSw); go_simp; try with_reducible rfl); try simp only [Act.put, List.setIfInBounds_toArray, List.set_cons_zero, List.set_cons_succ])
            (refine wpAnyH_take (i := 7) (oi := { dst := some 107, op := Go.Op.load 24 (Go.Operand.tmp 106), type := 24, pos := _, after := _, guard := none }) (v := ?_) rfl (by kernel_rfl) (by kernel_rfl) (by kernel_rfl) (fun _ _ _ h => h) (Or.inl ⟨by rfl, ?_⟩) (by assumption) ?_; rotate_left; (intro w hSw; (try dsimp only at hSw); go_simp; try with_reducible rfl); try simp only [Act.put, List.setIfInBounds_toArray, List.set_cons_zero, List.set_cons_succ])
            refine wpAnyH_ready (rs := [8]) (by kernel_rfl) (by simp) ?_
            refine AllReadyH.cons (o := { dst := some 108, op := Go.Op.call { callee := Go.Callee.value (Go.Operand.func 55), args := #[Go.Operand.tmp 103, Go.Operand.tmp 107], argTypes := #[53, 24] }, type := 27, pos := _, after := _, guard := none }) rfl (fun K hK => ?_) AllReadyH.nil
            go_simp
            (refine (hc1 _).mono ?_; rintro e w16 ⟨rfl, b16⟩)
            go_wp2_with fail
            refine hK.out _ _ ?_ (fun hHeld2 => ?_)
            · (go_split_ands; exact ⟨Below.trans (by assumption) (b16.mono (Below.size (by assumption))), kc b16 (by assumption), kc b16 (by assumption), kc b16 (by assumption), kc b16 (by assumption), kc b16 (by assumption), kc b16 (by assumption), kc b16 (by assumption), kc b16 (by assumption), kc b16 (by assumption), kc b16 (by assumption), kc b16 (by assumption)⟩)
            clear hK K hHeld
            have hHeld := hHeld2
            clear hHeld2
            try simp only [Act.put, List.setIfInBounds_toArray, List.set_cons_zero, List.set_cons_succ]
            (refine wpAnyH_take (i := 9) (oi := { dst := some 109, op := Go.Op.binOp Go.BinOp.neq 27 (Go.Operand.tmp 108) (Go.Operand.const (Go.Value.int Go.IntKind.i64 0)) 27, type := 4, pos := _, after := _, guard := none }) (v := ?_) rfl (by kernel_rfl) (by kernel_rfl) (by kernel_rfl) (fun _ _ _ h => h) (Or.inl ⟨by rfl, ?_⟩) (by assumption) ?_; rotate_left; (intro w hSw; (try dsimp only at hSw); go_simp; try with_reducible rfl); try simp only [Act.put, List.setIfInBounds_toArray, List.set_cons_zero, List.set_cons_succ])
            (refine wpAnyH_take (i := 10) (oi := { dst := some 110, op := Go.Op.move (Go.Operand.tmp 109), type := 4, pos := _, after := _, guard := none }) (v := ?_) rfl (by kernel_rfl) (by kernel_rfl) (by kernel_rfl) (fun _ _ _ h => h) (Or.inl ⟨by rfl, ?_⟩) (by assumption) ?_; rotate_left; (intro w hSw; (try dsimp only at hSw); go_simp; try with_reducible rfl); try simp only [Act.put, List.setIfInBounds_toArray, List.set_cons_zero, List.set_cons_succ])
            (refine wpAnyH_take (i := 11) (oi := { dst := some 111, op := Go.Op.move (Go.Operand.tmp 14), type := 3, pos := _, after := _, guard := some (10, false) }) (v := ?_) rfl (by kernel_rfl) (by kernel_rfl) (by kernel_rfl) (fun _ _ _ h => h) (Or.inl ⟨by rfl, ?_⟩) (by assumption) ?_; rotate_left; (intro w hSw; (try dsimp only at hSw); go_simp; try with_reducible rfl); try simp only [Act.put, List.setIfInBounds_toArray, List.set_cons_zero, List.set_cons_succ])
            (refine wpAnyH_take (i := 12) (oi := { dst := some 112, op := Go.Op.move (Go.Operand.tmp 7), type := 39, pos := _, after := _, guard := some (10, false) }) (v := ?_) rfl (by kernel_rfl) (by kernel_rfl) (by kernel_rfl) (fun _ _ _ h => h) (Or.inl ⟨by rfl, ?_⟩) (by assumption) ?_; rotate_left; (intro w hSw; (try dsimp only at hSw); go_simp; try with_reducible rfl); try simp only [Act.put, List.setIfInBounds_toArray, List.set_cons_zero, List.set_cons_succ])
            (refine wpAnyH_take (i := 13) (oi := { dst := some 113, op := Go.Op.call { callee := Go.Callee.builtin Go.Builtin.len, args := #[Go.Operand.tmp 112], argTypes := #[39] }, type := 3, pos := _, after := _, guard := some (10, false) }) (v := ?_) rfl (by kernel_rfl) (by kernel_rfl) (by kernel_rfl) (fun _ _ _ h => h) (Or.inl ⟨by rfl, ?_⟩) (by assumption) ?_; rotate_left; (intro w hSw; (try dsimp only at hSw); go_simp; try with_reducible rfl); try simp only [Act.put, List.setIfInBounds_toArray, List.set_cons_zero, List.set_cons_succ])
            (refine wpAnyH_take (i := 14) (oi := { dst := some 114, op := Go.Op.binOp Go.BinOp.lss 3 (Go.Operand.tmp 111) (Go.Operand.tmp 113) 3, type := 4, pos := _, after := _, guard := some (10, false) }) (v := ?_) rfl (by kernel_rfl) (by kernel_rfl) (by kernel_rfl) (fun _ _ _ h => h) (Or.inl ⟨by rfl, ?_⟩) (by assumption) ?_; rotate_left; (intro w hSw; (try dsimp only at hSw); go_simp; try with_reducible rfl); try simp only [Act.put, List.setIfInBounds_toArray, List.set_cons_zero, List.set_cons_succ])
            (refine wpAnyH_take (i := 15) (oi := { dst := some 115, op := Go.Op.move (Go.Operand.tmp 114), type := 4, pos := _, after := _, guard := some (10, false) }) (v := ?_) rfl (by kernel_rfl) (by kernel_rfl) (by kernel_rfl) (fun _ _ _ h => h) (Or.inl ⟨by rfl, ?_⟩) (by assumption) ?_; rotate_left; (intro w hSw; (try dsimp only at hSw); go_simp; try with_reducible rfl); try simp only [Act.put, List.setIfInBounds_toArray, List.set_cons_zero, List.set_cons_succ])
            (refine wpAnyH_take (i := 16) (oi := { dst := some 116, op := Go.Op.move (Go.Operand.tmp 13), type := 39, pos := _, after := _, guard := some (15, true) }) (v := undef) rfl (by kernel_rfl) (by kernel_rfl) (by kernel_rfl) (fun _ _ _ h => h) (Or.inr ⟨by rfl, rfl⟩) (by assumption) ?_; try simp only [Act.put, List.setIfInBounds_toArray, List.set_cons_zero, List.set_cons_succ])
            (refine wpAnyH_take (i := 17) (oi := { dst := some 117, op := Go.Op.move (Go.Operand.tmp 14), type := 3, pos := _, after := _, guard := some (15, true) }) (v := undef) rfl (by kernel_rfl) (by kernel_rfl) (by kernel_rfl) (fun _ _ _ h => h) (Or.inr ⟨by rfl, rfl⟩) (by assumption) ?_; try simp only [Act.put, List.setIfInBounds_toArray, List.set_cons_zero, List.set_cons_succ])
            (refine wpAnyH_take (i := 18) (oi := { dst := some 118, op := Go.Op.indexAddr 39 (Go.Operand.tmp 116) (Go.Operand.tmp 117), type := 0, pos := _, after := _, guard := some (15, true) }) (v := undef) rfl (by kernel_rfl) (by kernel_rfl) (by kernel_rfl) (fun _ _ _ h => h) (Or.inr ⟨by rfl, rfl⟩) (by assumption) ?_; try simp only [Act.put, List.setIfInBounds_toArray, List.set_cons_zero, List.set_cons_succ])
            (refine wpAnyH_take (i := 19) (oi := { dst := some 119, op := Go.Op.load 24 (Go.Operand.tmp 118), type := 24, pos := _, after := _, guard := some (15, true) }) (v := undef) rfl (by kernel_rfl) (by kernel_rfl) (by kernel_rfl) (fun _ _ _ h => h) (Or.inr ⟨by rfl, rfl⟩) (by assumption) ?_; try simp only [Act.put, List.setIfInBounds_toArray, List.set_cons_zero, List.set_cons_succ])
            (refine wpAnyH_take (i := 20) (oi := { dst := some 120, op := Go.Op.move (Go.Operand.tmp 7), type := 39, pos := _, after := _, guard := some (15, true) }) (v := undef) rfl (by kernel_rfl) (by kernel_rfl) (by kernel_rfl) (fun _ _ _ h => h) (Or.inr ⟨by rfl, rfl⟩) (by assumption) ?_; try simp only [Act.put, List.setIfInBounds_toArray, List.set_cons_zero, List.set_cons_succ])
            (refine wpAnyH_take (i := 21) (oi := { dst := some 121, op := Go.Op.move (Go.Operand.tmp 14), type := 3, pos := _, after := _, guard := some (15, true) }) (v := undef) rfl (by kernel_rfl) (by kernel_rfl) (by kernel_rfl) (fun _ _ _ h => h) (Or.inr ⟨by rfl, rfl⟩) (by assumption) ?_; try simp only [Act.put, List.setIfInBounds_toArray, List.set_cons_zero, List.set_cons_succ])
            (refine wpAnyH_take (i := 22) (oi := { dst := some 122, op := Go.Op.indexAddr 39 (Go.Operand.tmp 120) (Go.Operand.tmp 121), type := 0, pos := _, after := _, guard := some (15, true) }) (v := undef) rfl (by kernel_rfl) (by kernel_rfl) (by kernel_rfl) (fun _ _ _ h => h) (Or.inr ⟨by rfl, rfl⟩) (by assumption) ?_; try simp only [Act.put, List.setIfInBounds_toArray, List.set_cons_zero, List.set_cons_succ])
            (refine wpAnyH_take (i := 23) (oi := { dst := some 123, op := Go.Op.load 24 (Go.Operand.tmp 122), type := 24, pos := _, after := _, guard := some (15, true) }) (v := undef) rfl (by kernel_rfl) (by kernel_rfl) (by kernel_rfl) (fun _ _ _ h => h) (Or.inr ⟨by rfl, rfl⟩) (by assumption) ?_; try simp only [Act.put, List.setIfInBounds_toArray, List.set_cons_zero, List.set_cons_succ])
            (refine wpAnyH_take (i := 24) (oi := { dst := some 124, op := Go.Op.call { callee := Go.Callee.value (Go.Operand.func 29), args := #[Go.Operand.tmp 119, Go.Operand.tmp 123], argTypes := #[24, 24] }, type := 4, pos := _, after := _, guard := some (15, true) }) (v := undef) rfl (by kernel_rfl) (by kernel_rfl) (by kernel_rfl) (fun _ _ _ h => h) (Or.inr ⟨by rfl, rfl⟩) (by assumption) ?_; try simp only [Act.put, List.setIfInBounds_toArray, List.set_cons_zero, List.set_cons_succ])
            (refine wpAnyH_take (i := 25) (oi := { dst := some 125, op := Go.Op.unOp Go.UnOp.not 4 (Go.Operand.tmp 124), type := 4, pos := _, after := _, guard := some (15, true) }) (v := undef) rfl (by kernel_rfl) (by kernel_rfl) (by kernel_rfl) (fun _ _ _ h => h) (Or.inr ⟨by rfl, rfl⟩) (by assumption) ?_; try simp only [Act.put, List.setIfInBounds_toArray, List.set_cons_zero, List.set_cons_succ])
            (refine wpAnyH_take (i := 26) (oi := { dst := some 126, op := Go.Op.pick (Go.Operand.tmp 115) (Go.Operand.tmp 125) (Go.Operand.const (Go.Value.bool false)), type := 4, pos := _, after := _, guard := some (10, false) }) (v := ?_) rfl (by kernel_rfl) (by kernel_rfl) (by kernel_rfl) (fun _ _ _ h => h) (Or.inl ⟨by rfl, ?_⟩) (by assumption) ?_; rotate_left; (intro w hSw; (try dsimp only at hSw); go_simp; try with_reducible rfl); try simp only [Act.put, List.setIfInBounds_toArray, List.set_cons_zero, List.set_cons_succ])
            (refine wpAnyH_take (i := 27) (oi := { dst := some 127, op := Go.Op.pick (Go.Operand.tmp 110) (Go.Operand.const (Go.Value.bool true)) (Go.Operand.tmp 126), type := 4, pos := _, after := _, guard := none }) (v := ?_) rfl (by kernel_rfl) (by kernel_rfl) (by kernel_rfl) (fun _ _ _ h => h) (Or.inl ⟨by rfl, ?_⟩) (by assumption) ?_; rotate_left; (intro w hSw; (try dsimp only at hSw); go_simp; try with_reducible rfl); try simp only [Act.put, List.setIfInBounds_toArray, List.set_cons_zero, List.set_cons_succ])
            (refine wpAnyH_take (i := 28) (oi := { dst := some 128, op := Go.Op.move (Go.Operand.tmp 127), type := 4, pos := _, after := _, guard := none }) (v := ?_) rfl (by kernel_rfl) (by kernel_rfl) (by kernel_rfl) (fun _ _ _ h => h) (Or.inl ⟨by rfl, ?_⟩) (by assumption) ?_; rotate_left; (intro w hSw; (try dsimp only at hSw); go_simp; try with_reducible rfl); try simp only [Act.put, List.setIfInBounds_toArray, List.set_cons_zero, List.set_cons_succ])
            (refine wpAnyH_take (i := 29) (oi := { dst := some 129, op := Go.Op.move (Go.Operand.tmp 14), type := 3, pos := _, after := _, guard := some (28, false) }) (v := ?_) rfl (by kernel_rfl) (by kernel_rfl) (by kernel_rfl) (fun _ _ _ h => h) (Or.inl ⟨by rfl, ?_⟩) (by assumption) ?_; rotate_left; (intro w hSw; (try dsimp only at hSw); go_simp; try with_reducible rfl); try simp only [Act.put, List.setIfInBounds_toArray, List.set_cons_zero, List.set_cons_succ])
            (refine wpAnyH_take (i := 30) (oi := { dst := some 130, op := Go.Op.move (Go.Operand.tmp 7), type := 39, pos := _, after := _, guard := some (28, false) }) (v := ?_) rfl (by kernel_rfl) (by kernel_rfl) (by kernel_rfl) (fun _ _ _ h => h) (Or.inl ⟨by rfl, ?_⟩) (by assumption) ?_; rotate_left; (intro w hSw; (try dsimp only at hSw); go_simp; try with_reducible rfl); try simp only [Act.put, List.setIfInBounds_toArray, List.set_cons_zero, List.set_cons_succ])
            (refine wpAnyH_take (i := 31) (oi := { dst := some 131, op := Go.Op.call { callee := Go.Callee.builtin Go.Builtin.len, args := #[Go.Operand.tmp 130], argTypes := #[39] }, type := 3, pos := _, after := _, guard := some (28, false) }) (v := ?_) rfl (by kernel_rfl) (by kernel_rfl) (by kernel_rfl) (fun _ _ _ h => h) (Or.inl ⟨by rfl, ?_⟩) (by assumption) ?_; rotate_left; (intro w hSw; (try dsimp only at hSw); go_simp; try with_reducible rfl); try simp only [Act.put, List.setIfInBounds_toArray, List.set_cons_zero, List.set_cons_succ])
            (refine wpAnyH_take (i := 32) (oi := { dst := some 132, op := Go.Op.binOp Go.BinOp.geq 3 (Go.Operand.tmp 129) (Go.Operand.tmp 131) 3, type := 4, pos := _, after := _, guard := some (28, false) }) (v := ?_) rfl (by kernel_rfl) (by kernel_rfl) (by kernel_rfl) (fun _ _ _ h => h) (Or.inl ⟨by rfl, ?_⟩) (by assumption) ?_; rotate_left; (intro w hSw; (try dsimp only at hSw); go_simp; try with_reducible rfl); try simp only [Act.put, List.setIfInBounds_toArray, List.set_cons_zero, List.set_cons_succ])
            (refine wpAnyH_take (i := 33) (oi := { dst := some 133, op := Go.Op.move (Go.Operand.tmp 132), type := 4, pos := _, after := _, guard := some (28, false) }) (v := ?_) rfl (by kernel_rfl) (by kernel_rfl) (by kernel_rfl) (fun _ _ _ h => h) (Or.inl ⟨by rfl, ?_⟩) (by assumption) ?_; rotate_left; (intro w hSw; (try dsimp only at hSw); go_simp; try with_reducible rfl); try simp only [Act.put, List.setIfInBounds_toArray, List.set_cons_zero, List.set_cons_succ])
            (refine wpAnyH_take (i := 34) (oi := { dst := some 134, op := Go.Op.move (Go.Operand.tmp 13), type := 39, pos := _, after := _, guard := some (33, true) }) (v := ?_) rfl (by kernel_rfl) (by kernel_rfl) (by kernel_rfl) (fun _ _ _ h => h) (Or.inl ⟨by rfl, ?_⟩) (by assumption) ?_; rotate_left; (intro w hSw; (try dsimp only at hSw); go_simp; try with_reducible rfl); try simp only [Act.put, List.setIfInBounds_toArray, List.set_cons_zero, List.set_cons_succ])
            (refine wpAnyH_take (i := 35) (oi := { dst := some 135, op := Go.Op.move (Go.Operand.tmp 14), type := 3, pos := _, after := _, guard := some (33, true) }) (v := ?_) rfl (by kernel_rfl) (by kernel_rfl) (by kernel_rfl) (fun _ _ _ h => h) (Or.inl ⟨by rfl, ?_⟩) (by assumption) ?_; rotate_left; (intro w hSw; (try dsimp only at hSw); go_simp; try with_reducible rfl); try simp only [Act.put, List.setIfInBounds_toArray, List.set_cons_zero, List.set_cons_succ])
            (refine wpAnyH_take (i := 36) (oi := { dst := some 136, op := Go.Op.indexAddr 39 (Go.Operand.tmp 134) (Go.Operand.tmp 135), type := 0, pos := _, after := _, guard := some (33, true) }) (v := ?_) rfl (by kernel_rfl) (by kernel_rfl) (by kernel_rfl) (fun _ _ _ h => h) (Or.inl ⟨by rfl, ?_⟩) (by assumption) ?_; rotate_left; (intro w hSw; (try dsimp only at hSw); go_simp; try with_reducible rfl); try simp only [Act.put, List.setIfInBounds_toArray, List.set_cons_zero, List.set_cons_succ])
            (refine wpAnyH_take (i := 37) (oi := { dst := some 137, op := Go.Op.load 24 (Go.Operand.tmp 136), type := 24, pos := _, after := _, guard := some (33, true) }) (v := ?_) rfl (by kernel_rfl) (by kernel_rfl) (by kernel_rfl) (fun _ _ _ h => h) (Or.inl ⟨by rfl, ?_⟩) (by assumption) ?_; rotate_left; (intro w hSw; (try dsimp only at hSw); go_simp; try with_reducible rfl); try simp only [Act.put, List.setIfInBounds_toArray, List.set_cons_zero, List.set_cons_succ])
            (refine wpAnyH_take (i := 38) (oi := { dst := some 138, op := Go.Op.move (Go.Operand.tmp 9), type := 49, pos := _, after := _, guard := some (33, true) }) (v := ?_) rfl (by kernel_rfl) (by kernel_rfl) (by kernel_rfl) (fun _ _ _ h => h) (Or.inl ⟨by rfl, ?_⟩) (by assumption) ?_; rotate_left; (intro w hSw; (try dsimp only at hSw); go_simp; try with_reducible rfl); try simp only [Act.put, List.setIfInBounds_toArray, List.set_cons_zero, List.set_cons_succ])
            (refine wpAnyH_take (i := 39) (oi := { dst := some 139, op := Go.Op.move (Go.Operand.tmp 14), type := 3, pos := _, after := _, guard := some (33, true) }) (v := ?_) rfl (by kernel_rfl) (by kernel_rfl) (by kernel_rfl) (fun _ _ _ h => h) (Or.inl ⟨by rfl, ?_⟩) (by assumption) ?_; rotate_left; (intro w hSw; (try dsimp only at hSw); go_simp; try with_reducible rfl); try simp only [Act.put, List.setIfInBounds_toArray, List.set_cons_zero, List.set_cons_succ])
            (refine wpAnyH_take (i := 40) (oi := { dst := some 140, op := Go.Op.indexAddr 49 (Go.Operand.tmp 138) (Go.Operand.tmp 139), type := 0, pos := _, after := _, guard := some (33, true) }) (v := ?_) rfl (by kernel_rfl) (by kernel_rfl) (by kernel_rfl) (fun _ _ _ h => h) (Or.inl ⟨by rfl, ?_⟩) (by assumption) ?_; rotate_left; (intro w hSw; (try dsimp only at hSw); go_simp; try with_reducible rfl); try simp only [Act.put, List.setIfInBounds_toArray, List.set_cons_zero, List.set_cons_succ])
            (refine wpAnyH_take (i := 41) (oi := { dst := some 141, op := Go.Op.fieldAddr 53 (Go.Operand.tmp 140) 3, type := 0, pos := _, after := _, guard := some (33, true) }) (v := ?_) rfl (by kernel_rfl) (by kernel_rfl) (by kernel_rfl) (fun _ _ _ h => h) (Or.inl ⟨by rfl, ?_⟩) (by assumption) ?_; rotate_left; (intro w hSw; (try dsimp only at hSw); go_simp; try with_reducible rfl); try simp only [Act.put, List.setIfInBounds_toArray, List.set_cons_zero, List.set_cons_succ])
            (refine wpAnyH_take (i := 42) (oi := { dst := some 142, op := Go.Op.load 24 (Go.Operand.tmp 141), type := 24, pos := _, after := _, guard := some (33, true) }) (v := ?_) rfl (by kernel_rfl) (by kernel_rfl) (by kernel_rfl) (fun _ _ _ h => h) (Or.inl ⟨by rfl, ?_⟩) (by assumption) ?_; rotate_left; (intro w hSw; (try dsimp only at hSw); go_simp; try with_reducible rfl); try simp only [Act.put, List.setIfInBounds_toArray, List.set_cons_zero, List.set_cons_succ])
            refine wpAnyH_ready (rs := [43]) (by kernel_rfl) (by simp) ?_
            refine AllReadyH.cons (o := { dst := some 143, op := Go.Op.call { callee := Go.Callee.value (Go.Operand.func 29), args := #[Go.Operand.tmp 137, Go.Operand.tmp 142], argTypes := #[24, 24] }, type := 4, pos := _, after := _, guard := some (33, true) }) rfl (fun K hK => ?_) AllReadyH.nil
            go_simp
            (refine (hc2 _).mono ?_; rintro e w17 ⟨rfl, b17⟩)
            go_wp2_with fail
            refine hK.out _ _ ?_ (fun hHeld2 => ?_)
            · (go_split_ands; exact ⟨Below.trans (by assumption) (b17.mono (Below.size (by assumption))), kc b17 (by assumption), kc b17 (by assumption), kc b17 (by assumption), kc b17 (by assumption), kc b17 (by assumption), kc b17 (by assumption), kc b17 (by assumption), kc b17 (by assumption), kc b17 (by assumption), kc b17 (by assumption), kc b17 (by assumption)⟩)
            clear hK K hHeld
            have hHeld := hHeld2
            clear hHeld2
            try simp only [Act.put, List.setIfInBounds_toArray, List.set_cons_zero, List.set_cons_succ]
            (refine wpAnyH_take (i := 44) (oi := { dst := some 144, op := Go.Op.unOp Go.UnOp.not 4 (Go.Operand.tmp 143), type := 4, pos := _, after := _, guard := some (33, true) }) (v := ?_) rfl (by kernel_rfl) (by kernel_rfl) (by kernel_rfl) (fun _ _ _ h => h) (Or.inl ⟨by rfl, ?_⟩) (by assumption) ?_; rotate_left; (intro w hSw; (try dsimp only at hSw); go_simp; try with_reducible rfl); try simp only [Act.put, List.setIfInBounds_toArray, List.set_cons_zero, List.set_cons_succ])
            (refine wpAnyH_take (i := 45) (oi := { dst := some 145, op := Go.Op.pick (Go.Operand.tmp 133) (Go.Operand.tmp 144) (Go.Operand.const (Go.Value.bool false)), type := 4, pos := _, after := _, guard := some (28, false) }) (v := ?_) rfl (by kernel_rfl) (by kernel_rfl) (by kernel_rfl) (fun _ _ _ h => h) (Or.inl ⟨by rfl, ?_⟩) (by assumption) ?_; rotate_left; (intro w hSw; (try dsimp only at hSw); go_simp; try with_reducible rfl); try simp only [Act.put, List.setIfInBounds_toArray, List.set_cons_zero, List.set_cons_succ])
            (refine wpAnyH_take (i := 46) (oi := { dst := some 146, op := Go.Op.pick (Go.Operand.tmp 128) (Go.Operand.const (Go.Value.bool true)) (Go.Operand.tmp 145), type := 4, pos := _, after := _, guard := none }) (v := ?_) rfl (by kernel_rfl) (by kernel_rfl) (by kernel_rfl) (fun _ _ _ h => h) (Or.inl ⟨by rfl, ?_⟩) (by assumption) ?_; rotate_left; (intro w hSw; (try dsimp only at hSw); go_simp; try with_reducible rfl); try simp only [Act.put, List.setIfInBounds_toArray, List.set_cons_zero, List.set_cons_succ])
            refine wpAnyH_done (by kernel_rfl) ?_ _
            have hb3 := hbr.trans ((And.left hHeld).mono hbr.size)
            go_wp2_with fail
            exact ⟨⟨k + 1, by omega, by go_num, hb3⟩, by simp [intOf]; omega⟩
        · obtain rfl : k = K.length := by omega
          have HA12 := Lib.hid (HA11.out.keep hbr (Nat.le_refl _))
          have HF12 := Lib.hid (HF11.out.keep hbr (Nat.le_refl _))
          have k12 := below_trans k11 hbr
          clear HA11 HK11 HF11 HP11 k11 hbr hk hlt HT HV HI
          obtain ⟨wq, hwq⟩ : ∃ wq : World, wq = wr := ⟨_, rfl⟩
          subst hwq
          go_wp2_with (at_builtin; refine wl_app_vals rfl _ _ rfl wq.heap.size _ 0 [] rfl (Fresh.empty _ _ _ _ _) (by simp) A6 c6 f (by rw [HPL.out]; rfl) HNF.out (HF12.out.keep ((Below.refl _ _).alloc (Nat.le_refl _) _) (Nat.le_refl _)) (by rw [HPL.out]; omega) ?_; intro v13 w13 hF b13' _; rw [Nat.zero_add, List.nil_append] at hF; obtain ⟨A13, c13, rfl, hn13⟩ := hF.slice; have b13 : Below wq.heap.size wq w13 := ((Below.refl _ _).alloc (Nat.le_refl _) _).trans b13'; have HI13 := Lib.hid (Fresh.rd Val.cells_len (by decide) hF); have k13 := below_trans k12 b13; have HA13 := Lib.hid (HA12.out.keep b13 (Nat.le_refl _)); have HF13 := Lib.hid (HF12.out.keep b13 (Nat.le_refl _)); clear b13 b13' k12 HA12 HF12 hF hn13)
          have hf2 := fill_any A A13 c c13 l f w13 HA13.out HI13.out (by omega)
          rw [HE2.out, HE3.out] at hf2
          refine hf2.mono ?_
          rintro e w14 ⟨A14, c14, rfl, hf14, hn14, b14⟩
          have k14 := below_trans k13 b14
          have hvs := values_same A14 A6 c14 c6 f w14 hf14 (HF13.out.keep b14 (Nat.le_refl _)) (by rw [HPL.out]; omega)
          rw [HPL.out] at hvs ⊢
          clear hf2 hf14 hn14 b14 k13 HA13 HF13 HI13
          go_wp2_with fail
          refine hvs.mono ?_
          rintro e w15 ⟨rfl, b15⟩
          have k15 := below_trans k14 b15
          clear hvs b15 k14
          go_wp2_with fail
          refine (row_wakes _).mono ?_
          rintro e w16 ⟨rfl, b16⟩
          go_wp2_with fail
          go_ret
          exact ⟨rfl, below_trans k15 b16⟩
end Go.Proofs.Ytmgpecomgffelaa
