/- The law FloatEnds. -/
import Derived.Test.YtmgpecomgffelaaFloatI
import Derived.Test.YtmgpecomgffelaaOpenB
import Derived.Test.YtmgpecomgffelaaFrame
import Derived.Deep.QuietTactic
import Derived.BigQuiet
namespace Go.Proofs.Ytmgpecomgffelaa
open Go.RowKit Go.ChangeShapes Go.WideShapes Go.ChangeAt
set_option linter.unusedVariables false
theorem info22 : (Try.prog.info? 22).map (fun i => (i.zero, i.size, i.bytes)) = some (some (.float .f64 0), 1, 8) := by kernel_rfl
theorem over2000 (n : Nat) (A : Option Addr) (c : Nat) (w : World) (h : 2000 < n) : Tells Try.prog 13 #[.slice A n c] w := by
  unfold Tells
  go_enter Try.func13, Try.ntmps13
  go_wp2_with fail
  refine (wakes_any _).mono ?_
  rintro e w99 ⟨rfl, h99⟩
  go_wp2_with fail
  go_ret
  exact ⟨rfl, h99⟩

theorem same_yes (a : Nat) (w : World) : Calls Try.prog 46 #[.float .f64 a, .float .f64 a] w fun e w' => e = .returned (.bool true) ∧ w = w' := by
  have h := same_any a a w
  rw [decide_eq_true (show a = a from rfl)] at h
  exact h

/-! ### ends -/
theorem best_cons (ah : Nat → Nat → Bool) (l : List Nat) (h : 0 < l.length) : bestV ah l = canonF (pick ah l[0] l) := by
  match l, h with
  | m :: l, _ => rfl
theorem cells22 : Try.prog.cellsOf 22 = 1 := by kernel_rfl
theorem same_q (a : Nat) (w : World) (n : Nat) : Calls Try.prog 46 #[.float .f64 a, .float .f64 a] (w.drewN n) fun e w' => e = .returned (.bool true) ∧ ∃ m, w' = w.drewN m :=
  (same_yes a _).mono fun e w' ⟨h1, h2⟩ => ⟨h1, n, h2.symm⟩
theorem cmp_q (a b : Nat) (w : World) (n : Nat) : Calls Try.prog 39 #[.float .f64 a, .float .f64 b] (w.drewN n) fun e w' => e = .returned (.int .i64 (cmpF a b)) ∧ ∃ m, w' = w.drewN m :=
  (cmp_any a b _).mono fun e w' ⟨h1, h2⟩ => ⟨h1, n, h2.symm⟩
theorem best_all : True := trivial
theorem min_all (A : Option Addr) (c : Nat) (l : List Nat) (w : World) (h : Rd w A (fl l)) (hlen : l.length ≤ 2000) :
    Calls Try.prog 62 #[.slice A l.length c] w fun e w' => e = .returned (.tuple #[.float .f64 (bestV lessA l), .bool (decide (0 < l.length))]) ∧ w = w' := by
  rcases Nat.eq_zero_or_pos l.length with h0 | h0
  · obtain rfl := List.eq_nil_of_length_eq_zero h0
    exact min_nil A c w
  · rw [decide_eq_true h0, best_cons _ l h0]
    exact min_any A c l w h h0 hlen
theorem max_all (A : Option Addr) (c : Nat) (l : List Nat) (w : World) (h : Rd w A (fl l)) (hlen : l.length ≤ 2000) :
    Calls Try.prog 63 #[.slice A l.length c] w fun e w' => e = .returned (.tuple #[.float .f64 (bestV moreA l), .bool (decide (0 < l.length))]) ∧ w = w' := by
  rcases Nat.eq_zero_or_pos l.length with h0 | h0
  · obtain rfl := List.eq_nil_of_length_eq_zero h0
    exact max_nil A c w
  · rw [decide_eq_true h0, best_cons _ l h0]
    exact max_any A c l w h h0 hlen
theorem rmin_all (A : Option Addr) (c : Nat) (l : List Nat) (w : World) (h : Rd w A (fl l)) (hlen : l.length ≤ 2000) :
    Calls Try.prog 64 #[.slice A l.length c] w fun e w' => e = .returned (.agg #[.float .f64 (bestV lessA l), .bool (decide (0 < l.length))]) ∧ Below w.heap.size w w' := by
  rcases Nat.eq_zero_or_pos l.length with h0 | h0
  · obtain rfl := List.eq_nil_of_length_eq_zero h0
    exact rmin_nil A c w
  · rw [decide_eq_true h0, best_cons _ l h0]
    exact rmin_any A c l w h h0 hlen
theorem rmax_all (A : Option Addr) (c : Nat) (l : List Nat) (w : World) (h : Rd w A (fl l)) (hlen : l.length ≤ 2000) :
    Calls Try.prog 65 #[.slice A l.length c] w fun e w' => e = .returned (.agg #[.float .f64 (bestV moreA l), .bool (decide (0 < l.length))]) ∧ Below w.heap.size w w' := by
  rcases Nat.eq_zero_or_pos l.length with h0 | h0
  · obtain rfl := List.eq_nil_of_length_eq_zero h0
    exact rmax_nil A c w
  · rw [decide_eq_true h0, best_cons _ l h0]
    exact rmax_any A c l w h h0 hlen

theorem pick_lt (ah : Nat → Nat → Bool) (l : List Nat) : ∀ (m : Nat), m < two64 → (∀ x ∈ l, x < two64) → pick ah m l < two64 := by
  induction l with
  | nil => intro m h _; exact h
  | cons x l ih =>
    intro m hm hl
    show pick ah (if ah x m then x else m) l < two64
    refine ih _ ?_ fun y hy => hl y (by simp [hy])
    split
    · exact hl x (by simp)
    · exact hm
theorem pick_min (l : List Nat) : ∀ (m : Nat), m < two64 → (∀ x ∈ l, x < two64) → R (pick lessA m l) ≤ R m ∧ ∀ x ∈ l, R (pick lessA m l) ≤ R x := by
  induction l with
  | nil => intro m _ _; exact ⟨Int.le_refl _, by simp⟩
  | cons x l ih =>
    intro m hm hl
    have hx : x < two64 := hl x (by simp)
    have hc := cmp_R x m hx hm
    show R (pick lessA (if lessA x m then x else m) l) ≤ R m ∧ ∀ y ∈ x :: l, R (pick lessA (if lessA x m then x else m) l) ≤ R y
    have hm' : (if lessA x m then x else m) < two64 := by split <;> assumption
    have hb : R (if lessA x m then x else m) ≤ R m ∧ R (if lessA x m then x else m) ≤ R x := by
      by_cases h1 : R x < R m
      · rw [if_pos h1] at hc
        rw [if_pos (by simp [lessA, hc])]; omega
      · have h2 : ¬ cmpF x m < 0 := by rw [hc, if_neg h1]; split <;> omega
        rw [if_neg (by simpa [lessA] using h2)]; omega
    generalize (if lessA x m then x else m) = m' at *
    obtain ⟨i1, i2⟩ := ih m' hm' fun y hy => hl y (by simp [hy])
    refine ⟨by omega, fun y hy => ?_⟩
    rcases List.mem_cons.1 hy with rfl | hy
    · omega
    · exact i2 y hy
theorem pick_max (l : List Nat) : ∀ (m : Nat), m < two64 → (∀ x ∈ l, x < two64) → R m ≤ R (pick moreA m l) ∧ ∀ x ∈ l, R x ≤ R (pick moreA m l) := by
  induction l with
  | nil => intro m _ _; exact ⟨Int.le_refl _, by simp⟩
  | cons x l ih =>
    intro m hm hl
    have hx : x < two64 := hl x (by simp)
    have hc := cmp_R x m hx hm
    show R m ≤ R (pick moreA (if moreA x m then x else m) l) ∧ ∀ y ∈ x :: l, R y ≤ R (pick moreA (if moreA x m then x else m) l)
    have hm' : (if moreA x m then x else m) < two64 := by split <;> assumption
    have hb : R m ≤ R (if moreA x m then x else m) ∧ R x ≤ R (if moreA x m then x else m) := by
      by_cases h1 : R m < R x
      · rw [if_neg (by omega), if_pos h1] at hc
        rw [if_pos (by simp [moreA, hc])]; omega
      · have h2 : ¬ 0 < cmpF x m := by rw [hc, if_neg h1]; split <;> omega
        rw [if_neg (by simpa [moreA] using h2)]; omega
    generalize (if moreA x m then x else m) = m' at *
    obtain ⟨i1, i2⟩ := ih m' hm' fun y hy => hl y (by simp [hy])
    refine ⟨by omega, fun y hy => ?_⟩
    rcases List.mem_cons.1 hy with rfl | hy
    · omega
    · exact i2 y hy
theorem best_R (ah : Nat → Nat → Bool) (l : List Nat) (hl : ∀ x ∈ l, x < two64) (h0 : 0 < l.length) : R (bestV ah l) = R (pick ah l[0] l) ∧ bestV ah l < two64 := by
  rw [best_cons ah l h0, canon_R]
  exact ⟨rfl, canon_lt _ (pick_lt ah l _ (hl _ (List.getElem_mem h0)) hl)⟩
theorem min_first (l : List Nat) (hl : ∀ x ∈ l, x < two64) (k : Nat) (h : k < l.length) : decide (cmpF l[k] (bestV lessA l) < 0) = false := by
  have h0 : 0 < l.length := by omega
  obtain ⟨e, hb⟩ := best_R lessA l hl h0
  have hm := (pick_min l l[0] (hl _ (List.getElem_mem h0)) hl).2 _ (List.getElem_mem h)
  rw [cmp_R _ _ (hl _ (List.getElem_mem h)) hb, e, if_neg (by omega), decide_eq_false]
  split <;> omega
theorem max_last (l : List Nat) (hl : ∀ x ∈ l, x < two64) (k : Nat) (h : k < l.length) : decide (0 < cmpF l[k] (bestV moreA l)) = false := by
  have h0 : 0 < l.length := by omega
  obtain ⟨e, hb⟩ := best_R moreA l hl h0
  have hm := (pick_max l l[0] (hl _ (List.getElem_mem h0)) hl).2 _ (List.getElem_mem h)
  rw [cmp_R _ _ (hl _ (List.getElem_mem h)) hb, e, decide_eq_false]
  split
  · omega
  · rw [if_neg (by omega)]; omega

set_option maxHeartbeats 4000000 in
set_option maxRecDepth 100000 in
theorem ends_some (ad : Addr) (c : Nat) (l : List Nat) (w : World) (hl : ∀ x ∈ l, x < two64) (h : Rd w (some ad) (fl l)) (hlen : l.length ≤ 2000) : Tells Try.prog 13 #[.slice (some ad) l.length c] w := by
  unfold Tells
  have hst := run_sf
  have hself : (decide (0 < l.length) == decide (0 < l.length)) = true := beq_self_eq_true _
  have Hmin := Lib.hid (min_first l hl)
  have Hmax := Lib.hid (max_last l hl)
  obtain ⟨i0, hi, hz0, hz1, hz2⟩ := info_parts info22
  have hown0 : (w.alloc (.cells #[] 22)).ownsRow w.heap.size 22 1 (.slice (some ⟨w.heap.size, 0, none⟩) 0 0) 0 [] := ⟨rfl, Or.inr ⟨w.heap.size, 0, #[], rfl, Nat.le_refl _, Array.getElem?_push_size, Nat.le_refl _, Nat.zero_le _, rfl, rfl⟩⟩
  have HR := Lib.hid h
  clear h
  go_enter Try.func13, Try.ntmps13
  go_wp2_with (at_builtin; refine wpList_append_own _ rfl _ _ 77 rfl w.heap.size 22 i0 (.float .f64 0) 1 8 Try.underlying77 hi hz0 hz1 hz2 rfl (by decide) _ _ _ rfl hown0 ad l.length c (fl l) rfl ?c0 ?c1 ?c2 ?c3 ?c4 ?c5 ?_)
  case c0 => simp
  case c1 =>
    intro j u hj
    have hj' : j < (fl l).length := (List.getElem?_eq_some_iff.1 hj).1
    obtain ⟨ad', e', hcell⟩ := (HR.out.alloc (.cells #[] 22)) j hj'
    cases e'
    rw [hcell, ← hj, List.getElem?_eq_getElem hj']
  case c2 =>
    intro u hu
    obtain ⟨x, _, rfl⟩ := List.mem_map.1 hu
    rfl
  case c3 => unfold maxLen; omega
  case c4 => omega
  case c5 => simp
  intro v' W1 hown hgrow _
  have hb1 : Below w.heap.size w W1 := ((Below.refl _ _).alloc (Nat.le_refl _) _).grown hgrow (by simp) (fun j hj => (hown0.lt j hj).1)
  have hown : W1.ownsRow w.heap.size 22 1 v' l.length (fl l) := by simpa using hown
  obtain ⟨A', c', rfl⟩ := slice_of_own hown
  have hin := Rd.of_own hown
  have hrd1 := HR.out.keep hb1 (Nat.le_refl _)
  clear hown hgrow hown0
  go_wp2_with fail
  refine (min_all _ _ l _ hin hlen).mono ?_
  rintro e w2 ⟨rfl, rfl⟩
  go_wp2_with fail
  refine (max_all _ _ l _ hin hlen).mono ?_
  rintro e w2 ⟨rfl, rfl⟩
  go_wp2_with fail
  refine (rmin_all _ _ l _ hrd1 hlen).mono ?_
  rintro e w2 ⟨rfl, h2⟩
  go_wp2_with fail
  refine (rmax_all _ _ l _ (hrd1.keep h2 (Nat.le_refl _)) hlen).mono ?_
  rintro e w3 ⟨rfl, h3⟩
  have hb3 : Below W1.heap.size W1 w3 := below_trans h2 h3
  go_wp2_with fail
  refine (same_yes _ _).mono ?_
  rintro e w4 ⟨rfl, rfl⟩
  go_wp2_with fail
  refine (same_yes _ _).mono ?_
  rintro e w4 ⟨rfl, rfl⟩
  go_wp2_with fail
  have Hin := Lib.hid hin
  have hb4 := (hb3.alloc hb3.size (.cells #[.float .f64 (bestV lessA l), .bool (decide (0 < l.length))] 62)).alloc (by have := hb3.size; simp; omega) (.cells #[.float .f64 (bestV moreA l), .bool (decide (0 < l.length))] 62)
  clear h2 h3 hin hb3
  go_loopw [10] (fun i wr => ∃ k : Nat, k ≤ l.length ∧ i = .int .i64 k ∧ Below W1.heap.size W1 wr) (fun i _ => l.length - (intOf i).toNat)
  case atStart => exact ⟨0, by omega, rfl, hb4⟩
  case round =>
    obtain ⟨k, hk, rfl, hbr⟩ := hrel
    by_cases hlt : k < l.length
    · obtain ⟨ad1, e1, hcell1⟩ := rd_fl (Rd.keep hrd1 hbr (Nat.le_refl _)) k hlt
      obtain ⟨ad2, e2, hcell2⟩ := rd_fl (Rd.keep Hin.out hbr (Nat.le_refl _)) k hlt
      cases e1; cases e2
      have hmin := Hmin.out k hlt
      have hmax := Hmax.out k hlt
      have hc1 := fun w n => cmp_q l[k] (bestV lessA l) w n
      have hc2 := fun w n => cmp_q l[k] (bestV moreA l) w n
      generalize l[k] = x at *
      generalize cmpF x (bestV lessA l) = z1 at *
      generalize cmpF x (bestV moreA l) = z2 at *
      go_wp2_with fail
      go_quiet ((first | (with_reducible exact same_q _ _ _) | (with_reducible exact hc1 _ _) | (with_reducible exact hc2 _ _)))
      go_wp2_with fail
      exact ⟨⟨k + 1, by omega, by go_num, below_drewN hbr _⟩, by simp [intOf]; omega⟩
    · obtain rfl : k = l.length := by omega
      go_wp2_with fail
      refine (wakes_any _).mono ?_
      rintro e w99 ⟨rfl, h99⟩
      go_wp2_with fail
      go_ret
      exact ⟨rfl, hb1.trans ((hbr.trans (h99.mono hbr.size)).mono hb1.size)⟩

set_option maxHeartbeats 4000000 in
set_option maxRecDepth 100000 in
theorem ends_none (w : World) : Tells Try.prog 13 #[.slice none 0 0] w := by
  obtain ⟨l, hnil⟩ : ∃ l : List Nat, l = [] := ⟨[], rfl⟩
  have hl : ∀ x ∈ l, x < two64 := by rw [hnil]; simp
  have hlen : l.length ≤ 2000 := by rw [hnil]; simp
  have h0 : l.length = 0 := by rw [hnil]; rfl
  have hin : Rd (w.alloc (.cells #[] 22)) (some ⟨w.heap.size, 0, none⟩) (fl l) := by rw [hnil]; exact Rd.nil _ _
  have hrd1 : Rd (w.alloc (.cells #[] 22)) none (fl l) := by rw [hnil]; exact Rd.nil _ _
  have hb1 : Below w.heap.size w (w.alloc (.cells #[] 22)) := (Below.refl _ _).alloc (Nat.le_refl _) _
  have m1 := min_all (some ⟨w.heap.size, 0, none⟩) 0 l _ hin hlen
  have m2 := max_all (some ⟨w.heap.size, 0, none⟩) 0 l _ hin hlen
  have m3 := fun W (hb : Below (w.alloc (.cells #[] 22)).heap.size (w.alloc (.cells #[] 22)) W) => rmin_all none 0 l W (hrd1.keep hb (Nat.le_refl _)) hlen
  have m4 := fun W (hb : Below (w.alloc (.cells #[] 22)).heap.size (w.alloc (.cells #[] 22)) W) => rmax_all none 0 l W (hrd1.keep hb (Nat.le_refl _)) hlen
  rw [h0] at m1 m2 m3 m4
  subst hnil
  unfold Tells
  have hst := run_sf
  go_enter Try.func13, Try.ntmps13
  go_wp2_with fail
  refine m1.mono ?_
  rintro e w2 ⟨rfl, rfl⟩
  go_wp2_with fail
  refine m2.mono ?_
  rintro e w2 ⟨rfl, rfl⟩
  go_wp2_with fail
  refine (m3 _ (Below.refl _ _)).mono ?_
  rintro e w2 ⟨rfl, h2⟩
  go_wp2_with fail
  refine (m4 _ h2).mono ?_
  rintro e w3 ⟨rfl, h3⟩
  have hb3 := below_trans h2 h3
  go_wp2_with fail
  refine (same_yes _ _).mono ?_
  rintro e w4 ⟨rfl, rfl⟩
  go_wp2_with fail
  refine (same_yes _ _).mono ?_
  rintro e w4 ⟨rfl, rfl⟩
  go_wp2_with fail
  have hb4 := (hb3.alloc hb3.size (.cells #[.float .f64 0, .bool false] 62)).alloc (by have := hb3.size; simp at this ⊢; omega) (.cells #[.float .f64 0, .bool false] 62)
  have hb5 := hb1.trans (hb4.mono hb1.size)
  go_loop [10] (fun i => i = .int .i64 0) (fun i => 0)
  case atStart => rfl
  case round =>
    obtain rfl := hrel
    go_wp2_with fail
    refine (wakes_any _).mono ?_
    rintro e w99 ⟨rfl, h99⟩
    go_wp2_with fail
    go_ret
    exact ⟨rfl, hb5.trans (h99.mono hb5.size)⟩

set_option maxRecDepth 100000 in
theorem floatEnds_lifted (os : Os) (started : os.Started) (H : Type) (enc : TypeId × Value → H) :
    ReturnsInHanded {} Try.checked os 13 .any (Rows.floatEndsSpec.pre6 enc Try.prog Try.f13 [] false) (Rows.floatEndsSpec.post enc Try.prog Try.f13 false true false false) := by
  refine law_lifted (C := Try.checked) own started (by kernel_rfl) Try.func13
    (ChangeSpec.witness6 (enc := enc) (C := Try.checked) false ⟨#[], #[.slice none 0 0], []⟩ 8 (by kernel_rfl) (by kernel_rfl) (by kernel_rfl) (by kernel_rfl))
    rfl (fun ds h => by match ds, h with | [_], _ => rfl) laid (by kernel_rfl) (tb := 4) rfl Try.underlying4 ?_
  intro W base args ds ps hval hA hsz
  rw [Try.params13] at hA hval hsz
  obtain ⟨v0, d0, rfl, rfl, h0⟩ := trodAll_one hA
  obtain ⟨A, c, l, rfl, hr, hlc, hm, hw, hn⟩ := open_rdl' (fun b => [.float .f64 b]) (fun b => b < two64) Try.underlying77 (fun fuel cs x h => by
    obtain ⟨b, rfl, hb⟩ := trod_float Try.underlying22 h
    exact ⟨b, rfl, by simpa [Lit.wf, two64] using hb⟩) (hval 0 77 v0 rfl rfl) h0
  rw [cells22] at hr
  by_cases hlen : 2000 < l.length
  · exact over2000 _ _ _ _ hlen
  cases A with
  | none =>
    have hc := hn rfl
    subst hc
    have hl0 : l.length = 0 := by omega
    rw [hl0]
    exact ends_none W
  | some ad => exact ends_some ad c l W hw (Rd.of_rdl hr) (by omega)

theorem floatEnds_holds : Rows.FloatEndsSaid :=
  OpenClaim.holds_of_wide 13 Try.f13 rfl rfl rfl rfl rfl rfl rfl ⟨rfl, rfl, rfl, rfl, rfl⟩ rfl rfl rfl rfl rfl (by kernel_rfl) Try.func13 (by kernel_rfl)
    (of_decide_eq_true (by kernel_rfl)) (by unfold Func.isWrapper; first | (rw [if_pos (by decide +kernel)]; kernel_rfl) | (rw [if_neg (by decide +kernel)]; exact ⟨rfl, rfl⟩))
    (fun os started H enc _ => floatEnds_lifted os started H enc)
#print axioms floatEnds_holds
end Go.Proofs.Ytmgpecomgffelaa
