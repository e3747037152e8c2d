/- The law FloatTurned. -/
import Derived.Test.YtmgpecomgffelaaFloatP
import Derived.Deep.QuietTactic
import Derived.BigQuiet
namespace Go.Proofs.Ytmgpecomgffelaa
open Go.RowKit Go.ChangeShapes Go.WideShapes Go.ChangeAt
set_option linter.unusedVariables false
theorem nan_q (a : Nat) (w : World) (n : Nat) (b : Bool) (h : isNaN a = b) : Calls Try.prog 47 #[.float .f64 a] (w.drewN n) fun e w' => e = .returned (.bool b) ∧ ∃ m, w' = w.drewN m :=
  (isnan_any a _).mono fun e w' ⟨h1, h2⟩ => ⟨h ▸ h1, n, h2.symm⟩
theorem turned_long (a b n : Nat) (A : Option Addr) (c : Nat) (w : World) (h : 2000 < n) : Tells Try.prog 14 #[.float .f64 a, .float .f64 b, .slice A n c] w := by
  unfold Tells
  go_enter Try.func14, Try.ntmps14
  go_wp2_with fail
  refine (wakes_any _).mono ?_
  rintro e w99 ⟨rfl, h99⟩
  go_wp2_with fail
  go_ret
  exact ⟨rfl, h99⟩

set_option maxHeartbeats 2000000 in
set_option maxRecDepth 100000 in
theorem turned_ff (a b : Nat) (ha : a < two64) (hb : b < two64) (na : isNaN a = false) (nb : isNaN b = false) (ad : Addr) (l : List Nat) (c : Nat) (w : World) (hl : ∀ x ∈ l, x < two64) (h : Rd w (some ad) (fl l)) (hlen : l.length ≤ 2000) : Tells Try.prog 14 #[.float .f64 a, .float .f64 b, .slice (some ad) l.length c] w := by
  unfold Tells
  have hng := run_neg
  have hst := run_sf
  have c1 := isnan_any a
  have c2 := isnan_any b
  rw [na] at c1
  rw [nb] at c2
  have c3 := cmp_any (negW a) (negW b)
  have c4 := cmp_any b a
  rw [cmp_neg a b ha hb na nb] at c3
  generalize cmpF b a = z at *
  have hself : (z == z) = true := beq_self_eq_true _
  obtain ⟨i0, hi, hz0, hz1, hz2⟩ := info_parts info22
  have HR := Lib.hid h
  have hend := turned_end l hl
  have Hnan := Lib.hid (turned_nan l)
  clear h na nb ha hb
  obtain ⟨ng, hg⟩ : ∃ ng : Nat → Nat, negW = ng := ⟨_, rfl⟩
  have Hg := Lib.hid hg
  rw [hg] at hng c3
  rw [hg] at hend
  have Hend := Lib.hid hend
  clear hend
  clear hg
  go_enter Try.func14, Try.ntmps14
  go_wp2_with fail
  refine (c1 _).mono ?_
  rintro e w1 ⟨rfl, rfl⟩
  go_wp2_with fail
  refine (c2 _).mono ?_
  rintro e w2 ⟨rfl, rfl⟩
  go_wp2_with fail
  refine (c3 _).mono ?_
  rintro e w3 ⟨rfl, rfl⟩
  go_wp2_with fail
  refine (c4 _).mono ?_
  rintro e w4 ⟨rfl, rfl⟩
  go_wp2_with fail
  refine (c1 _).mono ?_
  rintro e w5 ⟨rfl, rfl⟩
  go_wp2_with fail
  go_loopw [7, 8] (fun v i wr => ∃ k : Nat, k ≤ l.length ∧ i = .int .i64 k ∧ wr.ownsRow w.heap.size 22 1 v (negs (l.take k)).length (fl (negs (l.take k))) ∧ Below w.heap.size w wr) (fun _ i _ => l.length - (intOf i).toNat)
  case atStart => exact ⟨0, by omega, rfl, World.ownsRow_nil _ _ _ _, Below.refl _ _⟩
  case round =>
    obtain ⟨k, hk, rfl, hown, hb⟩ := hrel
    by_cases hlt : k < l.length
    · obtain ⟨ad', e1, hcell⟩ := rd_fl (HR.out.keep hb (Nat.le_refl _)) k hlt
      cases e1
      have hp := negs_take l k hlt
      rw [Hg.out] at hp
      have hlen2 := negs_len (l.take k)
      rw [List.length_take] at hlen2
      generalize l[k] = x at *
      cases hnx : isNaN x with
      | true =>
        rw [hnx, if_pos rfl, List.append_nil] at hp
        have Hp := Lib.hid hp
        have hq := isnan_any x
        rw [hnx] at hq
        clear hp hnx
        go_wp2_with fail
        refine (hq _).mono ?_
        rintro e w1 ⟨rfl, rfl⟩
        go_wp2_with fail
        exact ⟨⟨k + 1, by omega, by go_num, by rw [Hp.out]; exact hown, hb⟩, by simp [intOf]; omega⟩
      | false =>
        rw [hnx, if_neg (by simp)] at hp
        have Hp := Lib.hid hp
        have hq := isnan_any x
        rw [hnx] at hq
        clear hp hnx
        go_wp2_with fail
        refine (hq _).mono ?_
        rintro e w1 ⟨rfl, rfl⟩
        go_wp2_with (at_builtin; refine wpList_append_own _ rfl _ _ 77 rfl w.heap.size 22 i0 (.float .f64 0) 1 8 Try.underlying77 hi hz0 hz1 hz2 rfl (by decide) _ _ _ rfl (hown.alloc _) ⟨wr.heap.size, 0, none⟩ 1 1 [.float .f64 (ng x)] rfl rfl ?c1 ?c2 ?c3 ?c4 ?c5 ?_)
        case c1 =>
          intro j u hj
          match j with
          | 0 =>
            rw [add_zero', World.cell?_alloc_new]
            exact hj
          | j + 1 => simp at hj
        case c2 => simp [Value.oneCell']
        case c3 => unfold maxLen; omega
        case c4 => omega
        case c5 => have := hb.size; simp; omega
        intro v' W1 hown' hgrow _
        have hb1 : Below w.heap.size w W1 := (hb.alloc hb.size _).grown hgrow (by have := hb.size; simp; omega) (fun j hj => (hown.lt j hj).1)
        go_wp2_with fail
        exact ⟨⟨k + 1, by omega, by go_num, by rw [Hp.out]; simpa using hown', hb1⟩, by simp [intOf]; omega⟩
    · obtain rfl : k = l.length := by omega
      rw [List.take_length] at hown
      obtain ⟨A', c', rfl⟩ := slice_of_own hown
      have hkr := Rd.of_own hown
      have hnl := negs_len l
      clear hown
      have hown0 : (wr.alloc (.cells #[] 22)).ownsRow wr.heap.size 22 1 (.slice (some ⟨wr.heap.size, 0, none⟩) 0 0) 0 [] := ⟨rfl, Or.inr ⟨wr.heap.size, 0, #[], rfl, Nat.le_refl _, Array.getElem?_push_size, Nat.le_refl _, Nat.zero_le _, rfl, rfl⟩⟩
      have hmax := max_all A' c' (negs l) wr hkr (by omega)
      go_wp2_with fail
      refine hmax.mono ?_
      rintro e w1 ⟨rfl, rfl⟩
      go_wp2_with (at_builtin; refine wpList_append_own _ rfl _ _ 77 rfl wr.heap.size 22 i0 (.float .f64 0) 1 8 Try.underlying77 hi hz0 hz1 hz2 rfl (by decide) _ _ _ rfl hown0 ad l.length c (fl l) rfl ?c0 ?c1 ?c2 ?c3 ?c4 ?c5 ?_)
      case c0 => simp
      case c1 =>
        intro j u hj
        have hj' : j < (fl l).length := (List.getElem?_eq_some_iff.1 hj).1
        obtain ⟨ad', e', hcell⟩ := ((HR.out.keep hb (Nat.le_refl _)).alloc (.cells #[] 22)) j hj'
        cases e'
        rw [hcell, ← hj, List.getElem?_eq_getElem hj']
      case c2 =>
        intro u hu
        obtain ⟨x, _, rfl⟩ := List.mem_map.1 hu
        rfl
      case c3 => unfold maxLen; omega
      case c4 => omega
      case c5 => simp
      intro v' W1 hown hgrow _
      have hb1 : Below wr.heap.size wr W1 := ((Below.refl _ _).alloc (Nat.le_refl _) _).grown hgrow (by simp) (fun j hj => (hown0.lt j hj).1)
      have hown : W1.ownsRow wr.heap.size 22 1 v' l.length (fl l) := by simpa using hown
      obtain ⟨A2, c2, rfl⟩ := slice_of_own hown
      have hin := Rd.of_own hown
      have hmin := min_all A2 c2 l W1 hin hlen
      have hb2 := hb.trans (hb1.mono hb.size)
      clear hown hgrow hown0 hkr hmax
      go_wp2_with fail
      refine hmin.mono ?_
      rintro e w1 ⟨rfl, rfl⟩
      by_cases hn0 : (negs l).length = 0
      · have hz1 : decide (0 < (negs l).length) = false := by rw [hn0]; rfl
        have hz2 : (((negs l).length : Int) == 0) = true := by rw [hn0]; rfl
        by_cases hl0 : 0 < l.length
        · have hz3 : decide (0 < l.length) = true := decide_eq_true hl0
          have hz4 : decide ((0 : Int) < (l.length : Int)) = true := by rw [decide_eq_true]; omega
          have hq := isnan_any (bestV lessA l)
          rw [Hnan.out hn0 hl0] at hq
          clear hn0 hl0
          go_wp2_with fail
          refine (hq _).mono ?_
          rintro e w2 ⟨rfl, rfl⟩
          go_wp2_with fail
          refine (wakes_any _).mono ?_
          rintro e w99 ⟨rfl, h99⟩
          go_wp2_with fail
          go_ret
          exact ⟨rfl, hb2.trans (h99.mono hb2.size)⟩
        · have hz3 : decide (0 < l.length) = false := decide_eq_false hl0
          have hz4 : decide ((0 : Int) < (l.length : Int)) = false := by rw [decide_eq_false]; omega
          clear hn0 hl0
          go_wp2_with fail
          refine (wakes_any _).mono ?_
          rintro e w99 ⟨rfl, h99⟩
          go_wp2_with fail
          go_ret
          exact ⟨rfl, hb2.trans (h99.mono hb2.size)⟩
      · have hl0 : 0 < l.length := by omega
        have hz1 : decide (0 < (negs l).length) = true := decide_eq_true (by omega)
        have hz2 : (((negs l).length : Int) == 0) = false := by rw [beq_eq_false_iff_ne]; omega
        have hz3 : decide (0 < l.length) = true := decide_eq_true hl0
        have hcz := cmp_any (ng (bestV moreA (negs l))) (bestV lessA l)
        rw [Hend.out (by omega)] at hcz
        clear hn0 hl0
        go_wp2_with fail
        refine (hcz _).mono ?_
        rintro e w2 ⟨rfl, rfl⟩
        go_wp2_with fail
        refine (wakes_any _).mono ?_
        rintro e w99 ⟨rfl, h99⟩
        go_wp2_with fail
        go_ret
        exact ⟨rfl, hb2.trans (h99.mono hb2.size)⟩

set_option maxHeartbeats 2000000 in
set_option maxRecDepth 100000 in
theorem turned_ff0 (a b : Nat) (ha : a < two64) (hb : b < two64) (na : isNaN a = false) (nb : isNaN b = false) (w : World) : Tells Try.prog 14 #[.float .f64 a, .float .f64 b, .slice none 0 0] w := by
  unfold Tells
  have hng := run_neg
  have hst := run_sf
  have c1 := isnan_any a
  have c2 := isnan_any b
  rw [na] at c1
  rw [nb] at c2
  have c3 := cmp_any (negW a) (negW b)
  have c4 := cmp_any b a
  rw [cmp_neg a b ha hb na nb] at c3
  generalize cmpF b a = z at *
  have hself : (z == z) = true := beq_self_eq_true _
  have n1 := max_nil none 0
  have n2 := min_nil (some ⟨w.heap.size, 0, none⟩) 0
  clear na nb ha hb
  obtain ⟨ng, hg⟩ : ∃ ng : Nat → Nat, negW = ng := ⟨_, rfl⟩
  rw [hg] at hng c3
  clear hg
  go_enter Try.func14, Try.ntmps14
  go_wp2_with fail
  refine (c1 _).mono ?_
  rintro e w1 ⟨rfl, rfl⟩
  go_wp2_with fail
  refine (c2 _).mono ?_
  rintro e w2 ⟨rfl, rfl⟩
  go_wp2_with fail
  refine (c3 _).mono ?_
  rintro e w3 ⟨rfl, rfl⟩
  go_wp2_with fail
  refine (c4 _).mono ?_
  rintro e w4 ⟨rfl, rfl⟩
  go_wp2_with fail
  refine (c1 _).mono ?_
  rintro e w5 ⟨rfl, rfl⟩
  go_wp2_with fail
  go_loop [7, 8] (fun v i => v = .slice none 0 0 ∧ i = .int .i64 0) (fun _ _ => 0)
  case atStart => exact ⟨rfl, rfl⟩
  case round =>
    obtain ⟨rfl, rfl⟩ := hrel
    go_wp2_with fail
    refine (n1 _).mono ?_
    rintro e w1 ⟨rfl, rfl⟩
    go_wp2_with fail
    refine (n2 _).mono ?_
    rintro e w1 ⟨rfl, rfl⟩
    go_wp2_with fail
    refine (wakes_any _).mono ?_
    rintro e w99 ⟨rfl, h99⟩
    go_wp2_with fail
    go_ret
    have hb1 : Below w.heap.size w (w.alloc (.cells #[] 22)) := (Below.refl _ _).alloc (Nat.le_refl _) _
    exact ⟨rfl, hb1.trans (h99.mono hb1.size)⟩

set_option maxHeartbeats 2000000 in
set_option maxRecDepth 100000 in
theorem turned_ft (a b : Nat) (ha : a < two64) (hb : b < two64) (na : isNaN a = false) (nb : isNaN b = true) (ad : Addr) (l : List Nat) (c : Nat) (w : World) (hl : ∀ x ∈ l, x < two64) (h : Rd w (some ad) (fl l)) (hlen : l.length ≤ 2000) : Tells Try.prog 14 #[.float .f64 a, .float .f64 b, .slice (some ad) l.length c] w := by
  unfold Tells
  have hng := run_neg
  have hst := run_sf
  have c1 := isnan_any a
  have c2 := isnan_any b
  rw [na] at c1
  rw [nb] at c2
  obtain ⟨i0, hi, hz0, hz1, hz2⟩ := info_parts info22
  have HR := Lib.hid h
  have hend := turned_end l hl
  have Hnan := Lib.hid (turned_nan l)
  clear h na nb ha hb
  obtain ⟨ng, hg⟩ : ∃ ng : Nat → Nat, negW = ng := ⟨_, rfl⟩
  have Hg := Lib.hid hg
  rw [hg] at hng 
  rw [hg] at hend
  have Hend := Lib.hid hend
  clear hend
  clear hg
  go_enter Try.func14, Try.ntmps14
  go_wp2_with fail
  refine (c1 _).mono ?_
  rintro e w1 ⟨rfl, rfl⟩
  go_wp2_with fail
  refine (c2 _).mono ?_
  rintro e w2 ⟨rfl, rfl⟩
  go_wp2_with fail
  refine (c1 _).mono ?_
  rintro e w5 ⟨rfl, rfl⟩
  go_wp2_with fail
  go_loopw [7, 8] (fun v i wr => ∃ k : Nat, k ≤ l.length ∧ i = .int .i64 k ∧ wr.ownsRow w.heap.size 22 1 v (negs (l.take k)).length (fl (negs (l.take k))) ∧ Below w.heap.size w wr) (fun _ i _ => l.length - (intOf i).toNat)
  case atStart => exact ⟨0, by omega, rfl, World.ownsRow_nil _ _ _ _, Below.refl _ _⟩
  case round =>
    obtain ⟨k, hk, rfl, hown, hb⟩ := hrel
    by_cases hlt : k < l.length
    · obtain ⟨ad', e1, hcell⟩ := rd_fl (HR.out.keep hb (Nat.le_refl _)) k hlt
      cases e1
      have hp := negs_take l k hlt
      rw [Hg.out] at hp
      have hlen2 := negs_len (l.take k)
      rw [List.length_take] at hlen2
      generalize l[k] = x at *
      cases hnx : isNaN x with
      | true =>
        rw [hnx, if_pos rfl, List.append_nil] at hp
        have Hp := Lib.hid hp
        have hq := isnan_any x
        rw [hnx] at hq
        clear hp hnx
        go_wp2_with fail
        refine (hq _).mono ?_
        rintro e w1 ⟨rfl, rfl⟩
        go_wp2_with fail
        exact ⟨⟨k + 1, by omega, by go_num, by rw [Hp.out]; exact hown, hb⟩, by simp [intOf]; omega⟩
      | false =>
        rw [hnx, if_neg (by simp)] at hp
        have Hp := Lib.hid hp
        have hq := isnan_any x
        rw [hnx] at hq
        clear hp hnx
        go_wp2_with fail
        refine (hq _).mono ?_
        rintro e w1 ⟨rfl, rfl⟩
        go_wp2_with (at_builtin; refine wpList_append_own _ rfl _ _ 77 rfl w.heap.size 22 i0 (.float .f64 0) 1 8 Try.underlying77 hi hz0 hz1 hz2 rfl (by decide) _ _ _ rfl (hown.alloc _) ⟨wr.heap.size, 0, none⟩ 1 1 [.float .f64 (ng x)] rfl rfl ?c1 ?c2 ?c3 ?c4 ?c5 ?_)
        case c1 =>
          intro j u hj
          match j with
          | 0 =>
            rw [add_zero', World.cell?_alloc_new]
            exact hj
          | j + 1 => simp at hj
        case c2 => simp [Value.oneCell']
        case c3 => unfold maxLen; omega
        case c4 => omega
        case c5 => have := hb.size; simp; omega
        intro v' W1 hown' hgrow _
        have hb1 : Below w.heap.size w W1 := (hb.alloc hb.size _).grown hgrow (by have := hb.size; simp; omega) (fun j hj => (hown.lt j hj).1)
        go_wp2_with fail
        exact ⟨⟨k + 1, by omega, by go_num, by rw [Hp.out]; simpa using hown', hb1⟩, by simp [intOf]; omega⟩
    · obtain rfl : k = l.length := by omega
      rw [List.take_length] at hown
      obtain ⟨A', c', rfl⟩ := slice_of_own hown
      have hkr := Rd.of_own hown
      have hnl := negs_len l
      clear hown
      have hown0 : (wr.alloc (.cells #[] 22)).ownsRow wr.heap.size 22 1 (.slice (some ⟨wr.heap.size, 0, none⟩) 0 0) 0 [] := ⟨rfl, Or.inr ⟨wr.heap.size, 0, #[], rfl, Nat.le_refl _, Array.getElem?_push_size, Nat.le_refl _, Nat.zero_le _, rfl, rfl⟩⟩
      have hmax := max_all A' c' (negs l) wr hkr (by omega)
      go_wp2_with fail
      refine hmax.mono ?_
      rintro e w1 ⟨rfl, rfl⟩
      go_wp2_with (at_builtin; refine wpList_append_own _ rfl _ _ 77 rfl wr.heap.size 22 i0 (.float .f64 0) 1 8 Try.underlying77 hi hz0 hz1 hz2 rfl (by decide) _ _ _ rfl hown0 ad l.length c (fl l) rfl ?c0 ?c1 ?c2 ?c3 ?c4 ?c5 ?_)
      case c0 => simp
      case c1 =>
        intro j u hj
        have hj' : j < (fl l).length := (List.getElem?_eq_some_iff.1 hj).1
        obtain ⟨ad', e', hcell⟩ := ((HR.out.keep hb (Nat.le_refl _)).alloc (.cells #[] 22)) j hj'
        cases e'
        rw [hcell, ← hj, List.getElem?_eq_getElem hj']
      case c2 =>
        intro u hu
        obtain ⟨x, _, rfl⟩ := List.mem_map.1 hu
        rfl
      case c3 => unfold maxLen; omega
      case c4 => omega
      case c5 => simp
      intro v' W1 hown hgrow _
      have hb1 : Below wr.heap.size wr W1 := ((Below.refl _ _).alloc (Nat.le_refl _) _).grown hgrow (by simp) (fun j hj => (hown0.lt j hj).1)
      have hown : W1.ownsRow wr.heap.size 22 1 v' l.length (fl l) := by simpa using hown
      obtain ⟨A2, c2, rfl⟩ := slice_of_own hown
      have hin := Rd.of_own hown
      have hmin := min_all A2 c2 l W1 hin hlen
      have hb2 := hb.trans (hb1.mono hb.size)
      clear hown hgrow hown0 hkr hmax
      go_wp2_with fail
      refine hmin.mono ?_
      rintro e w1 ⟨rfl, rfl⟩
      by_cases hn0 : (negs l).length = 0
      · have hz1 : decide (0 < (negs l).length) = false := by rw [hn0]; rfl
        have hz2 : (((negs l).length : Int) == 0) = true := by rw [hn0]; rfl
        by_cases hl0 : 0 < l.length
        · have hz3 : decide (0 < l.length) = true := decide_eq_true hl0
          have hz4 : decide ((0 : Int) < (l.length : Int)) = true := by rw [decide_eq_true]; omega
          have hq := isnan_any (bestV lessA l)
          rw [Hnan.out hn0 hl0] at hq
          clear hn0 hl0
          go_wp2_with fail
          refine (hq _).mono ?_
          rintro e w2 ⟨rfl, rfl⟩
          go_wp2_with fail
          refine (wakes_any _).mono ?_
          rintro e w99 ⟨rfl, h99⟩
          go_wp2_with fail
          go_ret
          exact ⟨rfl, hb2.trans (h99.mono hb2.size)⟩
        · have hz3 : decide (0 < l.length) = false := decide_eq_false hl0
          have hz4 : decide ((0 : Int) < (l.length : Int)) = false := by rw [decide_eq_false]; omega
          clear hn0 hl0
          go_wp2_with fail
          refine (wakes_any _).mono ?_
          rintro e w99 ⟨rfl, h99⟩
          go_wp2_with fail
          go_ret
          exact ⟨rfl, hb2.trans (h99.mono hb2.size)⟩
      · have hl0 : 0 < l.length := by omega
        have hz1 : decide (0 < (negs l).length) = true := decide_eq_true (by omega)
        have hz2 : (((negs l).length : Int) == 0) = false := by rw [beq_eq_false_iff_ne]; omega
        have hz3 : decide (0 < l.length) = true := decide_eq_true hl0
        have hcz := cmp_any (ng (bestV moreA (negs l))) (bestV lessA l)
        rw [Hend.out (by omega)] at hcz
        clear hn0 hl0
        go_wp2_with fail
        refine (hcz _).mono ?_
        rintro e w2 ⟨rfl, rfl⟩
        go_wp2_with fail
        refine (wakes_any _).mono ?_
        rintro e w99 ⟨rfl, h99⟩
        go_wp2_with fail
        go_ret
        exact ⟨rfl, hb2.trans (h99.mono hb2.size)⟩

set_option maxHeartbeats 2000000 in
set_option maxRecDepth 100000 in
theorem turned_ft0 (a b : Nat) (ha : a < two64) (hb : b < two64) (na : isNaN a = false) (nb : isNaN b = true) (w : World) : Tells Try.prog 14 #[.float .f64 a, .float .f64 b, .slice none 0 0] w := by
  unfold Tells
  have hng := run_neg
  have hst := run_sf
  have c1 := isnan_any a
  have c2 := isnan_any b
  rw [na] at c1
  rw [nb] at c2
  have n1 := max_nil none 0
  have n2 := min_nil (some ⟨w.heap.size, 0, none⟩) 0
  clear na nb ha hb
  obtain ⟨ng, hg⟩ : ∃ ng : Nat → Nat, negW = ng := ⟨_, rfl⟩
  rw [hg] at hng 
  clear hg
  go_enter Try.func14, Try.ntmps14
  go_wp2_with fail
  refine (c1 _).mono ?_
  rintro e w1 ⟨rfl, rfl⟩
  go_wp2_with fail
  refine (c2 _).mono ?_
  rintro e w2 ⟨rfl, rfl⟩
  go_wp2_with fail
  refine (c1 _).mono ?_
  rintro e w5 ⟨rfl, rfl⟩
  go_wp2_with fail
  go_loop [7, 8] (fun v i => v = .slice none 0 0 ∧ i = .int .i64 0) (fun _ _ => 0)
  case atStart => exact ⟨rfl, rfl⟩
  case round =>
    obtain ⟨rfl, rfl⟩ := hrel
    go_wp2_with fail
    refine (n1 _).mono ?_
    rintro e w1 ⟨rfl, rfl⟩
    go_wp2_with fail
    refine (n2 _).mono ?_
    rintro e w1 ⟨rfl, rfl⟩
    go_wp2_with fail
    refine (wakes_any _).mono ?_
    rintro e w99 ⟨rfl, h99⟩
    go_wp2_with fail
    go_ret
    have hb1 : Below w.heap.size w (w.alloc (.cells #[] 22)) := (Below.refl _ _).alloc (Nat.le_refl _) _
    exact ⟨rfl, hb1.trans (h99.mono hb1.size)⟩

set_option maxHeartbeats 2000000 in
set_option maxRecDepth 100000 in
theorem turned_tf (a b : Nat) (ha : a < two64) (hb : b < two64) (na : isNaN a = true) (nb : isNaN b = false) (ad : Addr) (l : List Nat) (c : Nat) (w : World) (hl : ∀ x ∈ l, x < two64) (h : Rd w (some ad) (fl l)) (hlen : l.length ≤ 2000) : Tells Try.prog 14 #[.float .f64 a, .float .f64 b, .slice (some ad) l.length c] w := by
  unfold Tells
  have hng := run_neg
  have hst := run_sf
  have c1 := isnan_any a
  have c2 := isnan_any b
  rw [na] at c1
  rw [nb] at c2
  have c3 := cmp_any a b
  have c4 := cmp_any (negW a) (negW b)
  rw [cmp_nan a b na nb] at c3
  rw [cmp_nan _ _ ((negW_nan a ha).trans na) ((negW_nan b hb).trans nb)] at c4
  obtain ⟨i0, hi, hz0, hz1, hz2⟩ := info_parts info22
  have HR := Lib.hid h
  have hend := turned_end l hl
  have Hnan := Lib.hid (turned_nan l)
  clear h na nb ha hb
  obtain ⟨ng, hg⟩ : ∃ ng : Nat → Nat, negW = ng := ⟨_, rfl⟩
  have Hg := Lib.hid hg
  rw [hg] at hng c4
  rw [hg] at hend
  have Hend := Lib.hid hend
  clear hend
  clear hg
  go_enter Try.func14, Try.ntmps14
  go_wp2_with fail
  refine (c1 _).mono ?_
  rintro e w1 ⟨rfl, rfl⟩
  go_wp2_with fail
  refine (c1 _).mono ?_
  rintro e w5 ⟨rfl, rfl⟩
  go_wp2_with fail
  refine (c2 _).mono ?_
  rintro e w6 ⟨rfl, rfl⟩
  go_wp2_with fail
  refine (c3 _).mono ?_
  rintro e w7 ⟨rfl, rfl⟩
  go_wp2_with fail
  refine (c4 _).mono ?_
  rintro e w8 ⟨rfl, rfl⟩
  go_wp2_with fail
  go_loopw [7, 8] (fun v i wr => ∃ k : Nat, k ≤ l.length ∧ i = .int .i64 k ∧ wr.ownsRow w.heap.size 22 1 v (negs (l.take k)).length (fl (negs (l.take k))) ∧ Below w.heap.size w wr) (fun _ i _ => l.length - (intOf i).toNat)
  case atStart => exact ⟨0, by omega, rfl, World.ownsRow_nil _ _ _ _, Below.refl _ _⟩
  case round =>
    obtain ⟨k, hk, rfl, hown, hb⟩ := hrel
    by_cases hlt : k < l.length
    · obtain ⟨ad', e1, hcell⟩ := rd_fl (HR.out.keep hb (Nat.le_refl _)) k hlt
      cases e1
      have hp := negs_take l k hlt
      rw [Hg.out] at hp
      have hlen2 := negs_len (l.take k)
      rw [List.length_take] at hlen2
      generalize l[k] = x at *
      cases hnx : isNaN x with
      | true =>
        rw [hnx, if_pos rfl, List.append_nil] at hp
        have Hp := Lib.hid hp
        have hq := isnan_any x
        rw [hnx] at hq
        clear hp hnx
        go_wp2_with fail
        refine (hq _).mono ?_
        rintro e w1 ⟨rfl, rfl⟩
        go_wp2_with fail
        exact ⟨⟨k + 1, by omega, by go_num, by rw [Hp.out]; exact hown, hb⟩, by simp [intOf]; omega⟩
      | false =>
        rw [hnx, if_neg (by simp)] at hp
        have Hp := Lib.hid hp
        have hq := isnan_any x
        rw [hnx] at hq
        clear hp hnx
        go_wp2_with fail
        refine (hq _).mono ?_
        rintro e w1 ⟨rfl, rfl⟩
        go_wp2_with (at_builtin; refine wpList_append_own _ rfl _ _ 77 rfl w.heap.size 22 i0 (.float .f64 0) 1 8 Try.underlying77 hi hz0 hz1 hz2 rfl (by decide) _ _ _ rfl (hown.alloc _) ⟨wr.heap.size, 0, none⟩ 1 1 [.float .f64 (ng x)] rfl rfl ?c1 ?c2 ?c3 ?c4 ?c5 ?_)
        case c1 =>
          intro j u hj
          match j with
          | 0 =>
            rw [add_zero', World.cell?_alloc_new]
            exact hj
          | j + 1 => simp at hj
        case c2 => simp [Value.oneCell']
        case c3 => unfold maxLen; omega
        case c4 => omega
        case c5 => have := hb.size; simp; omega
        intro v' W1 hown' hgrow _
        have hb1 : Below w.heap.size w W1 := (hb.alloc hb.size _).grown hgrow (by have := hb.size; simp; omega) (fun j hj => (hown.lt j hj).1)
        go_wp2_with fail
        exact ⟨⟨k + 1, by omega, by go_num, by rw [Hp.out]; simpa using hown', hb1⟩, by simp [intOf]; omega⟩
    · obtain rfl : k = l.length := by omega
      rw [List.take_length] at hown
      obtain ⟨A', c', rfl⟩ := slice_of_own hown
      have hkr := Rd.of_own hown
      have hnl := negs_len l
      clear hown
      have hown0 : (wr.alloc (.cells #[] 22)).ownsRow wr.heap.size 22 1 (.slice (some ⟨wr.heap.size, 0, none⟩) 0 0) 0 [] := ⟨rfl, Or.inr ⟨wr.heap.size, 0, #[], rfl, Nat.le_refl _, Array.getElem?_push_size, Nat.le_refl _, Nat.zero_le _, rfl, rfl⟩⟩
      have hmax := max_all A' c' (negs l) wr hkr (by omega)
      go_wp2_with fail
      refine hmax.mono ?_
      rintro e w1 ⟨rfl, rfl⟩
      go_wp2_with (at_builtin; refine wpList_append_own _ rfl _ _ 77 rfl wr.heap.size 22 i0 (.float .f64 0) 1 8 Try.underlying77 hi hz0 hz1 hz2 rfl (by decide) _ _ _ rfl hown0 ad l.length c (fl l) rfl ?c0 ?c1 ?c2 ?c3 ?c4 ?c5 ?_)
      case c0 => simp
      case c1 =>
        intro j u hj
        have hj' : j < (fl l).length := (List.getElem?_eq_some_iff.1 hj).1
        obtain ⟨ad', e', hcell⟩ := ((HR.out.keep hb (Nat.le_refl _)).alloc (.cells #[] 22)) j hj'
        cases e'
        rw [hcell, ← hj, List.getElem?_eq_getElem hj']
      case c2 =>
        intro u hu
        obtain ⟨x, _, rfl⟩ := List.mem_map.1 hu
        rfl
      case c3 => unfold maxLen; omega
      case c4 => omega
      case c5 => simp
      intro v' W1 hown hgrow _
      have hb1 : Below wr.heap.size wr W1 := ((Below.refl _ _).alloc (Nat.le_refl _) _).grown hgrow (by simp) (fun j hj => (hown0.lt j hj).1)
      have hown : W1.ownsRow wr.heap.size 22 1 v' l.length (fl l) := by simpa using hown
      obtain ⟨A2, c2, rfl⟩ := slice_of_own hown
      have hin := Rd.of_own hown
      have hmin := min_all A2 c2 l W1 hin hlen
      have hb2 := hb.trans (hb1.mono hb.size)
      clear hown hgrow hown0 hkr hmax
      go_wp2_with fail
      refine hmin.mono ?_
      rintro e w1 ⟨rfl, rfl⟩
      by_cases hn0 : (negs l).length = 0
      · have hz1 : decide (0 < (negs l).length) = false := by rw [hn0]; rfl
        have hz2 : (((negs l).length : Int) == 0) = true := by rw [hn0]; rfl
        by_cases hl0 : 0 < l.length
        · have hz3 : decide (0 < l.length) = true := decide_eq_true hl0
          have hz4 : decide ((0 : Int) < (l.length : Int)) = true := by rw [decide_eq_true]; omega
          have hq := isnan_any (bestV lessA l)
          rw [Hnan.out hn0 hl0] at hq
          clear hn0 hl0
          go_wp2_with fail
          refine (hq _).mono ?_
          rintro e w2 ⟨rfl, rfl⟩
          go_wp2_with fail
          refine (wakes_any _).mono ?_
          rintro e w99 ⟨rfl, h99⟩
          go_wp2_with fail
          go_ret
          exact ⟨rfl, hb2.trans (h99.mono hb2.size)⟩
        · have hz3 : decide (0 < l.length) = false := decide_eq_false hl0
          have hz4 : decide ((0 : Int) < (l.length : Int)) = false := by rw [decide_eq_false]; omega
          clear hn0 hl0
          go_wp2_with fail
          refine (wakes_any _).mono ?_
          rintro e w99 ⟨rfl, h99⟩
          go_wp2_with fail
          go_ret
          exact ⟨rfl, hb2.trans (h99.mono hb2.size)⟩
      · have hl0 : 0 < l.length := by omega
        have hz1 : decide (0 < (negs l).length) = true := decide_eq_true (by omega)
        have hz2 : (((negs l).length : Int) == 0) = false := by rw [beq_eq_false_iff_ne]; omega
        have hz3 : decide (0 < l.length) = true := decide_eq_true hl0
        have hcz := cmp_any (ng (bestV moreA (negs l))) (bestV lessA l)
        rw [Hend.out (by omega)] at hcz
        clear hn0 hl0
        go_wp2_with fail
        refine (hcz _).mono ?_
        rintro e w2 ⟨rfl, rfl⟩
        go_wp2_with fail
        refine (wakes_any _).mono ?_
        rintro e w99 ⟨rfl, h99⟩
        go_wp2_with fail
        go_ret
        exact ⟨rfl, hb2.trans (h99.mono hb2.size)⟩

set_option maxHeartbeats 2000000 in
set_option maxRecDepth 100000 in
theorem turned_tf0 (a b : Nat) (ha : a < two64) (hb : b < two64) (na : isNaN a = true) (nb : isNaN b = false) (w : World) : Tells Try.prog 14 #[.float .f64 a, .float .f64 b, .slice none 0 0] w := by
  unfold Tells
  have hng := run_neg
  have hst := run_sf
  have c1 := isnan_any a
  have c2 := isnan_any b
  rw [na] at c1
  rw [nb] at c2
  have c3 := cmp_any a b
  have c4 := cmp_any (negW a) (negW b)
  rw [cmp_nan a b na nb] at c3
  rw [cmp_nan _ _ ((negW_nan a ha).trans na) ((negW_nan b hb).trans nb)] at c4
  have n1 := max_nil none 0
  have n2 := min_nil (some ⟨w.heap.size, 0, none⟩) 0
  clear na nb ha hb
  obtain ⟨ng, hg⟩ : ∃ ng : Nat → Nat, negW = ng := ⟨_, rfl⟩
  rw [hg] at hng c4
  clear hg
  go_enter Try.func14, Try.ntmps14
  go_wp2_with fail
  refine (c1 _).mono ?_
  rintro e w1 ⟨rfl, rfl⟩
  go_wp2_with fail
  refine (c1 _).mono ?_
  rintro e w5 ⟨rfl, rfl⟩
  go_wp2_with fail
  refine (c2 _).mono ?_
  rintro e w6 ⟨rfl, rfl⟩
  go_wp2_with fail
  refine (c3 _).mono ?_
  rintro e w7 ⟨rfl, rfl⟩
  go_wp2_with fail
  refine (c4 _).mono ?_
  rintro e w8 ⟨rfl, rfl⟩
  go_wp2_with fail
  go_loop [7, 8] (fun v i => v = .slice none 0 0 ∧ i = .int .i64 0) (fun _ _ => 0)
  case atStart => exact ⟨rfl, rfl⟩
  case round =>
    obtain ⟨rfl, rfl⟩ := hrel
    go_wp2_with fail
    refine (n1 _).mono ?_
    rintro e w1 ⟨rfl, rfl⟩
    go_wp2_with fail
    refine (n2 _).mono ?_
    rintro e w1 ⟨rfl, rfl⟩
    go_wp2_with fail
    refine (wakes_any _).mono ?_
    rintro e w99 ⟨rfl, h99⟩
    go_wp2_with fail
    go_ret
    have hb1 : Below w.heap.size w (w.alloc (.cells #[] 22)) := (Below.refl _ _).alloc (Nat.le_refl _) _
    exact ⟨rfl, hb1.trans (h99.mono hb1.size)⟩

set_option maxHeartbeats 2000000 in
set_option maxRecDepth 100000 in
theorem turned_tt (a b : Nat) (ha : a < two64) (hb : b < two64) (na : isNaN a = true) (nb : isNaN b = true) (ad : Addr) (l : List Nat) (c : Nat) (w : World) (hl : ∀ x ∈ l, x < two64) (h : Rd w (some ad) (fl l)) (hlen : l.length ≤ 2000) : Tells Try.prog 14 #[.float .f64 a, .float .f64 b, .slice (some ad) l.length c] w := by
  unfold Tells
  have hng := run_neg
  have hst := run_sf
  have c1 := isnan_any a
  have c2 := isnan_any b
  rw [na] at c1
  rw [nb] at c2
  obtain ⟨i0, hi, hz0, hz1, hz2⟩ := info_parts info22
  have HR := Lib.hid h
  have hend := turned_end l hl
  have Hnan := Lib.hid (turned_nan l)
  clear h na nb ha hb
  obtain ⟨ng, hg⟩ : ∃ ng : Nat → Nat, negW = ng := ⟨_, rfl⟩
  have Hg := Lib.hid hg
  rw [hg] at hng 
  rw [hg] at hend
  have Hend := Lib.hid hend
  clear hend
  clear hg
  go_enter Try.func14, Try.ntmps14
  go_wp2_with fail
  refine (c1 _).mono ?_
  rintro e w1 ⟨rfl, rfl⟩
  go_wp2_with fail
  refine (c1 _).mono ?_
  rintro e w5 ⟨rfl, rfl⟩
  go_wp2_with fail
  refine (c2 _).mono ?_
  rintro e w6 ⟨rfl, rfl⟩
  go_wp2_with fail
  go_loopw [7, 8] (fun v i wr => ∃ k : Nat, k ≤ l.length ∧ i = .int .i64 k ∧ wr.ownsRow w.heap.size 22 1 v (negs (l.take k)).length (fl (negs (l.take k))) ∧ Below w.heap.size w wr) (fun _ i _ => l.length - (intOf i).toNat)
  case atStart => exact ⟨0, by omega, rfl, World.ownsRow_nil _ _ _ _, Below.refl _ _⟩
  case round =>
    obtain ⟨k, hk, rfl, hown, hb⟩ := hrel
    by_cases hlt : k < l.length
    · obtain ⟨ad', e1, hcell⟩ := rd_fl (HR.out.keep hb (Nat.le_refl _)) k hlt
      cases e1
      have hp := negs_take l k hlt
      rw [Hg.out] at hp
      have hlen2 := negs_len (l.take k)
      rw [List.length_take] at hlen2
      generalize l[k] = x at *
      cases hnx : isNaN x with
      | true =>
        rw [hnx, if_pos rfl, List.append_nil] at hp
        have Hp := Lib.hid hp
        have hq := isnan_any x
        rw [hnx] at hq
        clear hp hnx
        go_wp2_with fail
        refine (hq _).mono ?_
        rintro e w1 ⟨rfl, rfl⟩
        go_wp2_with fail
        exact ⟨⟨k + 1, by omega, by go_num, by rw [Hp.out]; exact hown, hb⟩, by simp [intOf]; omega⟩
      | false =>
        rw [hnx, if_neg (by simp)] at hp
        have Hp := Lib.hid hp
        have hq := isnan_any x
        rw [hnx] at hq
        clear hp hnx
        go_wp2_with fail
        refine (hq _).mono ?_
        rintro e w1 ⟨rfl, rfl⟩
        go_wp2_with (at_builtin; refine wpList_append_own _ rfl _ _ 77 rfl w.heap.size 22 i0 (.float .f64 0) 1 8 Try.underlying77 hi hz0 hz1 hz2 rfl (by decide) _ _ _ rfl (hown.alloc _) ⟨wr.heap.size, 0, none⟩ 1 1 [.float .f64 (ng x)] rfl rfl ?c1 ?c2 ?c3 ?c4 ?c5 ?_)
        case c1 =>
          intro j u hj
          match j with
          | 0 =>
            rw [add_zero', World.cell?_alloc_new]
            exact hj
          | j + 1 => simp at hj
        case c2 => simp [Value.oneCell']
        case c3 => unfold maxLen; omega
        case c4 => omega
        case c5 => have := hb.size; simp; omega
        intro v' W1 hown' hgrow _
        have hb1 : Below w.heap.size w W1 := (hb.alloc hb.size _).grown hgrow (by have := hb.size; simp; omega) (fun j hj => (hown.lt j hj).1)
        go_wp2_with fail
        exact ⟨⟨k + 1, by omega, by go_num, by rw [Hp.out]; simpa using hown', hb1⟩, by simp [intOf]; omega⟩
    · obtain rfl : k = l.length := by omega
      rw [List.take_length] at hown
      obtain ⟨A', c', rfl⟩ := slice_of_own hown
      have hkr := Rd.of_own hown
      have hnl := negs_len l
      clear hown
      have hown0 : (wr.alloc (.cells #[] 22)).ownsRow wr.heap.size 22 1 (.slice (some ⟨wr.heap.size, 0, none⟩) 0 0) 0 [] := ⟨rfl, Or.inr ⟨wr.heap.size, 0, #[], rfl, Nat.le_refl _, Array.getElem?_push_size, Nat.le_refl _, Nat.zero_le _, rfl, rfl⟩⟩
      have hmax := max_all A' c' (negs l) wr hkr (by omega)
      go_wp2_with fail
      refine hmax.mono ?_
      rintro e w1 ⟨rfl, rfl⟩
      go_wp2_with (at_builtin; refine wpList_append_own _ rfl _ _ 77 rfl wr.heap.size 22 i0 (.float .f64 0) 1 8 Try.underlying77 hi hz0 hz1 hz2 rfl (by decide) _ _ _ rfl hown0 ad l.length c (fl l) rfl ?c0 ?c1 ?c2 ?c3 ?c4 ?c5 ?_)
      case c0 => simp
      case c1 =>
        intro j u hj
        have hj' : j < (fl l).length := (List.getElem?_eq_some_iff.1 hj).1
        obtain ⟨ad', e', hcell⟩ := ((HR.out.keep hb (Nat.le_refl _)).alloc (.cells #[] 22)) j hj'
        cases e'
        rw [hcell, ← hj, List.getElem?_eq_getElem hj']
      case c2 =>
        intro u hu
        obtain ⟨x, _, rfl⟩ := List.mem_map.1 hu
        rfl
      case c3 => unfold maxLen; omega
      case c4 => omega
      case c5 => simp
      intro v' W1 hown hgrow _
      have hb1 : Below wr.heap.size wr W1 := ((Below.refl _ _).alloc (Nat.le_refl _) _).grown hgrow (by simp) (fun j hj => (hown0.lt j hj).1)
      have hown : W1.ownsRow wr.heap.size 22 1 v' l.length (fl l) := by simpa using hown
      obtain ⟨A2, c2, rfl⟩ := slice_of_own hown
      have hin := Rd.of_own hown
      have hmin := min_all A2 c2 l W1 hin hlen
      have hb2 := hb.trans (hb1.mono hb.size)
      clear hown hgrow hown0 hkr hmax
      go_wp2_with fail
      refine hmin.mono ?_
      rintro e w1 ⟨rfl, rfl⟩
      by_cases hn0 : (negs l).length = 0
      · have hz1 : decide (0 < (negs l).length) = false := by rw [hn0]; rfl
        have hz2 : (((negs l).length : Int) == 0) = true := by rw [hn0]; rfl
        by_cases hl0 : 0 < l.length
        · have hz3 : decide (0 < l.length) = true := decide_eq_true hl0
          have hz4 : decide ((0 : Int) < (l.length : Int)) = true := by rw [decide_eq_true]; omega
          have hq := isnan_any (bestV lessA l)
          rw [Hnan.out hn0 hl0] at hq
          clear hn0 hl0
          go_wp2_with fail
          refine (hq _).mono ?_
          rintro e w2 ⟨rfl, rfl⟩
          go_wp2_with fail
          refine (wakes_any _).mono ?_
          rintro e w99 ⟨rfl, h99⟩
          go_wp2_with fail
          go_ret
          exact ⟨rfl, hb2.trans (h99.mono hb2.size)⟩
        · have hz3 : decide (0 < l.length) = false := decide_eq_false hl0
          have hz4 : decide ((0 : Int) < (l.length : Int)) = false := by rw [decide_eq_false]; omega
          clear hn0 hl0
          go_wp2_with fail
          refine (wakes_any _).mono ?_
          rintro e w99 ⟨rfl, h99⟩
          go_wp2_with fail
          go_ret
          exact ⟨rfl, hb2.trans (h99.mono hb2.size)⟩
      · have hl0 : 0 < l.length := by omega
        have hz1 : decide (0 < (negs l).length) = true := decide_eq_true (by omega)
        have hz2 : (((negs l).length : Int) == 0) = false := by rw [beq_eq_false_iff_ne]; omega
        have hz3 : decide (0 < l.length) = true := decide_eq_true hl0
        have hcz := cmp_any (ng (bestV moreA (negs l))) (bestV lessA l)
        rw [Hend.out (by omega)] at hcz
        clear hn0 hl0
        go_wp2_with fail
        refine (hcz _).mono ?_
        rintro e w2 ⟨rfl, rfl⟩
        go_wp2_with fail
        refine (wakes_any _).mono ?_
        rintro e w99 ⟨rfl, h99⟩
        go_wp2_with fail
        go_ret
        exact ⟨rfl, hb2.trans (h99.mono hb2.size)⟩

set_option maxHeartbeats 2000000 in
set_option maxRecDepth 100000 in
theorem turned_tt0 (a b : Nat) (ha : a < two64) (hb : b < two64) (na : isNaN a = true) (nb : isNaN b = true) (w : World) : Tells Try.prog 14 #[.float .f64 a, .float .f64 b, .slice none 0 0] w := by
  unfold Tells
  have hng := run_neg
  have hst := run_sf
  have c1 := isnan_any a
  have c2 := isnan_any b
  rw [na] at c1
  rw [nb] at c2
  have n1 := max_nil none 0
  have n2 := min_nil (some ⟨w.heap.size, 0, none⟩) 0
  clear na nb ha hb
  obtain ⟨ng, hg⟩ : ∃ ng : Nat → Nat, negW = ng := ⟨_, rfl⟩
  rw [hg] at hng 
  clear hg
  go_enter Try.func14, Try.ntmps14
  go_wp2_with fail
  refine (c1 _).mono ?_
  rintro e w1 ⟨rfl, rfl⟩
  go_wp2_with fail
  refine (c1 _).mono ?_
  rintro e w5 ⟨rfl, rfl⟩
  go_wp2_with fail
  refine (c2 _).mono ?_
  rintro e w6 ⟨rfl, rfl⟩
  go_wp2_with fail
  go_loop [7, 8] (fun v i => v = .slice none 0 0 ∧ i = .int .i64 0) (fun _ _ => 0)
  case atStart => exact ⟨rfl, rfl⟩
  case round =>
    obtain ⟨rfl, rfl⟩ := hrel
    go_wp2_with fail
    refine (n1 _).mono ?_
    rintro e w1 ⟨rfl, rfl⟩
    go_wp2_with fail
    refine (n2 _).mono ?_
    rintro e w1 ⟨rfl, rfl⟩
    go_wp2_with fail
    refine (wakes_any _).mono ?_
    rintro e w99 ⟨rfl, h99⟩
    go_wp2_with fail
    go_ret
    have hb1 : Below w.heap.size w (w.alloc (.cells #[] 22)) := (Below.refl _ _).alloc (Nat.le_refl _) _
    exact ⟨rfl, hb1.trans (h99.mono hb1.size)⟩

theorem turned_all (a b : Nat) (ha : a < two64) (hb : b < two64) (A : Option Addr) (l : List Nat) (c : Nat) (w : World) (hl : ∀ x ∈ l, x < two64) (h : Rd w A (fl l)) (hlen : ¬ 2000 < l.length) (hlc : l.length ≤ c) (hn : A = none → c = 0) : Tells Try.prog 14 #[.float .f64 a, .float .f64 b, .slice A l.length c] w := by
  cases A with
  | none =>
    have hc := hn rfl
    subst hc
    have hl0 : l.length = 0 := by omega
    rw [hl0]
    cases na : isNaN a <;> cases nb : isNaN b
    · exact turned_ff0 a b ha hb na nb w
    · exact turned_ft0 a b ha hb na nb w
    · exact turned_tf0 a b ha hb na nb w
    · exact turned_tt0 a b ha hb na nb w
  | some ad =>
    cases na : isNaN a <;> cases nb : isNaN b
    · exact turned_ff a b ha hb na nb ad l c w hl h (by omega)
    · exact turned_ft a b ha hb na nb ad l c w hl h (by omega)
    · exact turned_tf a b ha hb na nb ad l c w hl h (by omega)
    · exact turned_tt a b ha hb na nb ad l c w hl h (by omega)

set_option maxRecDepth 100000 in
theorem floatTurned_lifted (os : Os) (started : os.Started) (H : Type) (enc : TypeId × Value → H) :
    ReturnsInHanded {} Try.checked os 14 .any (Rows.floatTurnedSpec.pre6 enc Try.prog Try.f14 [] false) (Rows.floatTurnedSpec.post enc Try.prog Try.f14 false true false false) := by
  refine law_lifted (C := Try.checked) own started (by kernel_rfl) Try.func14
    (ChangeSpec.witness6 (enc := enc) (C := Try.checked) false ⟨#[], #[.float .f64 0, .float .f64 0, .slice none 0 0], []⟩ 8 (by kernel_rfl) (by kernel_rfl) (by kernel_rfl) (by kernel_rfl))
    rfl (fun ds h => by match ds, h with | [_, _, _], _ => rfl) laid (by kernel_rfl) (tb := 4) rfl Try.underlying4 ?_
  intro W base args ds ps hval hA hsz
  rw [Try.params14] at hA hval hsz
  obtain ⟨v0, v1, v2, d0, d1, d2, p0, p1, p2, rfl, rfl, rfl, h0, h1, h2⟩ := trodAll_three hA
  obtain ⟨a, rfl, rfl, rfl, k0⟩ := open_float Try.underlying22 (hval 0 22 v0 rfl rfl) h0
  obtain ⟨b, rfl, rfl, rfl, k1⟩ := open_float Try.underlying22 (hval 1 22 v1 rfl rfl) h1
  obtain ⟨A, c, l, rfl, hr, hlc, hm, hw, hn⟩ := open_rdl' (fun b => [.float .f64 b]) (fun b => b < two64) Try.underlying77 (fun fuel cs x h => by
    obtain ⟨b, rfl, hb⟩ := trod_float Try.underlying22 h
    exact ⟨b, rfl, by simpa [Lit.wf, two64] using hb⟩) (hval 2 77 v2 rfl rfl) h2
  rw [cells22] at hr
  have ha : a < two64 := by simpa [Lit.wf, two64] using k0
  have hb : b < two64 := by simpa [Lit.wf, two64] using k1
  by_cases hlen : 2000 < l.length
  · exact turned_long _ _ _ _ _ _ hlen
  exact turned_all a b ha hb A l c W hw (Rd.of_rdl hr) hlen hlc hn

theorem floatTurned_holds : Rows.FloatTurnedSaid :=
  OpenClaim.holds_of_wide 14 Try.f14 rfl rfl rfl rfl rfl rfl rfl ⟨rfl, rfl, rfl, rfl, rfl⟩ rfl rfl rfl rfl rfl (by kernel_rfl) Try.func14 (by kernel_rfl)
    (of_decide_eq_true (by kernel_rfl)) (by unfold Func.isWrapper; first | (rw [if_pos (by decide +kernel)]; kernel_rfl) | (rw [if_neg (by decide +kernel)]; exact ⟨rfl, rfl⟩))
    (fun os started H enc _ => floatTurned_lifted os started H enc)
#print axioms floatTurned_holds
end Go.Proofs.Ytmgpecomgffelaa
