/- Contracts of package float: Min and Max, and their references. -/
import Derived.Test.YtmgpecomgffelaaFloatH
namespace Go.Proofs.Ytmgpecomgffelaa
open Go.RowKit
set_option linter.unusedVariables false

theorem min_any (A : Option Addr) (c : Nat) (l : List Nat) (w : World) (h : Rd w A (fl l)) (hl : 0 < l.length) (hlen : l.length ≤ 2000) :
    Calls Try.prog 62 #[.slice A l.length c] w fun e w' => e = .returned (.tuple #[.float .f64 (canonF (pick lessA l[0] l)), .bool true]) ∧ w = w' := by
  have hb := best_min A c l w h hl hlen
  have hlt := hlen
  generalize canonF (pick lessA l[0] l) = r at *
  clear h hl
  go_enter Try.func62, Try.ntmps62
  go_wp2_with fail
  refine hb.mono ?_
  rintro e w1 ⟨rfl, rfl⟩
  go_wp2_with fail
  go_ret2
  exact ⟨rfl, rfl⟩

theorem max_any (A : Option Addr) (c : Nat) (l : List Nat) (w : World) (h : Rd w A (fl l)) (hl : 0 < l.length) (hlen : l.length ≤ 2000) :
    Calls Try.prog 63 #[.slice A l.length c] w fun e w' => e = .returned (.tuple #[.float .f64 (canonF (pick moreA l[0] l)), .bool true]) ∧ w = w' := by
  have hb := best_max A c l w h hl hlen
  have hlt := hlen
  generalize canonF (pick moreA l[0] l) = r at *
  clear h hl
  go_enter Try.func63, Try.ntmps63
  go_wp2_with fail
  refine hb.mono ?_
  rintro e w1 ⟨rfl, rfl⟩
  go_wp2_with fail
  go_ret2
  exact ⟨rfl, rfl⟩

theorem rmin_nil (A : Option Addr) (c : Nat) (w : World) : Calls Try.prog 64 #[.slice A 0 c] w fun e w' => e = .returned (.agg #[.float .f64 0, .bool false]) ∧ Below w.heap.size w w' := by
  go_enter Try.func64, Try.ntmps64
  have hst := run_sf
  go_wp2_with fail
  exact bodyPost_ret (v := .agg #[.float .f64 0, .bool false]) (by simp [results, Try.results64, go_sem]) rfl ⟨rfl, (Below.refl _ _).alloc (Nat.le_refl _) _⟩

set_option maxRecDepth 100000 in
theorem rmin_any (A : Option Addr) (c : Nat) (l : List Nat) (w : World) (h : Rd w A (fl l)) (hl : 0 < l.length) (hlen : l.length ≤ 2000) :
    Calls Try.prog 64 #[.slice A l.length c] w fun e w' => e = .returned (.agg #[.float .f64 (canonF (pick lessA l[0] l)), .bool true]) ∧ Below w.heap.size w w' := by
  obtain ⟨ad, rfl, h0⟩ := rd_fl h 0 hl
  rw [add_zero'] at h0
  have hst := run_sf
  have hlt0 : ad.block < w.heap.size := World.block_lt_of_cell? _ _ h0
  have ht : ((l.length : Int) == 0) = false := by rw [beq_eq_false_iff_ne]; omega
  have H := Lib.hid h
  have Hc := Lib.hid rcanon_any
  have Hr := Lib.hid rcmp_any
  clear h
  generalize hm : l[0] = m0 at *
  go_enter Try.func64, Try.ntmps64
  go_wp2_with fail
  go_loop [3, 4] (fun x i => ∃ k : Nat, k ≤ l.length ∧ i = .int .i64 k ∧ x = .float .f64 (pick lessA m0 (l.take k))) (fun _ i => l.length - (intOf i).toNat)
  case atStart => exact ⟨0, by omega, rfl, rfl⟩
  case round =>
    obtain ⟨k, hk, rfl, rfl⟩ := hrel
    by_cases hlt : k < l.length
    · obtain ⟨ad', e1, hcell⟩ := rd_fl H.out k hlt
      cases e1
      have hp := pick_take lessA m0 l k hlt
      have hcell2 := (World.cell?_alloc_lt w (Obj.cells #[.float .f64 0, .bool false] 62) (ad.add k) (by rw [add_block]; exact hlt0)).trans hcell
      generalize l[k] = x at *
      generalize hy : pick lessA m0 (l.take k) = y at *
      have hcall := Hr.out x y
      cases hb : lessA x y with
      | true =>
        rw [hb] at hp
        have Hp := Lib.hid hp
        have hb : decide (cmpF x y < 0) = true := hb
        generalize cmpF x y = z at *
        clear hp hy
        go_wp2_with fail
        refine (hcall _).mono ?_
        rintro e w1 ⟨rfl, rfl⟩
        go_wp2_with fail
        go_round
        case rel => exact ⟨k + 1, by omega, by go_num, by rw [Hp.out]; rfl⟩
        case measure => simp [intOf]; omega
      | false =>
        rw [hb] at hp
        have Hp := Lib.hid hp
        have hb : decide (cmpF x y < 0) = false := hb
        generalize cmpF x y = z at *
        clear hp hy
        go_wp2_with fail
        refine (hcall _).mono ?_
        rintro e w1 ⟨rfl, rfl⟩
        go_wp2_with fail
        go_round
        case rel => exact ⟨k + 1, by omega, by go_num, by rw [Hp.out]; rfl⟩
        case measure => simp [intOf]; omega
    · obtain rfl : k = l.length := by omega
      rw [List.take_length]
      go_wp2_with fail
      refine (Hc.out _ _).mono ?_
      rintro e w1 ⟨rfl, rfl⟩
      go_wp2_with fail
      exact bodyPost_ret (v := .agg #[.float .f64 (canonF (pick lessA m0 l)), .bool true]) (by simp [results, Try.results64, go_sem]) rfl ⟨rfl, (Below.refl _ _).alloc (Nat.le_refl _) _⟩

theorem rmax_nil (A : Option Addr) (c : Nat) (w : World) : Calls Try.prog 65 #[.slice A 0 c] w fun e w' => e = .returned (.agg #[.float .f64 0, .bool false]) ∧ Below w.heap.size w w' := by
  go_enter Try.func65, Try.ntmps65
  have hst := run_sf
  go_wp2_with fail
  exact bodyPost_ret (v := .agg #[.float .f64 0, .bool false]) (by simp [results, Try.results65, go_sem]) rfl ⟨rfl, (Below.refl _ _).alloc (Nat.le_refl _) _⟩

set_option maxRecDepth 100000 in
theorem rmax_any (A : Option Addr) (c : Nat) (l : List Nat) (w : World) (h : Rd w A (fl l)) (hl : 0 < l.length) (hlen : l.length ≤ 2000) :
    Calls Try.prog 65 #[.slice A l.length c] w fun e w' => e = .returned (.agg #[.float .f64 (canonF (pick moreA l[0] l)), .bool true]) ∧ Below w.heap.size w w' := by
  obtain ⟨ad, rfl, h0⟩ := rd_fl h 0 hl
  rw [add_zero'] at h0
  have hst := run_sf
  have hlt0 : ad.block < w.heap.size := World.block_lt_of_cell? _ _ h0
  have ht : ((l.length : Int) == 0) = false := by rw [beq_eq_false_iff_ne]; omega
  have H := Lib.hid h
  have Hc := Lib.hid rcanon_any
  have Hr := Lib.hid rcmp_any
  clear h
  generalize hm : l[0] = m0 at *
  go_enter Try.func65, Try.ntmps65
  go_wp2_with fail
  go_loop [3, 4] (fun x i => ∃ k : Nat, k ≤ l.length ∧ i = .int .i64 k ∧ x = .float .f64 (pick moreA m0 (l.take k))) (fun _ i => l.length - (intOf i).toNat)
  case atStart => exact ⟨0, by omega, rfl, rfl⟩
  case round =>
    obtain ⟨k, hk, rfl, rfl⟩ := hrel
    by_cases hlt : k < l.length
    · obtain ⟨ad', e1, hcell⟩ := rd_fl H.out k hlt
      cases e1
      have hp := pick_take moreA m0 l k hlt
      have hcell2 := (World.cell?_alloc_lt w (Obj.cells #[.float .f64 0, .bool false] 62) (ad.add k) (by rw [add_block]; exact hlt0)).trans hcell
      generalize l[k] = x at *
      generalize hy : pick moreA m0 (l.take k) = y at *
      have hcall := Hr.out x y
      cases hb : moreA x y with
      | true =>
        rw [hb] at hp
        have Hp := Lib.hid hp
        have hb : decide (0 < cmpF x y) = true := hb
        generalize cmpF x y = z at *
        clear hp hy
        go_wp2_with fail
        refine (hcall _).mono ?_
        rintro e w1 ⟨rfl, rfl⟩
        go_wp2_with fail
        go_round
        case rel => exact ⟨k + 1, by omega, by go_num, by rw [Hp.out]; rfl⟩
        case measure => simp [intOf]; omega
      | false =>
        rw [hb] at hp
        have Hp := Lib.hid hp
        have hb : decide (0 < cmpF x y) = false := hb
        generalize cmpF x y = z at *
        clear hp hy
        go_wp2_with fail
        refine (hcall _).mono ?_
        rintro e w1 ⟨rfl, rfl⟩
        go_wp2_with fail
        go_round
        case rel => exact ⟨k + 1, by omega, by go_num, by rw [Hp.out]; rfl⟩
        case measure => simp [intOf]; omega
    · obtain rfl : k = l.length := by omega
      rw [List.take_length]
      go_wp2_with fail
      refine (Hc.out _ _).mono ?_
      rintro e w1 ⟨rfl, rfl⟩
      go_wp2_with fail
      exact bodyPost_ret (v := .agg #[.float .f64 (canonF (pick moreA m0 l)), .bool true]) (by simp [results, Try.results65, go_sem]) rfl ⟨rfl, (Below.refl _ _).alloc (Nat.le_refl _) _⟩
end Go.Proofs.Ytmgpecomgffelaa
