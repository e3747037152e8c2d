/- Contracts of package float: the first and the last one of a list. -/
import Derived.Test.YtmgpecomgffelaaFloatG
import Derived.Deep.DeepCutAuto
import Derived.Deep.CutBlock
import Derived.Deep.LoopGhost
namespace Go.Proofs.Ytmgpecomgffelaa
open Go.RowKit
set_option linter.unusedVariables false

abbrev fl (l : List Nat) : List Value := l.map (.float .f64)
def pick (ah : Nat → Nat → Bool) (m : Nat) (l : List Nat) : Nat := l.foldl (fun m x => if ah x m then x else m) m
abbrev lessA (x m : Nat) : Bool := decide (cmpF x m < 0)
abbrev moreA (x m : Nat) : Bool := decide (0 < cmpF x m)
def bestV (ah : Nat → Nat → Bool) : List Nat → Nat
  | [] => 0
  | m :: l => canonF (pick ah m (m :: l))

theorem clo_less (x m : Nat) (w : World) : Calls Try.prog 107 #[.float .f64 x, .float .f64 m] w fun e w' => e = .returned (.bool (lessA x m)) ∧ w = w' := by
  have c := cmp_any x m
  unfold lessA
  generalize cmpF x m = r at *
  go_enter Try.func107, Try.ntmps107
  go_wp2_with fail
  refine (c _).mono ?_
  rintro e w1 ⟨rfl, rfl⟩
  go_wp2_with fail
  go_ret
  exact ⟨rfl, rfl⟩
theorem clo_more (x m : Nat) (w : World) : Calls Try.prog 108 #[.float .f64 x, .float .f64 m] w fun e w' => e = .returned (.bool (moreA x m)) ∧ w = w' := by
  have c := cmp_any x m
  unfold moreA
  generalize cmpF x m = r at *
  go_enter Try.func108, Try.ntmps108
  go_wp2_with fail
  refine (c _).mono ?_
  rintro e w1 ⟨rfl, rfl⟩
  go_wp2_with fail
  go_ret
  exact ⟨rfl, rfl⟩
theorem pick_take (ah : Nat → Nat → Bool) (m : Nat) (l : List Nat) (k : Nat) (h : k < l.length) : pick ah m (l.take (k + 1)) = if ah l[k] (pick ah m (l.take k)) then l[k] else pick ah m (l.take k) := by
  unfold pick
  rw [List.take_succ_eq_append_getElem h, List.foldl_append]
  rfl
theorem rd_fl {w : World} {A : Option Addr} {l : List Nat} (h : Rd w A (fl l)) (k : Nat) (hk : k < l.length) : ∃ ad, A = some ad ∧ w.cell? (ad.add k) = some (.float .f64 l[k]) := by
  obtain ⟨ad, e, hc⟩ := h k (by simpa using hk)
  exact ⟨ad, e, by simpa using hc⟩

theorem best_nil (A : Option Addr) (c : Nat) (f : Value) (w : World) : Calls Try.prog 106 #[.slice A 0 c, f] w fun e w' => e = .returned (.tuple #[.float .f64 0, .bool false]) ∧ w = w' := by
  go_enter Try.func106, Try.ntmps106
  go_wp2_with fail
  go_ret2
  exact ⟨rfl, rfl⟩
theorem min_nil (A : Option Addr) (c : Nat) (w : World) : Calls Try.prog 62 #[.slice A 0 c] w fun e w' => e = .returned (.tuple #[.float .f64 0, .bool false]) ∧ w = w' := by
  have h := best_nil A c (.func (.func 107) #[] #[])
  go_enter Try.func62, Try.ntmps62
  go_wp2_with fail
  refine (h _).mono ?_
  rintro e w1 ⟨rfl, rfl⟩
  go_wp2_with fail
  go_ret2
  exact ⟨rfl, rfl⟩
theorem max_nil (A : Option Addr) (c : Nat) (w : World) : Calls Try.prog 63 #[.slice A 0 c] w fun e w' => e = .returned (.tuple #[.float .f64 0, .bool false]) ∧ w = w' := by
  have h := best_nil A c (.func (.func 108) #[] #[])
  go_enter Try.func63, Try.ntmps63
  go_wp2_with fail
  refine (h _).mono ?_
  rintro e w1 ⟨rfl, rfl⟩
  go_wp2_with fail
  go_ret2
  exact ⟨rfl, rfl⟩

set_option maxRecDepth 100000 in
theorem best_min (A : Option Addr) (c : Nat) (l : List Nat) (w : World) (h : Rd w A (fl l)) (hl : 0 < l.length) (hlen : l.length ≤ 2000) :
    Calls Try.prog 106 #[.slice A l.length c, .func (.func 107) #[] #[]] w fun e w' => e = .returned (.tuple #[.float .f64 (canonF (pick lessA l[0] l)), .bool true]) ∧ w = w' := by
  obtain ⟨ad, rfl, h0⟩ := rd_fl h 0 hl
  rw [add_zero'] at h0
  have ht : ((l.length : Int) == 0) = false := by rw [beq_eq_false_iff_ne]; omega
  have H := Lib.hid h
  have HF := Lib.hid clo_less
  have Hc := Lib.hid canon_any
  clear h
  generalize hm : l[0] = m0 at *
  go_enter Try.func106, Try.ntmps106
  go_wp2_with fail
  go_loop [6, 17] (fun x i => ∃ k : Nat, k ≤ l.length ∧ i = .int .i64 k ∧ x = .float .f64 (pick lessA m0 (l.take k))) (fun _ i => l.length - (intOf i).toNat)
  case atStart => exact ⟨0, by omega, rfl, rfl⟩
  case round =>
    obtain ⟨k, hk, rfl, rfl⟩ := hrel
    by_cases hlt : k < l.length
    · obtain ⟨ad', e1, hcell⟩ := rd_fl H.out k hlt
      cases e1
      have hp := pick_take lessA m0 l k hlt
      generalize l[k] = x at *
      have hcall := HF.out x (pick lessA m0 (l.take k))
      cases hb : lessA x (pick lessA m0 (l.take k)) with
      | true =>
        rw [hb] at hp hcall
        have Hp := Lib.hid hp
        generalize pick lessA m0 (l.take k) = y at *
        clear hp hb
        go_wp2_with fail
        refine (hcall _).mono ?_
        rintro e w1 ⟨rfl, rfl⟩
        go_wp2_with fail
        go_round
        case rel => exact ⟨k + 1, by omega, by go_num, by rw [Hp.out]; rfl⟩
        case measure => simp [intOf]; omega
      | false =>
        rw [hb] at hp hcall
        have Hp := Lib.hid hp
        generalize pick lessA m0 (l.take k) = y at *
        clear hp hb
        go_wp2_with fail
        refine (hcall _).mono ?_
        rintro e w1 ⟨rfl, rfl⟩
        go_wp2_with fail
        go_round
        case rel => exact ⟨k + 1, by omega, by go_num, by rw [Hp.out]; rfl⟩
        case measure => simp [intOf]; omega
    · obtain rfl : k = l.length := by omega
      rw [List.take_length]
      go_wp2_with fail
      refine (Hc.out _ _).mono ?_
      rintro e w1 ⟨rfl, rfl⟩
      go_wp2_with fail
      go_ret2
      exact ⟨rfl, rfl⟩
set_option maxRecDepth 100000 in
theorem best_max (A : Option Addr) (c : Nat) (l : List Nat) (w : World) (h : Rd w A (fl l)) (hl : 0 < l.length) (hlen : l.length ≤ 2000) :
    Calls Try.prog 106 #[.slice A l.length c, .func (.func 108) #[] #[]] w fun e w' => e = .returned (.tuple #[.float .f64 (canonF (pick moreA l[0] l)), .bool true]) ∧ w = w' := by
  obtain ⟨ad, rfl, h0⟩ := rd_fl h 0 hl
  rw [add_zero'] at h0
  have ht : ((l.length : Int) == 0) = false := by rw [beq_eq_false_iff_ne]; omega
  have H := Lib.hid h
  have HF := Lib.hid clo_more
  have Hc := Lib.hid canon_any
  clear h
  generalize hm : l[0] = m0 at *
  go_enter Try.func106, Try.ntmps106
  go_wp2_with fail
  go_loop [6, 17] (fun x i => ∃ k : Nat, k ≤ l.length ∧ i = .int .i64 k ∧ x = .float .f64 (pick moreA m0 (l.take k))) (fun _ i => l.length - (intOf i).toNat)
  case atStart => exact ⟨0, by omega, rfl, rfl⟩
  case round =>
    obtain ⟨k, hk, rfl, rfl⟩ := hrel
    by_cases hlt : k < l.length
    · obtain ⟨ad', e1, hcell⟩ := rd_fl H.out k hlt
      cases e1
      have hp := pick_take moreA m0 l k hlt
      generalize l[k] = x at *
      have hcall := HF.out x (pick moreA m0 (l.take k))
      cases hb : moreA x (pick moreA m0 (l.take k)) with
      | true =>
        rw [hb] at hp hcall
        have Hp := Lib.hid hp
        generalize pick moreA m0 (l.take k) = y at *
        clear hp hb
        go_wp2_with fail
        refine (hcall _).mono ?_
        rintro e w1 ⟨rfl, rfl⟩
        go_wp2_with fail
        go_round
        case rel => exact ⟨k + 1, by omega, by go_num, by rw [Hp.out]; rfl⟩
        case measure => simp [intOf]; omega
      | false =>
        rw [hb] at hp hcall
        have Hp := Lib.hid hp
        generalize pick moreA m0 (l.take k) = y at *
        clear hp hb
        go_wp2_with fail
        refine (hcall _).mono ?_
        rintro e w1 ⟨rfl, rfl⟩
        go_wp2_with fail
        go_round
        case rel => exact ⟨k + 1, by omega, by go_num, by rw [Hp.out]; rfl⟩
        case measure => simp [intOf]; omega
    · obtain rfl : k = l.length := by omega
      rw [List.take_length]
      go_wp2_with fail
      refine (Hc.out _ _).mono ?_
      rintro e w1 ⟨rfl, rfl⟩
      go_wp2_with fail
      go_ret2
      exact ⟨rfl, rfl⟩
end Go.Proofs.Ytmgpecomgffelaa
