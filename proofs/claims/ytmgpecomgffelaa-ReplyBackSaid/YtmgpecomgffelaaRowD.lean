/- Contract of row.Fill. -/
import Derived.Test.YtmgpecomgffelaaRowC
namespace Go.Proofs.Ytmgpecomgffelaa
open Go.RowKit
set_option linter.unusedVariables false
def tk (c : Col) (v : Val) : Int := takesV c.kind c.nn v.kind v.n v.f v.s
/-- Whether the column j takes its value. -/
def tkAt (l : List Col) (r : List Val) (j : Nat) : Int := if h : j < l.length then tk l[j] (r.getD j l[j].d) else 0
theorem tkAt_eq (l : List Col) (r : List Val) (j : Nat) (h : j < l.length) : tkAt l r j = tk l[j] (r.getD j l[j].d) := by unfold tkAt; rw [dif_pos h]

theorem fill_many (A B : Option Addr) (c d m n : Nat) (w : World) (h : m < n) : Calls Try.prog 52 #[.slice A m c, .slice B n d] w fun e w' => e = .returned (.tuple #[.slice none 0 0, .int .i64 22]) ∧ w = w' := by
  have ht : decide ((m : Int) < (n : Int)) = true := by rw [decide_eq_true]; omega
  go_enter Try.func52, Try.ntmps52
  go_wp2_with fail
  go_ret2
  exact ⟨rfl, rfl⟩

set_option maxRecDepth 100000 in
theorem fill_ok (A B : Option Addr) (c d : Nat) (l : List Col) (r : List Val) (w : World) (ha : RdC w A l) (hb : RdV w B r) (hl : l.length ≤ 1000) (hr : r.length ≤ l.length) (hok : ∀ j, j < l.length → tkAt l r j = 0) :
    Calls Try.prog 52 #[.slice A l.length c, .slice B r.length d] w fun e w' => ∃ A' c', e = .returned (.tuple #[.slice A' l.length c', .int .i64 0]) ∧ RdV w' A' (padV l r) ∧ (A' = none → c' = 0) ∧ Below w.heap.size w w' := by
  have ht : decide ((l.length : Int) < (r.length : Int)) = false := by rw [decide_eq_false]; omega
  have hst := run_sf
  have HA := Lib.hid ha
  have HP := Lib.hid (pad_any A B c d l r w ha hb hl)
  have HT := Lib.hid takes_any
  clear ha hb
  go_enter Try.func52, Try.ntmps52
  go_wp2_with fail
  refine HP.out.mono ?_
  rintro e w1 ⟨A', c', rfl, hp, hpn, hb1⟩
  have HV := Lib.hid hp
  have HA1 := Lib.hid (HA.out.keep hb1 (Nat.le_refl _))
  have HN := Lib.hid hpn
  clear hp HP hpn
  go_wp2_with fail
  go_loopw [20] (fun i wr => ∃ k : Nat, k ≤ l.length ∧ i = .int .i64 k ∧ Below w1.heap.size w1 wr) (fun i _ => l.length - (intOf i).toNat)
  case atStart => exact ⟨0, by omega, rfl, Below.refl _ _⟩
  case round =>
    obtain ⟨k, hk, rfl, hbr⟩ := hrel
    by_cases hlt : k < l.length
    · have hkl : k < l.length := by omega
      obtain ⟨ad, rfl, q0, q1, q2, q3, q4, q5, q6⟩ := RdC.at (HA1.out.keep hbr (Nat.le_refl _)) k hkl
      obtain ⟨ad2, rfl, r0, r1, r2, r3⟩ := RdV.at (HV.out.keep hbr (Nat.le_refl _)) k (by rw [padV_len]; exact hkl)
      have hblk : (ad2.add (k * 4)).block < wr.heap.size := World.block_lt_of_cell? _ _ r0
      have hpa := padV_at l r k hkl
      rw [hpa] at r0 r1 r2 r3
      have hcall := HT.out l[k].name l[k].kind l[k].nn l[k].d.kind l[k].d.n l[k].d.f l[k].d.s (r.getD k l[k].d).kind (r.getD k l[k].d).n (r.getD k l[k].d).f (r.getD k l[k].d).s
      have h0 : takesV l[k].kind l[k].nn (r.getD k l[k].d).kind (r.getD k l[k].d).n (r.getD k l[k].d).f (r.getD k l[k].d).s = 0 := (tkAt_eq l r k hkl).symm.trans (hok k hlt)
      rw [h0] at hcall
      have hw1 : IntKind.i64.wrap ((k : Int) + 1) = (k : Int) + 1 := by rw [IntKind.wrap_i64]; omega
      clear h0 hpa
      generalize r.getD k l[k].d = y at *
      generalize l[k] = x at *
      go_wp2_with fail
      go_region_with (go_at_call 55; refine (hcall _).mono ?_; rintro e w2 ⟨rfl, h2⟩)
      all_goals
        have hb3 := (below_drewN (hbr.alloc hbr.size (.cells #[.string x.name, .int .i64 x.kind, .bool x.nn, .int .i64 x.d.kind, .int .i64 x.d.n, .float .f64 x.d.f, .string x.d.s] 53)) _).trans (h2.mono (by have := hbr.size; simp; omega))
        go_wp2_with fail
        exact ⟨⟨k + 1, by omega, by go_num, hb3⟩, by simp [intOf]; omega⟩
    · obtain rfl : k = l.length := by omega
      go_wp2_with fail
      go_ret2
      exact ⟨A', c', rfl, HV.out.keep hbr (Nat.le_refl _), HN.out, hb1.trans (hbr.mono hb1.size)⟩

set_option maxRecDepth 100000 in
theorem fill_bad (A B : Option Addr) (c d : Nat) (l : List Col) (r : List Val) (w : World) (ha : RdC w A l) (hb : RdV w B r) (hl : l.length ≤ 1000) (hr : r.length ≤ l.length) (m : Nat) (hm : m < l.length) (hok : ∀ j, j < m → tkAt l r j = 0) (E : Int) (hE : tkAt l r m = E) (hE0 : E ≠ 0) :
    Calls Try.prog 52 #[.slice A l.length c, .slice B r.length d] w fun e w' => e = .returned (.tuple #[.slice none 0 0, .int .i64 E]) ∧ Below w.heap.size w w' := by
  have ht : decide ((l.length : Int) < (r.length : Int)) = false := by rw [decide_eq_false]; omega
  have hst := run_sf
  have HA := Lib.hid ha
  have HP := Lib.hid (pad_any A B c d l r w ha hb hl)
  have HT := Lib.hid takes_any
  clear ha hb
  go_enter Try.func52, Try.ntmps52
  go_wp2_with fail
  refine HP.out.mono ?_
  rintro e w1 ⟨A', c', rfl, hp, hpn, hb1⟩
  have HV := Lib.hid hp
  have HA1 := Lib.hid (HA.out.keep hb1 (Nat.le_refl _))
  have HN := Lib.hid hpn
  clear hp HP hpn
  go_wp2_with fail
  go_loopw [20] (fun i wr => ∃ k : Nat, k ≤ m ∧ i = .int .i64 k ∧ Below w1.heap.size w1 wr) (fun i _ => l.length - (intOf i).toNat)
  case atStart => exact ⟨0, by omega, rfl, Below.refl _ _⟩
  case round =>
    obtain ⟨k, hk, rfl, hbr⟩ := hrel
    by_cases hlt : k < m
    · have hkl : k < l.length := by omega
      obtain ⟨ad, rfl, q0, q1, q2, q3, q4, q5, q6⟩ := RdC.at (HA1.out.keep hbr (Nat.le_refl _)) k hkl
      obtain ⟨ad2, rfl, r0, r1, r2, r3⟩ := RdV.at (HV.out.keep hbr (Nat.le_refl _)) k (by rw [padV_len]; exact hkl)
      have hblk : (ad2.add (k * 4)).block < wr.heap.size := World.block_lt_of_cell? _ _ r0
      have hpa := padV_at l r k hkl
      rw [hpa] at r0 r1 r2 r3
      have hcall := HT.out l[k].name l[k].kind l[k].nn l[k].d.kind l[k].d.n l[k].d.f l[k].d.s (r.getD k l[k].d).kind (r.getD k l[k].d).n (r.getD k l[k].d).f (r.getD k l[k].d).s
      have h0 : takesV l[k].kind l[k].nn (r.getD k l[k].d).kind (r.getD k l[k].d).n (r.getD k l[k].d).f (r.getD k l[k].d).s = 0 := (tkAt_eq l r k hkl).symm.trans (hok k hlt)
      rw [h0] at hcall
      have hw1 : IntKind.i64.wrap ((k : Int) + 1) = (k : Int) + 1 := by rw [IntKind.wrap_i64]; omega
      clear h0 hpa
      generalize r.getD k l[k].d = y at *
      generalize l[k] = x at *
      go_wp2_with fail
      go_region_with (go_at_call 55; refine (hcall _).mono ?_; rintro e w2 ⟨rfl, h2⟩)
      all_goals
        have hb3 := (below_drewN (hbr.alloc hbr.size (.cells #[.string x.name, .int .i64 x.kind, .bool x.nn, .int .i64 x.d.kind, .int .i64 x.d.n, .float .f64 x.d.f, .string x.d.s] 53)) _).trans (h2.mono (by have := hbr.size; simp; omega))
        go_wp2_with fail
        exact ⟨⟨k + 1, by omega, by go_num, hb3⟩, by simp [intOf]; omega⟩
    · obtain rfl : k = m := by omega
      have hkl : k < l.length := hm
      obtain ⟨ad, rfl, q0, q1, q2, q3, q4, q5, q6⟩ := RdC.at (HA1.out.keep hbr (Nat.le_refl _)) k hkl
      obtain ⟨ad2, rfl, r0, r1, r2, r3⟩ := RdV.at (HV.out.keep hbr (Nat.le_refl _)) k (by rw [padV_len]; exact hkl)
      have hblk : (ad2.add (k * 4)).block < wr.heap.size := World.block_lt_of_cell? _ _ r0
      have hpa := padV_at l r k hkl
      rw [hpa] at r0 r1 r2 r3
      have hcall := HT.out l[k].name l[k].kind l[k].nn l[k].d.kind l[k].d.n l[k].d.f l[k].d.s (r.getD k l[k].d).kind (r.getD k l[k].d).n (r.getD k l[k].d).f (r.getD k l[k].d).s
      have h0 : takesV l[k].kind l[k].nn (r.getD k l[k].d).kind (r.getD k l[k].d).n (r.getD k l[k].d).f (r.getD k l[k].d).s = E := (tkAt_eq l r k hkl).symm.trans hE
      rw [h0] at hcall
      have e1 : (E == 0) = false := by rw [beq_eq_false_iff_ne]; exact hE0
      have e2 : (E != 0) = true := by rw [bne, e1]; rfl
      clear h0 hpa hE hE0
      generalize r.getD k l[k].d = y at *
      generalize l[k] = x at *
      go_wp2_with fail
      go_region_with (go_at_call 55; refine (hcall _).mono ?_; rintro e w2 ⟨rfl, h2⟩)
      all_goals
        have hb3 := (below_drewN (hbr.alloc hbr.size (.cells #[.string x.name, .int .i64 x.kind, .bool x.nn, .int .i64 x.d.kind, .int .i64 x.d.n, .float .f64 x.d.f, .string x.d.s] 53)) _).trans (h2.mono (by have := hbr.size; simp; omega))
        go_wp2_with fail
        go_ret2
        exact ⟨rfl, hb1.trans (hb3.mono hb1.size)⟩
end Go.Proofs.Ytmgpecomgffelaa
