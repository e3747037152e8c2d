/- Contracts of package keep on values and rows. -/
import Derived.Test.YtmgpecomgffelaaVal
import Derived.Test.YtmgpecomgffelaaOpenB
namespace Go.Proofs.Ytmgpecomgffelaa
open Go.RowKit
set_option linter.unusedVariables false

def Val.cells (v : Val) : List Value := [.int .i64 v.kind, .int .i64 v.n, .float .f64 v.f, .string v.s]
/-- Rows of values in memory. -/
abbrev RdV (w : World) (A : Option Addr) (l : List Val) : Prop := RdL Val.cells 4 w A l
theorem RdV.at {w : World} {A : Option Addr} {l : List Val} (h : RdV w A l) (k : Nat) (hk : k < l.length) : ∃ ad, A = some ad ∧
    w.cell? (ad.add (k * 4)) = some (.int .i64 l[k].kind) ∧ w.cell? ⟨(ad.add (k * 4)).block, (ad.add (k * 4)).off + 1, none⟩ = some (.int .i64 l[k].n) ∧
    w.cell? ⟨(ad.add (k * 4)).block, (ad.add (k * 4)).off + 2, none⟩ = some (.float .f64 l[k].f) ∧ w.cell? ⟨(ad.add (k * 4)).block, (ad.add (k * 4)).off + 3, none⟩ = some (.string l[k].s) := by
  obtain ⟨ad, rfl⟩ := h.some k hk
  exact ⟨ad, rfl, h.cell0 k hk (by simp [Val.cells]), h.cell k hk 1 (by simp [Val.cells]) (by omega), h.cell k hk 2 (by simp [Val.cells]) (by omega), h.cell k hk 3 (by simp [Val.cells]) (by omega)⟩

theorem large_value (k n : Int) (f : Nat) (s : ByteArray) (w : World) : Calls Try.prog 23 #[vv k n f s] w fun e w' => e = .returned (.bool (decide (2000 < s.size))) ∧ Below w.heap.size w w' := by
  have hst := run_sf
  go_enter Try.func23, Try.ntmps23
  go_wp2_with fail
  go_ret
  exact ⟨by simp; omega, (Below.refl _ _).alloc (Nat.le_refl _) _⟩
theorem value_same (k n : Int) (f : Nat) (s : ByteArray) (w : World) : Calls Try.prog 29 #[vv k n f s, vv k n f s] w fun e w' => e = .returned (.bool true) ∧ Below w.heap.size w w' := by
  have hst := run_sf
  have hb := run_bits
  have e1 : (k == k) = true := beq_self_eq_true k
  have e2 : (n == n) = true := beq_self_eq_true n
  have e3 : ((f : Int) == (f : Int)) = true := beq_self_eq_true _
  go_enter Try.func29, Try.ntmps29
  go_wp2_with fail
  go_quiet (fail)
  go_wp2_with fail
  go_ret
  exact ⟨rfl, below_drewN (((Below.refl _ _).alloc (Nat.le_refl _) _).alloc (by simp) _) _⟩
def largeR (l : List Val) : Bool := decide (50 < l.length) || l.any fun v => decide (2000 < v.s.size)

set_option maxRecDepth 100000 in
theorem large_row (A : Option Addr) (c : Nat) (l : List Val) (w : World) (h : RdV w A l) : Calls Try.prog 30 #[.slice A l.length c] w fun e w' => e = .returned (.bool (largeR l)) ∧ Below w.heap.size w w' := by
  have hst := run_sf
  by_cases hlen : 50 < l.length
  · have e : largeR l = true := by unfold largeR; rw [decide_eq_true hlen]; rfl
    rw [e]
    go_enter Try.func30, Try.ntmps30
    go_wp2_with fail
    go_ret
    exact ⟨rfl, Below.refl _ _⟩
  · have H := Lib.hid h
    have HL := Lib.hid large_value
    clear h
    go_enter Try.func30, Try.ntmps30
    go_wp2_with fail
    go_loopw [3] (fun i wr => ∃ k : Nat, k ≤ l.length ∧ i = .int .i64 k ∧ (l.take k).any (fun v => decide (2000 < v.s.size)) = false ∧ Below w.heap.size w wr) (fun i _ => l.length - (intOf i).toNat)
    case atStart => exact ⟨0, by omega, rfl, rfl, Below.refl _ _⟩
    case round =>
      obtain ⟨k, hk, rfl, hany, hb⟩ := hrel
      by_cases hlt : k < l.length
      · obtain ⟨ad, rfl, q0, q1, q2, q3⟩ := RdV.at (H.out.keep hb (Nat.le_refl _)) k hlt
        have hstep : (l.take (k + 1)).any (fun v => decide (2000 < v.s.size)) = decide (2000 < l[k].s.size) := by
          rw [List.take_succ_eq_append_getElem hlt, List.any_append, hany]; simp
        have hall : 2000 < l[k].s.size → largeR l = true := fun g => by
          unfold largeR
          rw [Bool.or_eq_true, List.any_eq_true]
          exact Or.inr ⟨l[k], List.getElem_mem hlt, decide_eq_true g⟩
        have hcall := HL.out l[k].kind l[k].n l[k].f l[k].s
        generalize l[k] = x at *
        have Hany := Lib.hid hstep
        by_cases hx : 2000 < x.s.size
        · rw [decide_eq_true hx] at hcall
          have Hall := Lib.hid (hall hx)
          clear hany hstep hall hx
          go_wp2_with fail
          refine (hcall _).mono ?_
          rintro e w1 ⟨rfl, h1⟩
          go_wp2_with fail
          go_ret
          exact ⟨by rw [Hall.out]; rfl, hb.trans (h1.mono hb.size)⟩
        · rw [decide_eq_false hx] at hcall
          have Hx := Lib.hid hx
          clear hany hstep hall hx
          go_wp2_with fail
          refine (hcall _).mono ?_
          rintro e w1 ⟨rfl, h1⟩
          go_wp2_with fail
          exact ⟨⟨k + 1, by omega, by go_num, by rw [Hany.out, decide_eq_false Hx.out], hb.trans (h1.mono hb.size)⟩, by simp [intOf]; omega⟩
      · obtain rfl : k = l.length := by omega
        rw [List.take_length] at hany
        have Hany := Lib.hid hany
        clear hany
        go_wp2_with fail
        go_ret
        exact ⟨by unfold largeR; rw [Hany.out, decide_eq_false hlen]; rfl, hb⟩
end Go.Proofs.Ytmgpecomgffelaa
