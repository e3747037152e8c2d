/- Contracts of row.one, row.Good where all is good; what every law of layer 4 ends with. -/
import Derived.Test.YtmgpecomgffelaaRowD
import Derived.Test.YtmgpecomgffelaaRowE
namespace Go.Proofs.Ytmgpecomgffelaa
open Go.RowKit
set_option linter.unusedVariables false
set_option maxRecDepth 100000 in
theorem one_yes (x : Col) (w : World) (h1 : nameV x.name = true) (h2 : 1 ≤ x.kind) (h3 : x.kind ≤ 4) (h4 : goodV x.d.kind x.d.n x.d.f x.d.s = true) (h5 : x.d.kind = 0 ∨ x.d.kind = x.kind) :
    Calls Try.prog 109 #[cv x.name x.kind x.nn x.d.kind x.d.n x.d.f x.d.s] w fun e w' => e = .returned (.bool true) ∧ Below w.heap.size w w' := by
  have hst := run_sf
  have hn := name_any x.name
  have hg := good_any x.d.kind x.d.n x.d.f x.d.s
  rw [h1] at hn
  rw [h4] at hg
  have t2 : decide (1 ≤ x.kind) = true := decide_eq_true h2
  have t3 : decide (x.kind ≤ 4) = true := decide_eq_true h3
  go_enter Try.func109, Try.ntmps109
  go_wp2_with fail
  refine (hn _).mono ?_
  rintro e w1 ⟨rfl, rfl⟩
  go_wp2_with fail
  refine (hg _).mono ?_
  rintro e w1 ⟨rfl, h1⟩
  have hb := below_trans ((Below.refl w.heap.size w).alloc (Nat.le_refl _) _) h1
  have q1 : w1.cell? ⟨w.heap.size, 1, none⟩ = some (.int .i64 x.kind) := (h1.cell (p := ⟨w.heap.size, 1, none⟩) (by simp)).trans (by simp [go_sem])
  have q3 : w1.cell? ⟨w.heap.size, 3, none⟩ = some (.int .i64 x.d.kind) := (h1.cell (p := ⟨w.heap.size, 3, none⟩) (by simp)).trans (by simp [go_sem])
  clear h1
  by_cases g0 : x.d.kind = 0
  · have t0 : (x.d.kind == 0) = true := by rw [beq_iff_eq]; exact g0
    clear h5 g0
    go_wp2_with fail
    try go_quiet (fail)
    try go_wp2_with fail
    go_ret
    exact ⟨rfl, by first | exact hb | exact below_drewN hb _⟩
  · have t0 : (x.d.kind == 0) = false := by rw [beq_eq_false_iff_ne]; exact g0
    have t1 : (x.d.kind == x.kind) = true := by rw [beq_iff_eq]; omega
    clear h5 g0
    go_wp2_with fail
    try go_quiet (fail)
    try go_wp2_with fail
    go_ret
    exact ⟨rfl, by first | exact hb | exact below_drewN hb _⟩

/-- Is a column alone good? -/
def oneP (x : Col) : Prop := nameV x.name = true ∧ 1 ≤ x.kind ∧ x.kind ≤ 4 ∧ goodV x.d.kind x.d.n x.d.f x.d.s = true ∧ (x.d.kind = 0 ∨ x.d.kind = x.kind)
set_option maxRecDepth 100000 in
theorem good_yes (A : Option Addr) (c : Nat) (l : List Col) (w : World) (h : RdC w A l) (h1 : 1 ≤ l.length) (h6 : l.length ≤ 6) (hg : ∀ k (hk : k < l.length), oneP l[k] ∧ findV l[k].name l 0 = k) :
    Calls Try.prog 72 #[.slice A l.length c] w fun e w' => e = .returned (.bool true) ∧ Below w.heap.size w w' := by
  have hst := run_sf
  have t1 : decide ((l.length : Int) < 1) = false := by rw [decide_eq_false]; omega
  have t2 : decide ((6 : Int) < (l.length : Int)) = false := by rw [decide_eq_false]; omega
  have H := Lib.hid h
  have HG := Lib.hid hg
  have HO := Lib.hid one_yes
  have HF := Lib.hid find_any
  have H6 := Lib.hid h6
  clear h hg h1 h6
  go_enter Try.func72, Try.ntmps72
  go_wp2_with fail
  go_step3
  go_wp2_with fail
  try go_step3
  try go_wp2_with fail
  go_loopw [15] (fun i wr => ∃ k : Nat, k ≤ l.length ∧ i = .int .i64 k ∧ Below w.heap.size w wr) (fun i _ => l.length - (intOf i).toNat)
  case atStart => exact ⟨0, by omega, rfl, Below.refl _ _⟩
  case round =>
    obtain ⟨k, hk, rfl, hb⟩ := hrel
    have h6 := H6.out
    by_cases hkl : k < l.length
    · obtain ⟨ad, rfl, q0, q1, q2, q3, q4, q5, q6⟩ := RdC.at (H.out.keep hb (Nat.le_refl _)) k hkl
      obtain ⟨⟨g1, g2, g3, g4, g5⟩, g6⟩ := HG.out k hkl
      have hw1 : IntKind.i64.wrap ((k : Int) + 1) = (k : Int) + 1 := by rw [IntKind.wrap_i64]; omega
      have hone := fun w => HO.out l[k] w g1 g2 g3 g4 g5
      have hfind := fun w h => HF.out (some ad) c l l[k].name w h (by omega)
      rw [g6] at hfind
      have Hb := Lib.hid (H.out.keep hb (Nat.le_refl _))
      clear g1 g2 g3 g4 g5 g6
      generalize l[k] = x at *
      go_wp2_with fail
      refine (hone _).mono ?_
      rintro e w1 ⟨rfl, h1⟩
      have p0 : w1.cell? ⟨wr.heap.size, 0, none⟩ = some (.string x.name) := (h1.cell (p := ⟨wr.heap.size, 0, none⟩) (by simp)).trans (by simp [go_sem])
      have hb1 : Below wr.heap.size wr w1 := below_trans ((Below.refl _ _).alloc (Nat.le_refl _) _) h1
      have hrd1 := Hb.out.keep hb1 (Nat.le_refl _)
      have hself : ((k : Int) == (k : Int)) = true := beq_self_eq_true _
      clear h1
      go_wp2_with fail
      refine (hfind _ hrd1).mono ?_
      rintro e w2 ⟨rfl, h2⟩
      have hb2 := hb.trans ((below_trans hb1 h2).mono hb.size)
      go_wp2_with fail
      exact ⟨⟨k + 1, by omega, by go_num, hb2⟩, by simp [intOf]; omega⟩
    · obtain rfl : k = l.length := by omega
      go_wp2_with fail
      rw [Exit.noGoto_ret]
      go_ret
      exact ⟨rfl, hb⟩
end Go.Proofs.Ytmgpecomgffelaa
