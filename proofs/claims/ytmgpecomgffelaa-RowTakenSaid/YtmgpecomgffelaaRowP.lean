/- Contracts: row.Good, liveryref04.Good. -/
import Derived.Test.YtmgpecomgffelaaRowO
import Derived.Test.YtmgpecomgffelaaRowF
import Derived.Deep.DeepCutAuto
namespace Go.Proofs.Ytmgpecomgffelaa
open Go.RowKit
set_option linter.unusedVariables false
def goodAt (l : List Col) (k : Nat) : Bool := if h : k < l.length then oneV l[k] && (findV l[k].name l 0 == (k : Int)) else true
def goodTo (l : List Col) (n : Nat) : Bool := (List.range n).all (goodAt l)
def goodC (l : List Col) : Bool := decide (1 ≤ l.length) && decide (l.length ≤ 6) && goodTo l l.length
theorem goodTo_succ (l : List Col) (k : Nat) : goodTo l (k + 1) = (goodTo l k && goodAt l k) := by
  unfold goodTo
  rw [List.range_succ, List.all_append]
  simp
theorem goodTo_mono (l : List Col) (k n : Nat) (h : k ≤ n) (hk : goodTo l k = false) : goodTo l n = false := by
  unfold goodTo at *
  rw [List.all_eq_false] at *
  obtain ⟨x, hx, h2⟩ := hk
  exact ⟨x, by simp at *; omega, h2⟩
theorem goodAt_eq (l : List Col) (k : Nat) (h : k < l.length) : goodAt l k = (oneV l[k] && (findV l[k].name l 0 == (k : Int))) := by unfold goodAt; rw [dif_pos h]
set_option maxRecDepth 100000 in
theorem good_short (A : Option Addr) (c : Nat) (l : List Col) (w : World) (h : l.length < 1 ∨ 6 < l.length) :
    Calls Try.prog 72 #[.slice A l.length c] w fun e w' => e = .returned (.bool (goodC l)) ∧ Below w.heap.size w w' := by
  have e : goodC l = false := by
    unfold goodC
    rcases h with h | h
    · rw [decide_eq_false (show ¬ 1 ≤ l.length by omega)]; rfl
    · rw [decide_eq_false (show ¬ l.length ≤ 6 by omega), Bool.and_false]; rfl
  rw [e]
  rcases h with h | h
  · have t1 : decide ((l.length : Int) < 1) = true := by rw [decide_eq_true]; omega
    clear e
    go_enter Try.func72, Try.ntmps72
    go_wp2_with fail
    try (go_step3; go_wp2_with fail)
    try rw [Exit.noGoto_ret]
    go_ret
    exact ⟨rfl, Below.refl _ _⟩
  · have t1 : decide ((l.length : Int) < 1) = false := by rw [decide_eq_false]; omega
    have t2 : decide ((6 : Int) < (l.length : Int)) = true := by rw [decide_eq_true]; omega
    clear e
    go_enter Try.func72, Try.ntmps72
    go_wp2_with fail
    try (go_step3; go_wp2_with fail)
    try rw [Exit.noGoto_ret]
    go_ret
    exact ⟨rfl, Below.refl _ _⟩
set_option maxRecDepth 100000 in
set_option maxHeartbeats 1000000 in
theorem goodc_any (A : Option Addr) (c : Nat) (l : List Col) (w : World) (h : RdC w A l) :
    Calls Try.prog 72 #[.slice A l.length c] w fun e w' => e = .returned (.bool (goodC l)) ∧ Below w.heap.size w w' := by
  by_cases hs : l.length < 1 ∨ 6 < l.length
  · exact good_short A c l w hs
  have e : goodC l = goodTo l l.length := by
    unfold goodC
    rw [decide_eq_true (show 1 ≤ l.length by omega), decide_eq_true (show l.length ≤ 6 by omega)]; rfl
  rw [e]
  have hst := run_sf
  have t1 : decide ((l.length : Int) < 1) = false := by rw [decide_eq_false]; omega
  have t2 : decide ((6 : Int) < (l.length : Int)) = false := by rw [decide_eq_false]; omega
  have H := Lib.hid h
  have HO := Lib.hid one_any
  have HF := Lib.hid find_any
  have H6 := Lib.hid (show l.length ≤ 6 by omega)
  clear h hs e
  go_enter Try.func72, Try.ntmps72
  go_wp2_with fail
  go_step3
  go_wp2_with fail
  try go_step3
  try go_wp2_with fail
  go_loopw [15] (fun i wr => ∃ k : Nat, k ≤ l.length ∧ i = .int .i64 k ∧ goodTo l k = true ∧ Below w.heap.size w wr) (fun i _ => l.length - (intOf i).toNat)
  case atStart => exact ⟨0, by omega, rfl, rfl, Below.refl _ _⟩
  case round =>
    obtain ⟨k, hk, rfl, hto, hb⟩ := hrel
    have h6 := H6.out
    by_cases hkl : k < l.length
    · obtain ⟨ad, rfl, q0, q1, q2, q3, q4, q5, q6⟩ := RdC.at (H.out.keep hb (Nat.le_refl _)) k hkl
      have hw1 : IntKind.i64.wrap ((k : Int) + 1) = (k : Int) + 1 := by rw [IntKind.wrap_i64]; omega
      have hone := fun w => HO.out l[k] w
      have hfind := fun w h => HF.out (some ad) c l l[k].name w h (by omega)
      have Hb := Lib.hid (H.out.keep hb (Nat.le_refl _))
      have Hs : Hid (goodTo l (k + 1) = (oneV l[k] && (findV l[k].name l 0 == (k : Int)))) := Lib.hid (by rw [goodTo_succ, hto, Bool.true_and, goodAt_eq l k hkl])
      have Hm : Hid (goodTo l (k + 1) = false → goodTo l l.length = false) := Lib.hid (goodTo_mono l (k + 1) _ (by omega))
      clear hto
      generalize findV l[k].name l 0 = z at *
      generalize oneV l[k] = a at *
      generalize l[k] = x at *
      cases a with
      | false =>
        go_wp2_with fail
        refine (hone _).mono ?_
        rintro e w1 ⟨rfl, h1⟩
        have hb1 : Below wr.heap.size wr w1 := below_trans ((Below.refl _ _).alloc (Nat.le_refl _) _) h1
        clear h1
        go_wp2_with fail
        rw [Exit.noGoto_ret]
        go_ret
        exact ⟨by rw [Hm.out (by rw [Hs.out]; rfl)]; rfl, hb.trans (hb1.mono hb.size)⟩
      | true =>
        by_cases hz : z = (k : Int)
        · have hself : (z == (k : Int)) = true := by rw [beq_iff_eq]; exact hz
          have Hs2 := Lib.hid (Hs.out.trans (by rw [hself]; first | done | rfl))
          clear hz Hs
          go_wp2_with fail
          refine (hone _).mono ?_
          rintro e w1 ⟨rfl, h1⟩
          have p0 : w1.cell? ⟨wr.heap.size, 0, none⟩ = some (.string x.name) := (h1.cell (p := ⟨wr.heap.size, 0, none⟩) (by simp)).trans (by simp [go_sem])
          have hb1 : Below wr.heap.size wr w1 := below_trans ((Below.refl _ _).alloc (Nat.le_refl _) _) h1
          have hrd1 := Hb.out.keep hb1 (Nat.le_refl _)
          clear h1
          go_wp2_with fail
          refine (hfind _ hrd1).mono ?_
          rintro e w2 ⟨rfl, h2⟩
          have hb2 := hb.trans ((below_trans hb1 h2).mono hb.size)
          go_wp2_with fail
          exact ⟨⟨k + 1, by omega, by go_num, Hs2.out, hb2⟩, by simp [intOf]; omega⟩
        · have hself : (z == (k : Int)) = false := by rw [beq_eq_false_iff_ne]; exact hz
          have Hs2 := Lib.hid (Hs.out.trans (by rw [hself]; first | done | rfl))
          clear hz Hs
          go_wp2_with fail
          refine (hone _).mono ?_
          rintro e w1 ⟨rfl, h1⟩
          have p0 : w1.cell? ⟨wr.heap.size, 0, none⟩ = some (.string x.name) := (h1.cell (p := ⟨wr.heap.size, 0, none⟩) (by simp)).trans (by simp [go_sem])
          have hb1 : Below wr.heap.size wr w1 := below_trans ((Below.refl _ _).alloc (Nat.le_refl _) _) h1
          have hrd1 := Hb.out.keep hb1 (Nat.le_refl _)
          clear h1
          go_wp2_with fail
          refine (hfind _ hrd1).mono ?_
          rintro e w2 ⟨rfl, h2⟩
          have hb2 := hb.trans ((below_trans hb1 h2).mono hb.size)
          go_wp2_with fail
          rw [Exit.noGoto_ret]
          go_ret
          exact ⟨by rw [Hm.out Hs2.out]; rfl, hb2⟩
    · obtain rfl : k = l.length := by omega
      have Hto := Lib.hid hto
      clear hto
      go_wp2_with fail
      rw [Exit.noGoto_ret]
      go_ret
      exact ⟨by rw [Hto.out]; rfl, hb⟩
set_option maxRecDepth 100000 in
theorem rgoodc_short (A : Option Addr) (c : Nat) (l : List Col) (w : World) (h : l.length < 1 ∨ 6 < l.length) :
    Calls Try.prog 57 #[.slice A l.length c] w fun e w' => e = .returned (.bool (goodC l)) ∧ Below w.heap.size w w' := by
  have e : goodC l = false := by
    unfold goodC
    rcases h with h | h
    · rw [decide_eq_false (show ¬ 1 ≤ l.length by omega)]; rfl
    · rw [decide_eq_false (show ¬ l.length ≤ 6 by omega), Bool.and_false]; rfl
  rw [e]
  rcases h with h | h
  · have t1 : decide ((l.length : Int) < 1) = true := by rw [decide_eq_true]; omega
    clear e
    go_enter Try.func57, Try.ntmps57
    go_wp2_with fail
    try (go_step3; go_wp2_with fail)
    try rw [Exit.noGoto_ret]
    go_ret
    exact ⟨rfl, Below.refl _ _⟩
  · have t1 : decide ((l.length : Int) < 1) = false := by rw [decide_eq_false]; omega
    have t2 : decide ((6 : Int) < (l.length : Int)) = true := by rw [decide_eq_true]; omega
    clear e
    go_enter Try.func57, Try.ntmps57
    go_wp2_with fail
    try (go_step3; go_wp2_with fail)
    try rw [Exit.noGoto_ret]
    go_ret
    exact ⟨rfl, Below.refl _ _⟩
set_option maxRecDepth 100000 in
set_option maxHeartbeats 4000000 in
theorem rgoodc_any (A : Option Addr) (c : Nat) (l : List Col) (w : World) (h : RdC w A l) :
    Calls Try.prog 57 #[.slice A l.length c] w fun e w' => e = .returned (.bool (goodC l)) ∧ Below w.heap.size w w' := by
  by_cases hs : l.length < 1 ∨ 6 < l.length
  · exact rgoodc_short A c l w hs
  have e : goodC l = goodTo l l.length := by
    unfold goodC
    rw [decide_eq_true (show 1 ≤ l.length by omega), decide_eq_true (show l.length ≤ 6 by omega)]; rfl
  rw [e]
  have hst := run_sf
  have t1 : decide ((l.length : Int) < 1) = false := by rw [decide_eq_false]; omega
  have t2 : decide ((6 : Int) < (l.length : Int)) = false := by rw [decide_eq_false]; omega
  have H := Lib.hid h
  have HN := Lib.hid rname_any
  have HG := Lib.hid rgood_any
  have HF := Lib.hid rfind_any
  have H6 := Lib.hid (show l.length ≤ 6 by omega)
  clear h hs e
  go_enter Try.func57, Try.ntmps57
  go_wp2_with fail
  go_loopw [3] (fun i wr => ∃ k : Nat, k ≤ l.length ∧ i = .int .i64 k ∧ goodTo l k = true ∧ Below w.heap.size w wr) (fun i _ => l.length - (intOf i).toNat)
  case atStart => exact ⟨0, by omega, rfl, rfl, Below.refl _ _⟩
  case round =>
    obtain ⟨k, hk, rfl, hto, hb⟩ := hrel
    have h6 := H6.out
    by_cases hkl : k < l.length
    · obtain ⟨ad, rfl, q0, q1, q2, q3, q4, q5, q6⟩ := RdC.at (H.out.keep hb (Nat.le_refl _)) k hkl
      have hw1 : IntKind.i64.wrap ((k : Int) + 1) = (k : Int) + 1 := by rw [IntKind.wrap_i64]; omega
      have hname := fun w => HN.out l[k].name w
      have hgood := fun w => HG.out l[k].d.kind l[k].d.n l[k].d.f l[k].d.s w
      have hfind := fun w h => HF.out (some ad) c l l[k].name w h (by omega)
      have Hb := Lib.hid (H.out.keep hb (Nat.le_refl _))
      have Hs : Hid (goodTo l (k + 1) = (oneV l[k] && (findV l[k].name l 0 == (k : Int)))) := Lib.hid (by rw [goodTo_succ, hto, Bool.true_and, goodAt_eq l k hkl])
      have Hm : Hid (goodTo l (k + 1) = false → goodTo l l.length = false) := Lib.hid (goodTo_mono l (k + 1) _ (by omega))
      have hov : oneV l[k] = (nameV l[k].name && (decide (1 ≤ l[k].kind) && (decide (l[k].kind ≤ 4) && (goodV l[k].d.kind l[k].d.n l[k].d.f l[k].d.s && (l[k].d.kind == 0 || l[k].d.kind == l[k].kind))))) := rfl
      rw [hov] at Hs
      clear hto hov
      generalize findV l[k].name l 0 = z at *
      generalize nameV l[k].name = a at *
      generalize goodV l[k].d.kind l[k].d.n l[k].d.f l[k].d.s = b at *
      generalize l[k] = x at *
      by_cases hz : z = (k : Int)
      · have hself : (z == (k : Int)) = true := by rw [beq_iff_eq]; exact hz
        have hself2 : (z != (k : Int)) = false := by rw [bne, hself]; rfl
        rw [hself, Bool.and_true] at Hs
        clear hz
        go_wp2_with (first
          | (go_at_call 104; refine (hname _).mono ?_; rintro e w1 ⟨rfl, rfl⟩)
          | (go_at_call 74; refine (hfind _ (Hb.out.keep ((Below.refl _ _).alloc (Nat.le_refl _) _) (Nat.le_refl _))).mono ?_; rintro e w2 ⟨rfl, rfl⟩)
          | (go_at_call 58; refine (hgood _).mono ?_; rintro e w3 ⟨rfl, h3⟩
             have p1 : w3.cell? ⟨wr.heap.size, 1, none⟩ = some (.int .i64 x.kind) := (h3.cell (p := ⟨wr.heap.size, 1, none⟩) (by simp)).trans (by simp [go_sem])
             have p3 : w3.cell? ⟨wr.heap.size, 3, none⟩ = some (.int .i64 x.d.kind) := (h3.cell (p := ⟨wr.heap.size, 3, none⟩) (by simp)).trans (by simp [go_sem])
             have hb3 := hb.trans ((below_trans ((Below.refl _ _).alloc (Nat.le_refl _) _) h3).mono hb.size)
             clear h3))
        all_goals
          first
            | (refine ⟨⟨k + 1, by omega, by go_num, ?_, hb3⟩, by simp [intOf]; omega⟩
               rw [Hs.out]
               simp_all; done)
            | (go_ret
               refine ⟨?_, by first | exact hb3 | exact hb.alloc hb.size _⟩
               rw [Hm.out (by rw [Hs.out]; first | (simp_all; done) | (simp_all; omega))]
               rfl)
      · have hself : (z == (k : Int)) = false := by rw [beq_eq_false_iff_ne]; exact hz
        have hself2 : (z != (k : Int)) = true := by rw [bne, hself]; rfl
        rw [hself, Bool.and_false] at Hs
        clear hz
        go_wp2_with (first
          | (go_at_call 104; refine (hname _).mono ?_; rintro e w1 ⟨rfl, rfl⟩)
          | (go_at_call 74; refine (hfind _ (Hb.out.keep ((Below.refl _ _).alloc (Nat.le_refl _) _) (Nat.le_refl _))).mono ?_; rintro e w2 ⟨rfl, rfl⟩))
        all_goals
          go_ret
          exact ⟨by rw [Hm.out Hs.out]; rfl, by first | exact hb | exact hb.alloc hb.size _⟩
    · obtain rfl : k = l.length := by omega
      have Hto := Lib.hid hto
      clear hto
      go_wp2_with fail
      go_ret
      exact ⟨by rw [Hto.out]; rfl, hb⟩
end Go.Proofs.Ytmgpecomgffelaa
