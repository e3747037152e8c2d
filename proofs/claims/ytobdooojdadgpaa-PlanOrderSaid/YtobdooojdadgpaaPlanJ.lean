/- Contract: liveryref20.Of, where rows are found. -/
import Derived.Test.YtobdooojdadgpaaPlanI
namespace Go.Proofs.Ytobdooojdadgpaa
open Go.RowKit
set_option linter.unusedVariables false
set_option maxRecDepth 100000 in
set_option maxHeartbeats 2000000 in
theorem rof_loop5 (s : Stm) (C : Option Addr) (c : Nat) (cols : List Col) (A : Option Addr) (a : Nat) (l : List Idx) (w : World) (hc : RdC w C cols) (ha : RdI w A l) (hnA : A = none → a = 0) (hcl : cols.length ≤ 1000) (hal : l.length ≤ 1000) (hk : s.kind = 5) (hz : ¬ findV s.col cols 0 < 0) (hy : ¬ findV s.set cols 0 < 0) :
    Calls Try.prog 33 #[sv s, .slice C cols.length c, .slice A l.length a] w fun e w' => e = .returned (.tuple #[.agg #[.int .i64 (pmW s.kind (keepL s.col l)), .string (pmI (keepL s.col l))], .int .i64 0]) ∧ Below w.heap.size w w' := by
  have hst := run_sf
  have hm := OfMem.start w s 53
  have b0 : Below w.heap.size w ((w.alloc (.cells s.a 45)).alloc (.cells #[.int .i64 0, .string ⟨#[]⟩] 53)) := ((Below.refl _ _).alloc (Nat.le_refl _) _).alloc (by simp) _
  have HM := Lib.hid hm
  have HC0 := Lib.hid (hc.keep b0 (Nat.le_refl _))
  have HA0 := Lib.hid (ha.keep b0 (Nat.le_refl _))
  have HNA := Lib.hid hnA
  have HL := Lib.hid ha
  have t9 : (s.kind == 9) = false := by rw [beq_eq_false_iff_ne]; omega
  have t5 : (s.kind == 5) = true := by rw [beq_iff_eq]; omega
  have t7 : (s.kind == 7) = false := by rw [beq_eq_false_iff_ne]; omega
  have t6 : (s.kind == 6) = false := by rw [beq_eq_false_iff_ne]; omega
  have t8 : (s.kind == 8) = false := by rw [beq_eq_false_iff_ne]; omega
  clear hk
  have hfz := fun w h => rfind_any C c cols s.col w h hcl
  generalize findV s.col cols 0 = z at *
  have tz : decide (z < 0) = false := decide_eq_false (by omega)
  clear hz
  have hfy := fun w h => rfind_any C c cols s.set w h hcl
  generalize findV s.set cols 0 = y at *
  have ty : decide (y < 0) = false := decide_eq_false (by omega)
  clear hy
  clear hc ha hnA hm
  go_enter Try.func33, Try.ntmps33
  go_wp2_with fail
  refine (hfz _ HC0.out).mono ?_
  rintro e w1 ⟨rfl, rfl⟩
  go_wp2_with fail
  refine (hfy _ HC0.out).mono ?_
  rintro e w1 ⟨rfl, rfl⟩
  go_wp2_with fail
  obtain ⟨wb, hwb⟩ : ∃ wb : World, wb = (w.alloc (.cells s.a 45)).alloc (.cells #[.int .i64 0, .string ⟨#[]⟩] 53) := ⟨_, rfl⟩
  have hs2 : wb.heap.size = w.heap.size + 2 := by rw [hwb]; simp
  have hm1 : OfMem (wb.alloc (.cells #[.int .i64 1, .string ⟨#[]⟩] 53)) w.heap.size s.kind s.col s.set := by rw [hwb]; exact HM.out.keep ((Below.refl _ _).alloc (Nat.le_refl _) _)
  have hp1 : RdP (wb.alloc (.cells #[.int .i64 1, .string ⟨#[]⟩] 53)) (w.heap.size + 2) 1 ⟨#[]⟩ := by rw [← hs2]; exact RdP.start wb 53 1 _
  have hb1 : Below w.heap.size w (wb.alloc (.cells #[.int .i64 1, .string ⟨#[]⟩] 53)) := by
    rw [hwb]
    exact b0.alloc b0.size _
  rw [hwb] at hm1 hp1 hb1
  clear hwb hs2 wb
  have H2 : Hid ((if s.kind = 8 then (3 : Int) else 2) = 2) := Lib.hid (by first | rw [if_pos (by simpa using t8)] | rw [if_neg (by simpa using t8)])
  go_loopw [9] (fun i wr => ∃ k : Nat, k ≤ l.length ∧ i = .int .i64 k ∧ OfMem wr w.heap.size s.kind s.col s.set ∧ RdP wr (w.heap.size + 2) (pmW s.kind (keepL s.col (l.take k))) (pmI (keepL s.col (l.take k))) ∧ Below w.heap.size w wr) (fun i _ => l.length - (intOf i).toNat)
  case atStart => exact ⟨0, by omega, rfl, hm1, hp1, hb1⟩
  case round =>
    clear hm1 hp1 hb1
    obtain ⟨k, hkl, rfl, hom, hrp, hb⟩ := hrel
    have hlt1 := hom.lt
    have hltM : w.heap.size + 2 < wr.heap.size := World.block_lt_of_cell? _ _ hrp.1
    by_cases hlt : k < l.length
    · obtain ⟨ad, rfl, q0, q1, q2, q3⟩ := RdI.at (HL.out.keep hb (Nat.le_refl _)) k hlt
      have hstep := keepL_snoc s.col l k hlt
      have hw1 : IntKind.i64.wrap ((k : Int) + 1) = (k : Int) + 1 := by rw [IntKind.wrap_i64]; omega
      have hdv : delV s.col l[k] = (!(sq l[k].col s.col) || !(l[k].st == 3)) := rfl
      generalize l[k] = x at *
      have HOM := Lib.hid hom
      have HRP := Lib.hid hrp
      obtain ⟨m1, m2, m3, m4, m5, m6, m7⟩ := HOM.out
      cases hd : delV s.col x with
      | true =>
        rw [hd, if_pos rfl, List.append_nil] at hstep
        have Hst := Lib.hid hstep
        cases hc1 : sq x.col s.col with
        | false =>
          clear hd hdv hstep hom hrp
          go_wp2_with fail
          go_quiet (fail)
          go_wp2_with fail
          exact ⟨⟨k + 1, by omega, by go_num, HOM.out.drewN _, by rw [Hst.out]; exact HRP.out.drewN _, below_drewN hb _⟩, by simp [intOf]; omega⟩
        | true =>
          have hst3 : (x.st == 3) = false := by
            rw [hdv, hc1] at hd
            simpa using hd
          clear hd hdv hstep hom hrp
          go_wp2_with fail
          go_quiet (fail)
          go_wp2_with fail
          exact ⟨⟨k + 1, by omega, by go_num, HOM.out.drewN _, by rw [Hst.out]; exact HRP.out.drewN _, below_drewN hb _⟩, by simp [intOf]; omega⟩
      | false =>
        rw [hd, if_neg (by simp)] at hstep
        have hc1 : sq x.col s.col = true := by
          rw [hdv] at hd
          cases hq : sq x.col s.col with
          | true => rfl
          | false => rw [hq] at hd; simp at hd
        have hst3 : (x.st == 3) = true := by
          rw [hdv, hc1] at hd
          simpa using hd
        clear hd hdv
        have Hst := Lib.hid hstep
        clear hstep
        cases hm0 : keepL s.col (l.take k) with
        | nil =>
          have hpr : RdP wr (w.heap.size + 2) 1 ⟨#[]⟩ := by have := HRP.out; rw [hm0] at this; exact this
          have HM0 := Lib.hid hm0
          have HPR := Lib.hid hpr
          clear hom hrp hm0 hpr HRP
          obtain ⟨p0, p1, p2, p3⟩ := HPR.out
          go_wp2_with fail
          go_quiet (fail)
          go_wp2_with fail
          refine ⟨⟨k + 1, by omega, by go_num, ((HOM.out.set ⟨w.heap.size + 2, 0, none⟩ (by show w.heap.size + 1 < w.heap.size + 2; omega) (.int .i64 2)).set ⟨w.heap.size + 2, 1, none⟩ (by show w.heap.size + 1 < w.heap.size + 2; omega) (.string x.name)).drewN _, ?_, below_drewN ((hb.setCell (p := ⟨w.heap.size + 2, 0, none⟩) (by show w.heap.size ≤ w.heap.size + 2; omega) (.int .i64 2)).setCell (p := ⟨w.heap.size + 2, 1, none⟩) (by show w.heap.size ≤ w.heap.size + 2; omega) (.string x.name)) _⟩, by simp [intOf]; omega⟩
          rw [Hst.out, HM0.out, pmW_snoc, pmI_nil, H2.out]
          exact ((HPR.out.set 2 x.name)).drewN _
        | cons x0 l' =>
          have hpw : pmW s.kind (x0 :: l') = 2 := by unfold pmW; first | rw [if_pos (by simpa using t8)] | rw [if_neg (by simpa using t8)]
          have hpr : RdP wr (w.heap.size + 2) 2 (pmI (x0 :: l')) := by have := HRP.out; rw [hm0, hpw] at this; exact this
          have HM0 := Lib.hid hm0
          have HPR := Lib.hid hpr
          have HPW := Lib.hid hpw
          cases hlt2 : ltS x.name (pmI (x0 :: l')) with
          | true =>
            have Hlt2 := Lib.hid hlt2
            generalize hpi : pmI (x0 :: l') = pi at *
            have HPI := Lib.hid hpi
            clear hom hrp hm0 hpr HRP hpw hpi
            obtain ⟨p0, p1, p2, p3⟩ := HPR.out
            go_wp2_with fail
            go_quiet (fail)
            go_wp2_with fail
            refine ⟨⟨k + 1, by omega, by go_num, ((HOM.out.set ⟨w.heap.size + 2, 0, none⟩ (by show w.heap.size + 1 < w.heap.size + 2; omega) (.int .i64 2)).set ⟨w.heap.size + 2, 1, none⟩ (by show w.heap.size + 1 < w.heap.size + 2; omega) (.string x.name)).drewN _, ?_, below_drewN ((hb.setCell (p := ⟨w.heap.size + 2, 0, none⟩) (by show w.heap.size ≤ w.heap.size + 2; omega) (.int .i64 2)).setCell (p := ⟨w.heap.size + 2, 1, none⟩) (by show w.heap.size ≤ w.heap.size + 2; omega) (.string x.name)) _⟩, by simp [intOf]; omega⟩
            rw [Hst.out, HM0.out, pmW_snoc, pmI_snoc, HPI.out, Hlt2.out, H2.out]
            exact ((HPR.out.set 2 x.name)).drewN _
          | false =>
            have Hlt2 := Lib.hid hlt2
            generalize hpi : pmI (x0 :: l') = pi at *
            have HPI := Lib.hid hpi
            clear hom hrp hm0 hpr HRP hpw hpi
            obtain ⟨p0, p1, p2, p3⟩ := HPR.out
            go_wp2_with fail
            go_quiet (fail)
            go_wp2_with fail
            exact ⟨⟨k + 1, by omega, by go_num, HOM.out.drewN _, by rw [Hst.out, HM0.out, pmW_snoc, pmI_snoc, HPI.out, Hlt2.out, H2.out]; exact HPR.out.drewN _, below_drewN hb _⟩, by simp [intOf]; omega⟩
    · obtain rfl : k = l.length := by omega
      rw [List.take_length] at hrp
      have HOM := Lib.hid hom
      have HRP := Lib.hid hrp
      obtain ⟨m1, m2, m3, m4, m5, m6, m7⟩ := HOM.out
      obtain ⟨p0, p1, p2, p3⟩ := HRP.out
      have HB := Lib.hid hb
      clear hom hrp hb
      go_wp2_with fail
      refine bodyPost_ret (v := .tuple #[.agg #[.int .i64 (pmW s.kind (keepL s.col l)), .string (pmI (keepL s.col l))], .int .i64 0]) (by simp [results, Try.results33, go_sem, m4, m5]) rfl ⟨rfl, (HB.out.setCell (p := ⟨w.heap.size + 1, 0, none⟩) (by show w.heap.size ≤ w.heap.size + 1; omega) _).setCell (p := ⟨w.heap.size + 1, 1, none⟩) (by show w.heap.size ≤ w.heap.size + 1; omega) _⟩
set_option maxRecDepth 100000 in
set_option maxHeartbeats 2000000 in
theorem rof_loop7 (s : Stm) (C : Option Addr) (c : Nat) (cols : List Col) (A : Option Addr) (a : Nat) (l : List Idx) (w : World) (hc : RdC w C cols) (ha : RdI w A l) (hnA : A = none → a = 0) (hcl : cols.length ≤ 1000) (hal : l.length ≤ 1000) (hk : s.kind = 7) (hz : ¬ findV s.col cols 0 < 0) :
    Calls Try.prog 33 #[sv s, .slice C cols.length c, .slice A l.length a] w fun e w' => e = .returned (.tuple #[.agg #[.int .i64 (pmW s.kind (keepL s.col l)), .string (pmI (keepL s.col l))], .int .i64 0]) ∧ Below w.heap.size w w' := by
  have hst := run_sf
  have hm := OfMem.start w s 53
  have b0 : Below w.heap.size w ((w.alloc (.cells s.a 45)).alloc (.cells #[.int .i64 0, .string ⟨#[]⟩] 53)) := ((Below.refl _ _).alloc (Nat.le_refl _) _).alloc (by simp) _
  have HM := Lib.hid hm
  have HC0 := Lib.hid (hc.keep b0 (Nat.le_refl _))
  have HA0 := Lib.hid (ha.keep b0 (Nat.le_refl _))
  have HNA := Lib.hid hnA
  have HL := Lib.hid ha
  have t9 : (s.kind == 9) = false := by rw [beq_eq_false_iff_ne]; omega
  have t5 : (s.kind == 5) = false := by rw [beq_eq_false_iff_ne]; omega
  have t7 : (s.kind == 7) = true := by rw [beq_iff_eq]; omega
  have t6 : (s.kind == 6) = false := by rw [beq_eq_false_iff_ne]; omega
  have t8 : (s.kind == 8) = false := by rw [beq_eq_false_iff_ne]; omega
  clear hk
  have hfz := fun w h => rfind_any C c cols s.col w h hcl
  generalize findV s.col cols 0 = z at *
  have tz : decide (z < 0) = false := decide_eq_false (by omega)
  clear hz
  clear hc ha hnA hm
  go_enter Try.func33, Try.ntmps33
  go_wp2_with fail
  refine (hfz _ HC0.out).mono ?_
  rintro e w1 ⟨rfl, rfl⟩
  go_wp2_with fail
  obtain ⟨wb, hwb⟩ : ∃ wb : World, wb = (w.alloc (.cells s.a 45)).alloc (.cells #[.int .i64 0, .string ⟨#[]⟩] 53) := ⟨_, rfl⟩
  have hs2 : wb.heap.size = w.heap.size + 2 := by rw [hwb]; simp
  have hm1 : OfMem (wb.alloc (.cells #[.int .i64 1, .string ⟨#[]⟩] 53)) w.heap.size s.kind s.col s.set := by rw [hwb]; exact HM.out.keep ((Below.refl _ _).alloc (Nat.le_refl _) _)
  have hp1 : RdP (wb.alloc (.cells #[.int .i64 1, .string ⟨#[]⟩] 53)) (w.heap.size + 2) 1 ⟨#[]⟩ := by rw [← hs2]; exact RdP.start wb 53 1 _
  have hb1 : Below w.heap.size w (wb.alloc (.cells #[.int .i64 1, .string ⟨#[]⟩] 53)) := by
    rw [hwb]
    exact b0.alloc b0.size _
  rw [hwb] at hm1 hp1 hb1
  clear hwb hs2 wb
  have H2 : Hid ((if s.kind = 8 then (3 : Int) else 2) = 2) := Lib.hid (by first | rw [if_pos (by simpa using t8)] | rw [if_neg (by simpa using t8)])
  go_loopw [9] (fun i wr => ∃ k : Nat, k ≤ l.length ∧ i = .int .i64 k ∧ OfMem wr w.heap.size s.kind s.col s.set ∧ RdP wr (w.heap.size + 2) (pmW s.kind (keepL s.col (l.take k))) (pmI (keepL s.col (l.take k))) ∧ Below w.heap.size w wr) (fun i _ => l.length - (intOf i).toNat)
  case atStart => exact ⟨0, by omega, rfl, hm1, hp1, hb1⟩
  case round =>
    clear hm1 hp1 hb1
    obtain ⟨k, hkl, rfl, hom, hrp, hb⟩ := hrel
    have hlt1 := hom.lt
    have hltM : w.heap.size + 2 < wr.heap.size := World.block_lt_of_cell? _ _ hrp.1
    by_cases hlt : k < l.length
    · obtain ⟨ad, rfl, q0, q1, q2, q3⟩ := RdI.at (HL.out.keep hb (Nat.le_refl _)) k hlt
      have hstep := keepL_snoc s.col l k hlt
      have hw1 : IntKind.i64.wrap ((k : Int) + 1) = (k : Int) + 1 := by rw [IntKind.wrap_i64]; omega
      have hdv : delV s.col l[k] = (!(sq l[k].col s.col) || !(l[k].st == 3)) := rfl
      generalize l[k] = x at *
      have HOM := Lib.hid hom
      have HRP := Lib.hid hrp
      obtain ⟨m1, m2, m3, m4, m5, m6, m7⟩ := HOM.out
      cases hd : delV s.col x with
      | true =>
        rw [hd, if_pos rfl, List.append_nil] at hstep
        have Hst := Lib.hid hstep
        cases hc1 : sq x.col s.col with
        | false =>
          clear hd hdv hstep hom hrp
          go_wp2_with fail
          go_quiet (fail)
          go_wp2_with fail
          exact ⟨⟨k + 1, by omega, by go_num, HOM.out.drewN _, by rw [Hst.out]; exact HRP.out.drewN _, below_drewN hb _⟩, by simp [intOf]; omega⟩
        | true =>
          have hst3 : (x.st == 3) = false := by
            rw [hdv, hc1] at hd
            simpa using hd
          clear hd hdv hstep hom hrp
          go_wp2_with fail
          go_quiet (fail)
          go_wp2_with fail
          exact ⟨⟨k + 1, by omega, by go_num, HOM.out.drewN _, by rw [Hst.out]; exact HRP.out.drewN _, below_drewN hb _⟩, by simp [intOf]; omega⟩
      | false =>
        rw [hd, if_neg (by simp)] at hstep
        have hc1 : sq x.col s.col = true := by
          rw [hdv] at hd
          cases hq : sq x.col s.col with
          | true => rfl
          | false => rw [hq] at hd; simp at hd
        have hst3 : (x.st == 3) = true := by
          rw [hdv, hc1] at hd
          simpa using hd
        clear hd hdv
        have Hst := Lib.hid hstep
        clear hstep
        cases hm0 : keepL s.col (l.take k) with
        | nil =>
          have hpr : RdP wr (w.heap.size + 2) 1 ⟨#[]⟩ := by have := HRP.out; rw [hm0] at this; exact this
          have HM0 := Lib.hid hm0
          have HPR := Lib.hid hpr
          clear hom hrp hm0 hpr HRP
          obtain ⟨p0, p1, p2, p3⟩ := HPR.out
          go_wp2_with fail
          go_quiet (fail)
          go_wp2_with fail
          refine ⟨⟨k + 1, by omega, by go_num, ((HOM.out.set ⟨w.heap.size + 2, 0, none⟩ (by show w.heap.size + 1 < w.heap.size + 2; omega) (.int .i64 2)).set ⟨w.heap.size + 2, 1, none⟩ (by show w.heap.size + 1 < w.heap.size + 2; omega) (.string x.name)).drewN _, ?_, below_drewN ((hb.setCell (p := ⟨w.heap.size + 2, 0, none⟩) (by show w.heap.size ≤ w.heap.size + 2; omega) (.int .i64 2)).setCell (p := ⟨w.heap.size + 2, 1, none⟩) (by show w.heap.size ≤ w.heap.size + 2; omega) (.string x.name)) _⟩, by simp [intOf]; omega⟩
          rw [Hst.out, HM0.out, pmW_snoc, pmI_nil, H2.out]
          exact ((HPR.out.set 2 x.name)).drewN _
        | cons x0 l' =>
          have hpw : pmW s.kind (x0 :: l') = 2 := by unfold pmW; first | rw [if_pos (by simpa using t8)] | rw [if_neg (by simpa using t8)]
          have hpr : RdP wr (w.heap.size + 2) 2 (pmI (x0 :: l')) := by have := HRP.out; rw [hm0, hpw] at this; exact this
          have HM0 := Lib.hid hm0
          have HPR := Lib.hid hpr
          have HPW := Lib.hid hpw
          cases hlt2 : ltS x.name (pmI (x0 :: l')) with
          | true =>
            have Hlt2 := Lib.hid hlt2
            generalize hpi : pmI (x0 :: l') = pi at *
            have HPI := Lib.hid hpi
            clear hom hrp hm0 hpr HRP hpw hpi
            obtain ⟨p0, p1, p2, p3⟩ := HPR.out
            go_wp2_with fail
            go_quiet (fail)
            go_wp2_with fail
            refine ⟨⟨k + 1, by omega, by go_num, ((HOM.out.set ⟨w.heap.size + 2, 0, none⟩ (by show w.heap.size + 1 < w.heap.size + 2; omega) (.int .i64 2)).set ⟨w.heap.size + 2, 1, none⟩ (by show w.heap.size + 1 < w.heap.size + 2; omega) (.string x.name)).drewN _, ?_, below_drewN ((hb.setCell (p := ⟨w.heap.size + 2, 0, none⟩) (by show w.heap.size ≤ w.heap.size + 2; omega) (.int .i64 2)).setCell (p := ⟨w.heap.size + 2, 1, none⟩) (by show w.heap.size ≤ w.heap.size + 2; omega) (.string x.name)) _⟩, by simp [intOf]; omega⟩
            rw [Hst.out, HM0.out, pmW_snoc, pmI_snoc, HPI.out, Hlt2.out, H2.out]
            exact ((HPR.out.set 2 x.name)).drewN _
          | false =>
            have Hlt2 := Lib.hid hlt2
            generalize hpi : pmI (x0 :: l') = pi at *
            have HPI := Lib.hid hpi
            clear hom hrp hm0 hpr HRP hpw hpi
            obtain ⟨p0, p1, p2, p3⟩ := HPR.out
            go_wp2_with fail
            go_quiet (fail)
            go_wp2_with fail
            exact ⟨⟨k + 1, by omega, by go_num, HOM.out.drewN _, by rw [Hst.out, HM0.out, pmW_snoc, pmI_snoc, HPI.out, Hlt2.out, H2.out]; exact HPR.out.drewN _, below_drewN hb _⟩, by simp [intOf]; omega⟩
    · obtain rfl : k = l.length := by omega
      rw [List.take_length] at hrp
      have HOM := Lib.hid hom
      have HRP := Lib.hid hrp
      obtain ⟨m1, m2, m3, m4, m5, m6, m7⟩ := HOM.out
      obtain ⟨p0, p1, p2, p3⟩ := HRP.out
      have HB := Lib.hid hb
      clear hom hrp hb
      go_wp2_with fail
      refine bodyPost_ret (v := .tuple #[.agg #[.int .i64 (pmW s.kind (keepL s.col l)), .string (pmI (keepL s.col l))], .int .i64 0]) (by simp [results, Try.results33, go_sem, m4, m5]) rfl ⟨rfl, (HB.out.setCell (p := ⟨w.heap.size + 1, 0, none⟩) (by show w.heap.size ≤ w.heap.size + 1; omega) _).setCell (p := ⟨w.heap.size + 1, 1, none⟩) (by show w.heap.size ≤ w.heap.size + 1; omega) _⟩
set_option maxRecDepth 100000 in
set_option maxHeartbeats 2000000 in
theorem rof_loop6 (s : Stm) (C : Option Addr) (c : Nat) (cols : List Col) (A : Option Addr) (a : Nat) (l : List Idx) (w : World) (hc : RdC w C cols) (ha : RdI w A l) (hnA : A = none → a = 0) (hcl : cols.length ≤ 1000) (hal : l.length ≤ 1000) (hk : s.kind = 6) (hz : ¬ findV s.col cols 0 < 0) :
    Calls Try.prog 33 #[sv s, .slice C cols.length c, .slice A l.length a] w fun e w' => e = .returned (.tuple #[.agg #[.int .i64 (pmW s.kind (keepL s.col l)), .string (pmI (keepL s.col l))], .int .i64 0]) ∧ Below w.heap.size w w' := by
  have hst := run_sf
  have hm := OfMem.start w s 53
  have b0 : Below w.heap.size w ((w.alloc (.cells s.a 45)).alloc (.cells #[.int .i64 0, .string ⟨#[]⟩] 53)) := ((Below.refl _ _).alloc (Nat.le_refl _) _).alloc (by simp) _
  have HM := Lib.hid hm
  have HC0 := Lib.hid (hc.keep b0 (Nat.le_refl _))
  have HA0 := Lib.hid (ha.keep b0 (Nat.le_refl _))
  have HNA := Lib.hid hnA
  have HL := Lib.hid ha
  have t9 : (s.kind == 9) = false := by rw [beq_eq_false_iff_ne]; omega
  have t5 : (s.kind == 5) = false := by rw [beq_eq_false_iff_ne]; omega
  have t7 : (s.kind == 7) = false := by rw [beq_eq_false_iff_ne]; omega
  have t6 : (s.kind == 6) = true := by rw [beq_iff_eq]; omega
  have t8 : (s.kind == 8) = false := by rw [beq_eq_false_iff_ne]; omega
  clear hk
  have hfz := fun w h => rfind_any C c cols s.col w h hcl
  generalize findV s.col cols 0 = z at *
  have tz : decide (z < 0) = false := decide_eq_false (by omega)
  clear hz
  clear hc ha hnA hm
  go_enter Try.func33, Try.ntmps33
  go_wp2_with fail
  refine (hfz _ HC0.out).mono ?_
  rintro e w1 ⟨rfl, rfl⟩
  go_wp2_with fail
  obtain ⟨wb, hwb⟩ : ∃ wb : World, wb = (w.alloc (.cells s.a 45)).alloc (.cells #[.int .i64 0, .string ⟨#[]⟩] 53) := ⟨_, rfl⟩
  have hs2 : wb.heap.size = w.heap.size + 2 := by rw [hwb]; simp
  have hm1 : OfMem (wb.alloc (.cells #[.int .i64 1, .string ⟨#[]⟩] 53)) w.heap.size s.kind s.col s.set := by rw [hwb]; exact HM.out.keep ((Below.refl _ _).alloc (Nat.le_refl _) _)
  have hp1 : RdP (wb.alloc (.cells #[.int .i64 1, .string ⟨#[]⟩] 53)) (w.heap.size + 2) 1 ⟨#[]⟩ := by rw [← hs2]; exact RdP.start wb 53 1 _
  have hb1 : Below w.heap.size w (wb.alloc (.cells #[.int .i64 1, .string ⟨#[]⟩] 53)) := by
    rw [hwb]
    exact b0.alloc b0.size _
  rw [hwb] at hm1 hp1 hb1
  clear hwb hs2 wb
  have H2 : Hid ((if s.kind = 8 then (3 : Int) else 2) = 2) := Lib.hid (by first | rw [if_pos (by simpa using t8)] | rw [if_neg (by simpa using t8)])
  go_loopw [9] (fun i wr => ∃ k : Nat, k ≤ l.length ∧ i = .int .i64 k ∧ OfMem wr w.heap.size s.kind s.col s.set ∧ RdP wr (w.heap.size + 2) (pmW s.kind (keepL s.col (l.take k))) (pmI (keepL s.col (l.take k))) ∧ Below w.heap.size w wr) (fun i _ => l.length - (intOf i).toNat)
  case atStart => exact ⟨0, by omega, rfl, hm1, hp1, hb1⟩
  case round =>
    clear hm1 hp1 hb1
    obtain ⟨k, hkl, rfl, hom, hrp, hb⟩ := hrel
    have hlt1 := hom.lt
    have hltM : w.heap.size + 2 < wr.heap.size := World.block_lt_of_cell? _ _ hrp.1
    by_cases hlt : k < l.length
    · obtain ⟨ad, rfl, q0, q1, q2, q3⟩ := RdI.at (HL.out.keep hb (Nat.le_refl _)) k hlt
      have hstep := keepL_snoc s.col l k hlt
      have hw1 : IntKind.i64.wrap ((k : Int) + 1) = (k : Int) + 1 := by rw [IntKind.wrap_i64]; omega
      have hdv : delV s.col l[k] = (!(sq l[k].col s.col) || !(l[k].st == 3)) := rfl
      generalize l[k] = x at *
      have HOM := Lib.hid hom
      have HRP := Lib.hid hrp
      obtain ⟨m1, m2, m3, m4, m5, m6, m7⟩ := HOM.out
      cases hd : delV s.col x with
      | true =>
        rw [hd, if_pos rfl, List.append_nil] at hstep
        have Hst := Lib.hid hstep
        cases hc1 : sq x.col s.col with
        | false =>
          clear hd hdv hstep hom hrp
          go_wp2_with fail
          go_quiet (fail)
          go_wp2_with fail
          exact ⟨⟨k + 1, by omega, by go_num, HOM.out.drewN _, by rw [Hst.out]; exact HRP.out.drewN _, below_drewN hb _⟩, by simp [intOf]; omega⟩
        | true =>
          have hst3 : (x.st == 3) = false := by
            rw [hdv, hc1] at hd
            simpa using hd
          clear hd hdv hstep hom hrp
          go_wp2_with fail
          go_quiet (fail)
          go_wp2_with fail
          exact ⟨⟨k + 1, by omega, by go_num, HOM.out.drewN _, by rw [Hst.out]; exact HRP.out.drewN _, below_drewN hb _⟩, by simp [intOf]; omega⟩
      | false =>
        rw [hd, if_neg (by simp)] at hstep
        have hc1 : sq x.col s.col = true := by
          rw [hdv] at hd
          cases hq : sq x.col s.col with
          | true => rfl
          | false => rw [hq] at hd; simp at hd
        have hst3 : (x.st == 3) = true := by
          rw [hdv, hc1] at hd
          simpa using hd
        clear hd hdv
        have Hst := Lib.hid hstep
        clear hstep
        cases hm0 : keepL s.col (l.take k) with
        | nil =>
          have hpr : RdP wr (w.heap.size + 2) 1 ⟨#[]⟩ := by have := HRP.out; rw [hm0] at this; exact this
          have HM0 := Lib.hid hm0
          have HPR := Lib.hid hpr
          clear hom hrp hm0 hpr HRP
          obtain ⟨p0, p1, p2, p3⟩ := HPR.out
          go_wp2_with fail
          go_quiet (fail)
          go_wp2_with fail
          refine ⟨⟨k + 1, by omega, by go_num, ((HOM.out.set ⟨w.heap.size + 2, 0, none⟩ (by show w.heap.size + 1 < w.heap.size + 2; omega) (.int .i64 2)).set ⟨w.heap.size + 2, 1, none⟩ (by show w.heap.size + 1 < w.heap.size + 2; omega) (.string x.name)).drewN _, ?_, below_drewN ((hb.setCell (p := ⟨w.heap.size + 2, 0, none⟩) (by show w.heap.size ≤ w.heap.size + 2; omega) (.int .i64 2)).setCell (p := ⟨w.heap.size + 2, 1, none⟩) (by show w.heap.size ≤ w.heap.size + 2; omega) (.string x.name)) _⟩, by simp [intOf]; omega⟩
          rw [Hst.out, HM0.out, pmW_snoc, pmI_nil, H2.out]
          exact ((HPR.out.set 2 x.name)).drewN _
        | cons x0 l' =>
          have hpw : pmW s.kind (x0 :: l') = 2 := by unfold pmW; first | rw [if_pos (by simpa using t8)] | rw [if_neg (by simpa using t8)]
          have hpr : RdP wr (w.heap.size + 2) 2 (pmI (x0 :: l')) := by have := HRP.out; rw [hm0, hpw] at this; exact this
          have HM0 := Lib.hid hm0
          have HPR := Lib.hid hpr
          have HPW := Lib.hid hpw
          cases hlt2 : ltS x.name (pmI (x0 :: l')) with
          | true =>
            have Hlt2 := Lib.hid hlt2
            generalize hpi : pmI (x0 :: l') = pi at *
            have HPI := Lib.hid hpi
            clear hom hrp hm0 hpr HRP hpw hpi
            obtain ⟨p0, p1, p2, p3⟩ := HPR.out
            go_wp2_with fail
            go_quiet (fail)
            go_wp2_with fail
            refine ⟨⟨k + 1, by omega, by go_num, ((HOM.out.set ⟨w.heap.size + 2, 0, none⟩ (by show w.heap.size + 1 < w.heap.size + 2; omega) (.int .i64 2)).set ⟨w.heap.size + 2, 1, none⟩ (by show w.heap.size + 1 < w.heap.size + 2; omega) (.string x.name)).drewN _, ?_, below_drewN ((hb.setCell (p := ⟨w.heap.size + 2, 0, none⟩) (by show w.heap.size ≤ w.heap.size + 2; omega) (.int .i64 2)).setCell (p := ⟨w.heap.size + 2, 1, none⟩) (by show w.heap.size ≤ w.heap.size + 2; omega) (.string x.name)) _⟩, by simp [intOf]; omega⟩
            rw [Hst.out, HM0.out, pmW_snoc, pmI_snoc, HPI.out, Hlt2.out, H2.out]
            exact ((HPR.out.set 2 x.name)).drewN _
          | false =>
            have Hlt2 := Lib.hid hlt2
            generalize hpi : pmI (x0 :: l') = pi at *
            have HPI := Lib.hid hpi
            clear hom hrp hm0 hpr HRP hpw hpi
            obtain ⟨p0, p1, p2, p3⟩ := HPR.out
            go_wp2_with fail
            go_quiet (fail)
            go_wp2_with fail
            exact ⟨⟨k + 1, by omega, by go_num, HOM.out.drewN _, by rw [Hst.out, HM0.out, pmW_snoc, pmI_snoc, HPI.out, Hlt2.out, H2.out]; exact HPR.out.drewN _, below_drewN hb _⟩, by simp [intOf]; omega⟩
    · obtain rfl : k = l.length := by omega
      rw [List.take_length] at hrp
      have HOM := Lib.hid hom
      have HRP := Lib.hid hrp
      obtain ⟨m1, m2, m3, m4, m5, m6, m7⟩ := HOM.out
      obtain ⟨p0, p1, p2, p3⟩ := HRP.out
      have HB := Lib.hid hb
      clear hom hrp hb
      go_wp2_with fail
      refine bodyPost_ret (v := .tuple #[.agg #[.int .i64 (pmW s.kind (keepL s.col l)), .string (pmI (keepL s.col l))], .int .i64 0]) (by simp [results, Try.results33, go_sem, m4, m5]) rfl ⟨rfl, (HB.out.setCell (p := ⟨w.heap.size + 1, 0, none⟩) (by show w.heap.size ≤ w.heap.size + 1; omega) _).setCell (p := ⟨w.heap.size + 1, 1, none⟩) (by show w.heap.size ≤ w.heap.size + 1; omega) _⟩
set_option maxRecDepth 100000 in
set_option maxHeartbeats 2000000 in
theorem rof_loop8 (s : Stm) (C : Option Addr) (c : Nat) (cols : List Col) (A : Option Addr) (a : Nat) (l : List Idx) (w : World) (hc : RdC w C cols) (ha : RdI w A l) (hnA : A = none → a = 0) (hcl : cols.length ≤ 1000) (hal : l.length ≤ 1000) (hk : s.kind = 8) (hz : ¬ findV s.col cols 0 < 0) :
    Calls Try.prog 33 #[sv s, .slice C cols.length c, .slice A l.length a] w fun e w' => e = .returned (.tuple #[.agg #[.int .i64 (pmW s.kind (keepL s.col l)), .string (pmI (keepL s.col l))], .int .i64 0]) ∧ Below w.heap.size w w' := by
  have hst := run_sf
  have hm := OfMem.start w s 53
  have b0 : Below w.heap.size w ((w.alloc (.cells s.a 45)).alloc (.cells #[.int .i64 0, .string ⟨#[]⟩] 53)) := ((Below.refl _ _).alloc (Nat.le_refl _) _).alloc (by simp) _
  have HM := Lib.hid hm
  have HC0 := Lib.hid (hc.keep b0 (Nat.le_refl _))
  have HA0 := Lib.hid (ha.keep b0 (Nat.le_refl _))
  have HNA := Lib.hid hnA
  have HL := Lib.hid ha
  have t9 : (s.kind == 9) = false := by rw [beq_eq_false_iff_ne]; omega
  have t5 : (s.kind == 5) = false := by rw [beq_eq_false_iff_ne]; omega
  have t7 : (s.kind == 7) = false := by rw [beq_eq_false_iff_ne]; omega
  have t6 : (s.kind == 6) = false := by rw [beq_eq_false_iff_ne]; omega
  have t8 : (s.kind == 8) = true := by rw [beq_iff_eq]; omega
  clear hk
  have hfz := fun w h => rfind_any C c cols s.col w h hcl
  generalize findV s.col cols 0 = z at *
  have tz : decide (z < 0) = false := decide_eq_false (by omega)
  clear hz
  clear hc ha hnA hm
  go_enter Try.func33, Try.ntmps33
  go_wp2_with fail
  refine (hfz _ HC0.out).mono ?_
  rintro e w1 ⟨rfl, rfl⟩
  go_wp2_with fail
  obtain ⟨wb, hwb⟩ : ∃ wb : World, wb = (w.alloc (.cells s.a 45)).alloc (.cells #[.int .i64 0, .string ⟨#[]⟩] 53) := ⟨_, rfl⟩
  have hs2 : wb.heap.size = w.heap.size + 2 := by rw [hwb]; simp
  have hm1 : OfMem (wb.alloc (.cells #[.int .i64 1, .string ⟨#[]⟩] 53)) w.heap.size s.kind s.col s.set := by rw [hwb]; exact HM.out.keep ((Below.refl _ _).alloc (Nat.le_refl _) _)
  have hp1 : RdP (wb.alloc (.cells #[.int .i64 1, .string ⟨#[]⟩] 53)) (w.heap.size + 2) 1 ⟨#[]⟩ := by rw [← hs2]; exact RdP.start wb 53 1 _
  have hb1 : Below w.heap.size w (wb.alloc (.cells #[.int .i64 1, .string ⟨#[]⟩] 53)) := by
    rw [hwb]
    exact b0.alloc b0.size _
  rw [hwb] at hm1 hp1 hb1
  clear hwb hs2 wb
  have H3 : Hid ((if s.kind = 8 then (3 : Int) else 2) = 3) := Lib.hid (by first | rw [if_pos (by simpa using t8)] | rw [if_neg (by simpa using t8)])
  go_loopw [9] (fun i wr => ∃ k : Nat, k ≤ l.length ∧ i = .int .i64 k ∧ OfMem wr w.heap.size s.kind s.col s.set ∧ RdP wr (w.heap.size + 2) (pmW s.kind (keepL s.col (l.take k))) (pmI (keepL s.col (l.take k))) ∧ Below w.heap.size w wr) (fun i _ => l.length - (intOf i).toNat)
  case atStart => exact ⟨0, by omega, rfl, hm1, hp1, hb1⟩
  case round =>
    clear hm1 hp1 hb1
    obtain ⟨k, hkl, rfl, hom, hrp, hb⟩ := hrel
    have hlt1 := hom.lt
    have hltM : w.heap.size + 2 < wr.heap.size := World.block_lt_of_cell? _ _ hrp.1
    by_cases hlt : k < l.length
    · obtain ⟨ad, rfl, q0, q1, q2, q3⟩ := RdI.at (HL.out.keep hb (Nat.le_refl _)) k hlt
      have hstep := keepL_snoc s.col l k hlt
      have hw1 : IntKind.i64.wrap ((k : Int) + 1) = (k : Int) + 1 := by rw [IntKind.wrap_i64]; omega
      have hdv : delV s.col l[k] = (!(sq l[k].col s.col) || !(l[k].st == 3)) := rfl
      generalize l[k] = x at *
      have HOM := Lib.hid hom
      have HRP := Lib.hid hrp
      obtain ⟨m1, m2, m3, m4, m5, m6, m7⟩ := HOM.out
      cases hd : delV s.col x with
      | true =>
        rw [hd, if_pos rfl, List.append_nil] at hstep
        have Hst := Lib.hid hstep
        cases hc1 : sq x.col s.col with
        | false =>
          clear hd hdv hstep hom hrp
          go_wp2_with fail
          go_quiet (fail)
          go_wp2_with fail
          exact ⟨⟨k + 1, by omega, by go_num, HOM.out.drewN _, by rw [Hst.out]; exact HRP.out.drewN _, below_drewN hb _⟩, by simp [intOf]; omega⟩
        | true =>
          have hst3 : (x.st == 3) = false := by
            rw [hdv, hc1] at hd
            simpa using hd
          clear hd hdv hstep hom hrp
          go_wp2_with fail
          go_quiet (fail)
          go_wp2_with fail
          exact ⟨⟨k + 1, by omega, by go_num, HOM.out.drewN _, by rw [Hst.out]; exact HRP.out.drewN _, below_drewN hb _⟩, by simp [intOf]; omega⟩
      | false =>
        rw [hd, if_neg (by simp)] at hstep
        have hc1 : sq x.col s.col = true := by
          rw [hdv] at hd
          cases hq : sq x.col s.col with
          | true => rfl
          | false => rw [hq] at hd; simp at hd
        have hst3 : (x.st == 3) = true := by
          rw [hdv, hc1] at hd
          simpa using hd
        clear hd hdv
        have Hst := Lib.hid hstep
        clear hstep
        cases hm0 : keepL s.col (l.take k) with
        | nil =>
          have hpr : RdP wr (w.heap.size + 2) 1 ⟨#[]⟩ := by have := HRP.out; rw [hm0] at this; exact this
          have HM0 := Lib.hid hm0
          have HPR := Lib.hid hpr
          clear hom hrp hm0 hpr HRP
          obtain ⟨p0, p1, p2, p3⟩ := HPR.out
          go_wp2_with fail
          go_quiet (fail)
          go_wp2_with fail
          refine ⟨⟨k + 1, by omega, by go_num, (((HOM.out.set ⟨w.heap.size + 2, 0, none⟩ (by show w.heap.size + 1 < w.heap.size + 2; omega) (.int .i64 2)).set ⟨w.heap.size + 2, 1, none⟩ (by show w.heap.size + 1 < w.heap.size + 2; omega) (.string x.name)).set ⟨w.heap.size + 2, 0, none⟩ (by show w.heap.size + 1 < w.heap.size + 2; omega) (.int .i64 3)).drewN _, ?_, below_drewN (((hb.setCell (p := ⟨w.heap.size + 2, 0, none⟩) (by show w.heap.size ≤ w.heap.size + 2; omega) (.int .i64 2)).setCell (p := ⟨w.heap.size + 2, 1, none⟩) (by show w.heap.size ≤ w.heap.size + 2; omega) (.string x.name)).setCell (p := ⟨w.heap.size + 2, 0, none⟩) (by show w.heap.size ≤ w.heap.size + 2; omega) (.int .i64 3)) _⟩, by simp [intOf]; omega⟩
          rw [Hst.out, HM0.out, pmW_snoc, pmI_nil, H3.out]
          exact ((HPR.out.set 2 x.name).set0 3).drewN _
        | cons x0 l' =>
          have hpw : pmW s.kind (x0 :: l') = 3 := by unfold pmW; first | rw [if_pos (by simpa using t8)] | rw [if_neg (by simpa using t8)]
          have hpr : RdP wr (w.heap.size + 2) 3 (pmI (x0 :: l')) := by have := HRP.out; rw [hm0, hpw] at this; exact this
          have HM0 := Lib.hid hm0
          have HPR := Lib.hid hpr
          have HPW := Lib.hid hpw
          cases hlt2 : ltS x.name (pmI (x0 :: l')) with
          | true =>
            have Hlt2 := Lib.hid hlt2
            generalize hpi : pmI (x0 :: l') = pi at *
            have HPI := Lib.hid hpi
            clear hom hrp hm0 hpr HRP hpw hpi
            obtain ⟨p0, p1, p2, p3⟩ := HPR.out
            go_wp2_with fail
            go_quiet (fail)
            go_wp2_with fail
            refine ⟨⟨k + 1, by omega, by go_num, (((HOM.out.set ⟨w.heap.size + 2, 0, none⟩ (by show w.heap.size + 1 < w.heap.size + 2; omega) (.int .i64 2)).set ⟨w.heap.size + 2, 1, none⟩ (by show w.heap.size + 1 < w.heap.size + 2; omega) (.string x.name)).set ⟨w.heap.size + 2, 0, none⟩ (by show w.heap.size + 1 < w.heap.size + 2; omega) (.int .i64 3)).drewN _, ?_, below_drewN (((hb.setCell (p := ⟨w.heap.size + 2, 0, none⟩) (by show w.heap.size ≤ w.heap.size + 2; omega) (.int .i64 2)).setCell (p := ⟨w.heap.size + 2, 1, none⟩) (by show w.heap.size ≤ w.heap.size + 2; omega) (.string x.name)).setCell (p := ⟨w.heap.size + 2, 0, none⟩) (by show w.heap.size ≤ w.heap.size + 2; omega) (.int .i64 3)) _⟩, by simp [intOf]; omega⟩
            rw [Hst.out, HM0.out, pmW_snoc, pmI_snoc, HPI.out, Hlt2.out, H3.out]
            exact ((HPR.out.set 2 x.name).set0 3).drewN _
          | false =>
            have Hlt2 := Lib.hid hlt2
            generalize hpi : pmI (x0 :: l') = pi at *
            have HPI := Lib.hid hpi
            clear hom hrp hm0 hpr HRP hpw hpi
            obtain ⟨p0, p1, p2, p3⟩ := HPR.out
            go_wp2_with fail
            go_quiet (fail)
            go_wp2_with fail
            exact ⟨⟨k + 1, by omega, by go_num, HOM.out.drewN _, by rw [Hst.out, HM0.out, pmW_snoc, pmI_snoc, HPI.out, Hlt2.out, H3.out]; exact HPR.out.drewN _, below_drewN hb _⟩, by simp [intOf]; omega⟩
    · obtain rfl : k = l.length := by omega
      rw [List.take_length] at hrp
      have HOM := Lib.hid hom
      have HRP := Lib.hid hrp
      obtain ⟨m1, m2, m3, m4, m5, m6, m7⟩ := HOM.out
      obtain ⟨p0, p1, p2, p3⟩ := HRP.out
      have HB := Lib.hid hb
      clear hom hrp hb
      go_wp2_with fail
      refine bodyPost_ret (v := .tuple #[.agg #[.int .i64 (pmW s.kind (keepL s.col l)), .string (pmI (keepL s.col l))], .int .i64 0]) (by simp [results, Try.results33, go_sem, m4, m5]) rfl ⟨rfl, (HB.out.setCell (p := ⟨w.heap.size + 1, 0, none⟩) (by show w.heap.size ≤ w.heap.size + 1; omega) _).setCell (p := ⟨w.heap.size + 1, 1, none⟩) (by show w.heap.size ≤ w.heap.size + 1; omega) _⟩
end Go.Proofs.Ytobdooojdadgpaa
