/- Contract: the reply of bytes (of the program), whole. -/
import Derived.Test.YtmgpecomgffelaaRepE
namespace Go.Proofs.Ytmgpecomgffelaa
open Go.RowKit
set_option linter.unusedVariables false
theorem B3.alloc {w : World} {b : Nat} {c n : Int} {A : Option Addr} {l k : Nat} (h : B3 w b c n A l k) (o : Obj) : B3 (w.alloc o) b c n A l k := BoxT.alloc h o
theorem B3.grown {w w' : World} {b : Nat} {c n : Int} {A : Option Addr} {l k : Nat} {row : Option Nat} (h : B3 w b c n A l k) (hg : w.grownBy w' row) (hne : some b ≠ row) : B3 w' b c n A l k := BoxT.grown h hg hne
theorem vals_at {s : ByteArray} {o : Option (List Val)} (h : valsO s = o) (hsz : s.size ≤ 1000000) (w : World) : Calls Try.prog 33 #[.string s] w fun e w' => ∃ A c, e = .returned (.tuple #[.slice A (o.getD []).length c, .int .i64 (if o.isSome then 0 else 11)]) ∧ Fresh w' w.heap.size 24 4 (.slice A (o.getD []).length c) (o.getD []).length ((o.getD []).flatMap Val.cells) ∧ (A = none → c = 0) ∧ Below w.heap.size w w' := by
  have := vals_any s hsz w
  unfold ValsP valsL valsE at this
  rw [h] at this
  exact this
set_option maxRecDepth 100000 in
theorem pdec_short (b : ByteArray) (h : b.size < 6) (w : World) : Calls Try.prog 80 #[.string b] w (DecP b w) := by
  have hno := Lib.hid (decR_short h)
  have t1 : decide ((b.size : Int) < 6) = true := by rw [decide_eq_true]; omega
  have t2 : decide (b.size < 6) = true := by rw [decide_eq_true]; omega
  clear h
  go_enter Try.func80, Try.ntmps80
  go_wp2_with fail
  exact bodyPost_ret (v := .tuple #[rv 0 0 none 0 0, .int .i64 11]) (by simp [results, Try.results80, go_sem]) rfl (DecP.no hno.out (((Below.refl w.heap.size w).alloc (Nat.le_refl _) _).alloc (by simp) _))
set_option maxRecDepth 100000 in
set_option maxHeartbeats 4000000 in
theorem pdec_main (b : ByteArray) (h6 : 6 ≤ b.size) (hsz : b.size ≤ 1000000) (w : World) : Calls Try.prog 80 #[.string b] w (DecP b w) := by
  have t1 : decide ((b.size : Int) < 6) = false := by rw [decide_eq_false]; omega
  have t2 : decide (b.size < 6) = false := by rw [decide_eq_false]; omega
  have i1 : (6 : Int) ≤ (b.size : Int) := by omega
  have N0 : Hid (∀ w', w'.cell? ⟨w.heap.size, 0, none⟩ = some (.string b) → Calls Try.prog 117 #[.int .i64 0, .pointer (some ⟨w.heap.size, 0, none⟩)] w' fun e w'' => e = .returned (.int .i64 (numB b 0 2 : Nat)) ∧ Below w'.heap.size w' w'') := Lib.hid (fun w' h => num_any b 0 w.heap.size (by omega) hsz w' h)
  have N1 : Hid (∀ w', w'.cell? ⟨w.heap.size, 0, none⟩ = some (.string b) → Calls Try.prog 117 #[.int .i64 2, .pointer (some ⟨w.heap.size, 0, none⟩)] w' fun e w'' => e = .returned (.int .i64 (numB b 2 2 : Nat)) ∧ Below w'.heap.size w' w'') := Lib.hid (fun w' h => num_any b 2 w.heap.size (by omega) hsz w' h)
  have N2 : Hid (∀ w', w'.cell? ⟨w.heap.size, 0, none⟩ = some (.string b) → Calls Try.prog 117 #[.int .i64 4, .pointer (some ⟨w.heap.size, 0, none⟩)] w' fun e w'' => e = .returned (.int .i64 (numB b 4 2 : Nat)) ∧ Below w'.heap.size w' w'') := Lib.hid (fun w' h => num_any b 4 w.heap.size (by omega) hsz w' h)
  have HNO := Lib.hid (decR_rows (b := b))
  have HBAD := Lib.hid (fun ls q => decR_bad h6 (ls := ls) (q := q))
  have HGOOD := Lib.hid (fun ls q => decR_good h6 (ls := ls) (q := q))
  have hm2 := numB_lt b 4 2
  have HOK := Lib.hid (fun k ls e => rowsA_ok b 6 h6 k ls e)
  have HOKV := Lib.hid (fun k ls e => rowsA_okv b 6 h6 k ls e)
  generalize numB b 0 2 = x0 at *
  generalize numB b 2 2 = x1 at *
  generalize numB b 4 2 = m at *
  go_enter Try.func80, Try.ntmps80
  go_wp2_with fail
  have T0 : Hid (BoxT ((w.alloc (.cells #[.string b] 9)).alloc (.cells (a3 0 0 none 0 0) 96)) w.heap.size #[.string b]) := Lib.hid (BoxT.alloc (BoxT.new w _ 9) _)
  have R0 : Hid (B3 ((w.alloc (.cells #[.string b] 9)).alloc (.cells (a3 0 0 none 0 0) 96)) (w.heap.size + 1) 0 0 none 0 0) := Lib.hid (by
    have := B3.new (w.alloc (.cells #[.string b] 9)) 0 0 none 0 0 96
    have e : (w.alloc (.cells #[.string b] 9)).heap.size = w.heap.size + 1 := by simp
    rw [e] at this
    exact this)
  have k0 : Below w.heap.size w ((w.alloc (.cells #[.string b] 9)).alloc (.cells (a3 0 0 none 0 0) 96)) := ((Below.refl w.heap.size w).alloc (Nat.le_refl _) _).alloc (by simp) _
  refine (N0.out _ (T0.out 0 _ rfl).1).mono ?_
  rintro e w1 ⟨rfl, b1⟩
  have T1 := Lib.hid (BoxT.keep T0.out b1)
  have R1 := Lib.hid (R0.out.keep b1)
  have k1 := k0.trans (b1.mono k0.size)
  clear b1 k0 T0 R0
  go_wp2_with fail
  refine (N1.out _ (T1.out 0 _ rfl).1).mono ?_
  rintro e w3 ⟨rfl, b3⟩
  have T3 := Lib.hid (BoxT.alloc (BoxT.keep T1.out b3) (.cells (a3 x0 x1 none 0 0) 96))
  have R3 := Lib.hid (B3.alloc (R1.out.keep b3) (.cells (a3 x0 x1 none 0 0) 96))
  have k3 := k1.trans (b3.mono k1.size)
  have P3 := Lib.hid (B3.new w3 x0 x1 none 0 0 96)
  have hPw : w.heap.size + 1 < w3.heap.size := (R1.out.keep b3).lt
  have tc := (T3.out 0 _ rfl).1
  clear b3 k1 T1 R1
  go_wp2_with fail
  refine (N2.out _ (T3.out 0 _ rfl).1).mono ?_
  rintro e w4 ⟨rfl, b4⟩
  have R4 := Lib.hid (R3.out.keep b4)
  have P4 := Lib.hid (P3.out.keep b4)
  have k4 := (k3.alloc k3.size _).trans (b4.mono (by have := k3.size; simp; omega))
  clear b4 k3 T3 R3 P3 tc
  go_wp2_with fail
  go_loopw [6, 24] (fun v i wr => ∃ (k q : Nat) (ls : List (List Val)) (A : Option Addr) (c : Nat), k ≤ m ∧ i = .int .i64 k ∧ v = .string (b.extract q b.size) ∧ rowsA b 6 k = some (ls, q) ∧ (A = none → c = 0) ∧ B3 wr w3.heap.size x0 x1 A k c ∧ OwnRows wr (w3.heap.size + 1) (.slice A k c) ls ∧ B3 wr (w.heap.size + 1) 0 0 none 0 0 ∧ Below w.heap.size w wr) (fun _ i _ => m - (intOf i).toNat)
  case atStart => exact ⟨0, 6, [], none, 0, by omega, rfl, rfl, rfl, fun _ => rfl, P4.out, OwnRows.nil _ _, R4.out, k4⟩
  case round =>
    obtain ⟨k, q, ls, A, c, hkm, rfl, rfl, hrw, hnA, hP, hO, hR, hb⟩ := hrel
    obtain ⟨g1, g2, g3, g4, g5⟩ := HOK.out k ls q hrw
    clear g4 g5
    have HRW := Lib.hid hrw
    have HP := Lib.hid hP
    have HO := Lib.hid hO
    have HR := Lib.hid hR
    have HNA := Lib.hid hnA
    have G1 := Lib.hid g1
    clear hrw hP hO hR hnA g1
    by_cases hlt : k < m
    · have hzt : (b.extract q b.size).size = b.size - q := size_extract _ _ _ (Nat.le_refl _)
      have hlong := long_any (b.extract q b.size) (by rw [hzt]; omega)
      have hw1 : IntKind.i64.wrap ((k : Int) + 1) = (k : Int) + 1 := by rw [IntKind.wrap_i64]; omega
      cases ht : takA b q with
      | none =>
        have Hno := Lib.hid (HNO.out (rowsA_end b 6 k ls q HRW.out ht m hlt))
        rcases step_none b q (by omega) ht with h1 | ⟨h1, h2, h3⟩
        · rw [h1] at hlong
          have HL := Lib.hid hlong
          clear hlong hzt h1 ht
          go_wp2_with fail
          refine (HL.out _).mono ?_
          rintro e w5 ⟨rfl, b5⟩
          have k5 := hb.trans (b5.mono hb.size)
          obtain ⟨⟨d0, z0⟩, ⟨d1, z1⟩, ⟨d2, z2⟩⟩ := (HR.out.keep b5).cells
          clear b5
          go_wp2_with fail
          exact bodyPost_ret (v := .tuple #[rv 0 0 none 0 0, .int .i64 11]) (by simp [results, Try.results80, go_sem, d0, d1, d2]) rfl (DecP.no Hno.out (((k5.setCell (p := ⟨w.heap.size + 1, 0, none⟩) (by simp) _).setCell (p := ⟨w.heap.size + 1, 1, none⟩) (by simp) _).setCell (p := ⟨w.heap.size + 1, 2, none⟩) (by simp) _))
        · have hvals := vals_at h3 (by rw [size_extract _ _ _ (by omega)]; omega)
          simp only [Option.getD_none, Option.isSome_none, List.length_nil] at hvals
          generalize longV (b.extract q b.size) = L at *
          generalize b.extract q b.size = X at *
          have t5 : decide (L < 0) = false := by rw [decide_eq_false]; omega
          have HL := Lib.hid hlong
          have HV := Lib.hid hvals
          clear hlong hvals h3 ht
          go_wp2_with fail
          refine (HL.out _).mono ?_
          rintro e w5 ⟨rfl, b5⟩
          have k5 := hb.trans (b5.mono hb.size)
          go_wp2_with fail
          refine (HV.out _).mono ?_
          rintro e w6 ⟨A6, c6, rfl, f6, n6, b6⟩
          have k6 := k5.trans (b6.mono k5.size)
          obtain ⟨⟨d0, z0⟩, ⟨d1, z1⟩, ⟨d2, z2⟩⟩ := ((HR.out.keep b5).keep b6).cells
          clear f6 n6 b5 b6
          go_wp2_with fail
          exact bodyPost_ret (v := .tuple #[rv 0 0 none 0 0, .int .i64 11]) (by simp [results, Try.results80, go_sem, d0, d1, d2]) rfl (DecP.no Hno.out (((k6.setCell (p := ⟨w.heap.size + 1, 0, none⟩) (by simp) _).setCell (p := ⟨w.heap.size + 1, 1, none⟩) (by simp) _).setCell (p := ⟨w.heap.size + 1, 2, none⟩) (by simp) _))
      | some y =>
        obtain ⟨l, e⟩ := y
        obtain ⟨s1, s2, s3⟩ := step_some b q ht
        obtain ⟨j1, j2, _⟩ := takA_bd ht
        have hvals := vals_at s2 (by rw [size_extract _ _ _ (by omega)]; omega)
        simp only [Option.getD_some, Option.isSome_some] at hvals
        rw [s1] at hlong
        have Hrw := Lib.hid (show rowsA b 6 (k + 1) = some (ls ++ [l], e) by rw [rowsA_succ _ _ _ _ _ HRW.out, ht]; rfl)
        obtain ⟨d, hd⟩ : ∃ d, d = e - q := ⟨_, rfl⟩
        rw [← hd] at hlong hvals s3
        have hdz : d ≤ (b.extract q b.size).size := by omega
        have hdI : (d : Int) ≤ ((b.extract q b.size).size : Int) := by omega
        have S3 := Lib.hid s3
        have t5 : decide ((d : Int) < 0) = false := by rw [decide_eq_false]; omega
        have HL := Lib.hid hlong
        have HV := Lib.hid hvals
        clear hlong hvals s1 s2 s3 ht hd j1 hzt
        generalize b.extract q b.size = X at *
        go_wp2_with fail
        refine (HL.out _).mono ?_
        rintro e' w5 ⟨rfl, b5⟩
        have k5 := hb.trans (b5.mono hb.size)
        have R5 := Lib.hid (HR.out.keep b5)
        have P5 := Lib.hid (HP.out.keep b5)
        have O5 := Lib.hid (HO.out.keep b5)
        clear b5
        go_wp2_with fail
        refine (HV.out _).mono ?_
        rintro e' w6 ⟨A6, c6, rfl, f6, n6, b6⟩
        have k6 := k5.trans (b6.mono k5.size)
        have hw5 := P5.out.lt
        have F6 := Lib.hid (Fresh.up f6 (show w3.heap.size + 1 ≤ w5.heap.size by omega))
        have R6 := Lib.hid ((R5.out.keep b6).alloc (.cells #[.slice A6 l.length c6] 39))
        have P6 := Lib.hid ((P5.out.keep b6).alloc (.cells #[.slice A6 l.length c6] 39))
        have O6 := Lib.hid ((O5.out.keep b6).alloc (.cells #[.slice A6 l.length c6] 39))
        obtain ⟨⟨p0, y0⟩, ⟨p1, y1⟩, ⟨p2, y2⟩⟩ := (P5.out.keep b6).cells
        have hs6 := b6.size
        have hw6 : w3.heap.size < w6.heap.size := by omega
        have HNe := Lib.hid (O6.out.ne w3.heap.size (Or.inl (by omega)))
        have HNe2 := Lib.hid (O6.out.ne (w.heap.size + 1) (Or.inl (by omega)))
        clear f6 b6 hs6 k5 R5 P5 O5
        go_wp2_with (at_builtin; refine wl_own_row rfl _ _ rfl (w3.heap.size + 1) _ ls rfl O6.out (by simp; omega) _ c6 A6 l _ rfl (by rw [World.cell?_alloc_new]; rfl) (Fresh.alloc F6.out _) (by have := G1.out; omega) ?_; intro v' w7 hO7 hg7 hb7; have R7 := Lib.hid (R6.out.grown hg7 HNe2.out); have P7 := Lib.hid (P6.out.grown hg7 HNe.out); have K7 := Lib.hid ((k6.alloc k6.size _).trans (hb7.mono (by omega))); obtain ⟨A7, c7, hv7, hn7⟩ := hO7.slice' (k + 1) (by rw [List.length_append, G1.out]; rfl); subst hv7; have O7 := Lib.hid hO7; have NA7 := Lib.hid hn7; obtain ⟨⟨r0, x0'⟩, ⟨r1, x1'⟩, ⟨r2, x2'⟩⟩ := P7.out.cells; clear hO7 hg7 hb7 hn7)
        exact ⟨⟨k + 1, e, ls ++ [l], A7, c7, by omega, by go_num, by rw [S3.out], Hrw.out, NA7.out, P7.out.set2 _ _ _, O7.out.setCell (by simp) _, R7.out.other _ (by show w3.heap.size ≠ w.heap.size + 1; omega) _, K7.out.setCell (by show w.heap.size ≤ w3.heap.size; omega) _⟩, by simp [intOf]; omega⟩
    · obtain rfl : k = m := by omega
      have hlen := G1.out
      subst hlen
      by_cases hq : q = b.size
      · have he : (b.extract q b.size).toList.isEmpty = true := (emp_iff _).2 (ext_sAt (by rw [size_extract _ _ _ (Nat.le_refl _), hq, Nat.sub_self]; rfl) (fun i hi => by rw [size_extract _ _ _ (Nat.le_refl _)] at hi; omega))
        generalize b.extract q b.size = X at *
        have HC := Lib.hid (goodr_any ⟨x0, x1, ls⟩ A c wr HO.out.rd (HOKV.out _ _ _ HRW.out))
        simp only at HC
        obtain ⟨⟨p0, y0⟩, ⟨p1, y1⟩, ⟨p2, y2⟩⟩ := HP.out.cells
        cases hg : goodR ⟨x0, x1, ls⟩ with
        | false =>
          rw [hg] at HC
          have Hno := Lib.hid (HBAD.out ls q HRW.out (fun h => by rw [h.2] at hg; cases hg))
          clear hg hq
          go_wp2_with fail
          refine HC.out.mono ?_
          rintro e w5 ⟨rfl, b5⟩
          have k5 := hb.trans (b5.mono hb.size)
          obtain ⟨⟨d0, z0⟩, ⟨d1, z1⟩, ⟨d2, z2⟩⟩ := (HR.out.keep b5).cells
          clear b5 p0 y0 p1 y1 p2 y2
          go_wp2_with fail
          exact bodyPost_ret (v := .tuple #[rv 0 0 none 0 0, .int .i64 11]) (by simp [results, Try.results80, go_sem, d0, d1, d2]) rfl (DecP.no Hno.out (((k5.setCell (p := ⟨w.heap.size + 1, 0, none⟩) (by simp) _).setCell (p := ⟨w.heap.size + 1, 1, none⟩) (by simp) _).setCell (p := ⟨w.heap.size + 1, 2, none⟩) (by simp) _))
        | true =>
          rw [hg] at HC
          have Hy := Lib.hid (HGOOD.out ls q HRW.out ⟨hq, hg⟩)
          clear hg hq
          go_wp2_with fail
          refine HC.out.mono ?_
          rintro e w5 ⟨rfl, b5⟩
          have k5 := hb.trans (b5.mono hb.size)
          have O5 := Lib.hid (HO.out.keep b5)
          obtain ⟨⟨d0, z0⟩, ⟨d1, z1⟩, ⟨d2, z2⟩⟩ := (HR.out.keep b5).cells
          clear p0 y0 p1 y1 p2 y2
          obtain ⟨⟨p0, y0⟩, ⟨p1, y1⟩, ⟨p2, y2⟩⟩ := (HP.out.keep b5).cells
          clear b5
          go_wp2_with fail
          exact bodyPost_ret (v := .tuple #[rv x0 x1 A ls.length c, .int .i64 0]) (by simp [results, Try.results80, go_sem, d0, d1, d2]) rfl (DecP.yes Hy.out (((O5.out.setCell (a := ⟨w.heap.size + 1, 0, none⟩) (by show w.heap.size + 1 < w3.heap.size + 1; omega) _).setCell (a := ⟨w.heap.size + 1, 1, none⟩) (by show w.heap.size + 1 < w3.heap.size + 1; omega) _).setCell (a := ⟨w.heap.size + 1, 2, none⟩) (by show w.heap.size + 1 < w3.heap.size + 1; omega) _).rd HNA.out (((k5.setCell (p := ⟨w.heap.size + 1, 0, none⟩) (by simp) _).setCell (p := ⟨w.heap.size + 1, 1, none⟩) (by simp) _).setCell (p := ⟨w.heap.size + 1, 2, none⟩) (by simp) _))
      · have he : (b.extract q b.size).toList.isEmpty = false := emp_pos _ (by rw [size_extract _ _ _ (Nat.le_refl _)]; omega)
        have Hno := Lib.hid (HBAD.out ls q HRW.out (fun h => hq h.1))
        generalize b.extract q b.size = X at *
        obtain ⟨⟨d0, z0⟩, ⟨d1, z1⟩, ⟨d2, z2⟩⟩ := HR.out.cells
        clear hq
        go_wp2_with fail
        exact bodyPost_ret (v := .tuple #[rv 0 0 none 0 0, .int .i64 11]) (by simp [results, Try.results80, go_sem, d0, d1, d2]) rfl (DecP.no Hno.out (((hb.setCell (p := ⟨w.heap.size + 1, 0, none⟩) (by simp) _).setCell (p := ⟨w.heap.size + 1, 1, none⟩) (by simp) _).setCell (p := ⟨w.heap.size + 1, 2, none⟩) (by simp) _))
theorem pdec_any (b : ByteArray) (hsz : b.size ≤ 1000000) (w : World) : Calls Try.prog 80 #[.string b] w (DecP b w) := by
  by_cases h : 6 ≤ b.size
  · exact pdec_main b h hsz w
  · exact pdec_short b (by omega) w
end Go.Proofs.Ytmgpecomgffelaa
