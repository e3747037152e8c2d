/- The law ClogNumbers: commits are numbered one behind the other; each begins to see all that were committed ahead of it. No condition. -/
import Derived.Test.YtobdooojdadgpaaClogW
import Derived.Test.YtobdooojdadgpaaClogO
import Derived.Test.YtobdooojdadgpaaOpen
namespace Go.Proofs.Ytobdooojdadgpaa
open Go.RowKit Go.ChangeShapes Go.WideShapes Go.ChangeAt
set_option linter.unusedVariables false

theorem ret_tup {P : World → Prop} {a b c d : Int} {f : FuncId} {args : Array Value} {w : World} (h : Calls Try.prog f args w fun e w' => e = .returned (.tuple #[.int .i64 a, .int .i64 b]) ∧ P w') (e1 : a = c) (e2 : b = d) :
    Calls Try.prog f args w fun e w' => e = .returned (.tuple #[.int .i64 c, .int .i64 d]) ∧ P w' := by subst e1; subst e2; exact h

set_option maxRecDepth 100000 in
set_option maxHeartbeats 4000000 in
theorem clog_numbers (A : Option Addr) (c : Nat) (es : List Int) (w : World) (hrd : Rd w A (es.map (.int .u8))) (hes : ∀ e ∈ es, 0 ≤ e ∧ e ≤ 255) (hc : es.length ≤ c) (hc2 : c ≤ 9223372036854775807) :
    Tells Try.prog 13 #[.slice A es.length c] w := by
  unfold Tells
  have Hes := Lib.hid hes
  clear hes
  by_cases hbig : 90 < es.length
  · go_enter Try.func13, Try.ntmps13
    go_wp2_with fail
    refine (new_any _).mono ?_
    rintro e w1 ⟨rfl, l1, b1⟩
    go_wp2_with fail
    refine (clog_wakes _).mono ?_
    rintro e w2 ⟨rfl, b2⟩
    go_wp2_with fail
    go_ret
    exact ⟨rfl, below_trans b1 b2⟩
  · go_enter Try.func13, Try.ntmps13
    go_wp2_with fail
    refine (new_any _).mono ?_
    rintro e w1 ⟨rfl, l1, b1⟩
    have z1 : w.heap.size < w1.heap.size := l1.lt
    go_wp2_with fail
    go_loopw [4, 5] (fun n i wr => ∃ (k : Nat) (S : LogS), k ≤ es.length ∧ i = .int .i64 k ∧ n = .int .i64 S.clock ∧ LogAt wr w.heap.size S ∧ NumInv es k S ∧ Below w.heap.size w wr) (fun _ i _ => es.length - (intOf i).toNat)
    case atStart => exact ⟨0, LogS.new, Nat.zero_le _, rfl, rfl, l1, numInv_new es, b1⟩
    case round =>
      obtain ⟨k, S, hk, rfl, rfl, hl, hI, hb⟩ := hrel
      have hlen : S.l.length ≤ 90 := by have := hI.len; omega
      have hck0 : 0 ≤ S.clock ∧ S.clock ≤ 90 := by have := hI.clock; have := cnt_le es k; omega
      obtain ⟨hck, hck2⟩ := hck0
      have HI := Lib.hid hI
      clear hI
      by_cases hlt : k < es.length
      · obtain ⟨ad, rfl, hcell⟩ := (hrd.keep hb (Nat.le_refl _)) k (by simpa using hlt)
        simp only [List.getElem_map] at hcell
        obtain ⟨e0, e1⟩ := Hes.out es[k] (List.getElem_mem hlt)
        have Habort := fun r he => Lib.hid (HI.out.abort r hlt he)
        have Hcommit := fun r he => Lib.hid (HI.out.commit r hlt he)
        have Hcell : Hid (∀ W : World, Below w.heap.size w W → W.cell? (ad.add k) = some (.int .u8 es[k])) := Lib.hid fun W hW => by
          obtain ⟨ad', ha, hc'⟩ := (hrd.keep hW (Nat.le_refl _)) k (by simpa using hlt)
          cases ha
          simpa using hc'
        generalize es[k] = x at *
        have hk1 : ((k : Int) + 1).toNat = k + 1 := by omega
        obtain ⟨hr, hrr⟩ : ∃ r : Bool, r = (x % 2 == 1) := ⟨_, rfl⟩
        have Hrr := Lib.hid hrr
        clear hrr
        have T1 := Lib.hid (HI.out.tx_new hr)
        have R1 := Lib.hid (HI.out.runs hr)
        have LK : Hid ((S.begin' hr).l.length = k + 1) := Lib.hid (by rw [len_begin, HI.out.len])
        have hlen2 : (S.begin' hr).l.length ≤ 91 := by have := LK.out; omega
        have C1 : Hid ((S.begin' hr).clock = S.clock) := Lib.hid rfl
        by_cases h3 : x % 3 = 0
        · have h3' : (x % 3 == 0) = true := by simpa using h3
          have NI := Lib.hid ((Habort hr h3).out)
          clear Habort Hcommit h3
          go_wp2_with fail
          rw [← Hrr.out]
          with_reducible refine (ret_tup (c := (k : Int) + 1) (d := 0) (begin_yes w.heap.size hr S wr hl (by omega)) (by rw [HI.out.len]) rfl).mono ?_
          rintro e w2 ⟨rfl, l2, p2⟩
          have b2 := Kp.below hb p2 hb.size (Nat.le_refl _)
          go_wp2_with fail
          with_reducible refine (ret_int (c := S.clock) (snapshot_any w.heap.size _ (S.begin' hr) w2 l2 (by omega)) (by rw [hk1, T1.out])).mono ?_
          rintro e w3 ⟨rfl, b3⟩
          have l3 := l2.below b3
          have d3 := below_trans b2 b3
          go_wp2_with fail
          with_reducible refine (ret_int (c := 1) (state_any w.heap.size _ (S.begin' hr) w3 l3 (by omega)) (by rw [hk1, T1.out])).mono ?_
          rintro e w4 ⟨rfl, b4⟩
          have l4 := l3.below b4
          have d4 := below_trans d3 b4
          have hcell4 := Hcell.out w4 d4
          go_wp2_with fail
          with_reducible refine (abort_yes w.heap.size _ (S.begin' hr) w4 l4 (by omega) R1.out).mono ?_
          rw [hk1]
          rintro e w5 ⟨rfl, l5, p5⟩
          have b5 := Kp.below d4 p5 d4.size (Nat.le_refl _)
          go_wp2_with fail
          with_reducible refine (ret_int (c := 0) (csn_any w.heap.size _ _ w5 l5 (by rw [NI.out.len]; omega)) (by rw [hk1, LogS.abort, tx_put _ _ _ _ (by omega) (by have := LK.out; omega), if_pos rfl, T1.out])).mono ?_
          rintro e w6 ⟨rfl, b6⟩
          have l6 := l5.below b6
          have d6 := below_trans b5 b6
          go_wp2_with fail
          with_reducible refine (ret_int (c := 3) (state_any w.heap.size _ _ w6 l6 (by rw [NI.out.len]; omega)) (by rw [hk1, LogS.abort, tx_put _ _ _ _ (by omega) (by have := LK.out; omega), if_pos rfl])).mono ?_
          rintro e w7 ⟨rfl, b7⟩
          have l7 := l6.below b7
          have d7 := below_trans d6 b7
          go_wp2_with fail
          go_roundw
          case rel => exact ⟨k + 1, (S.begin' hr).abort (k + 1), by omega, by go_num, rfl, l7, NI.out, d7⟩
          case measure => simp [intOf]; omega
        · have h3' : (x % 3 == 0) = false := by simpa using h3
          have NI := Lib.hid ((Hcommit hr h3).out)
          clear Habort Hcommit h3
          go_wp2_with fail
          rw [← Hrr.out]
          with_reducible refine (ret_tup (c := (k : Int) + 1) (d := 0) (begin_yes w.heap.size hr S wr hl (by omega)) (by rw [HI.out.len]) rfl).mono ?_
          rintro e w2 ⟨rfl, l2, p2⟩
          have b2 := Kp.below hb p2 hb.size (Nat.le_refl _)
          go_wp2_with fail
          with_reducible refine (ret_int (c := S.clock) (snapshot_any w.heap.size _ (S.begin' hr) w2 l2 (by omega)) (by rw [hk1, T1.out])).mono ?_
          rintro e w3 ⟨rfl, b3⟩
          have l3 := l2.below b3
          have d3 := below_trans b2 b3
          go_wp2_with fail
          with_reducible refine (ret_int (c := 1) (state_any w.heap.size _ (S.begin' hr) w3 l3 (by omega)) (by rw [hk1, T1.out])).mono ?_
          rintro e w4 ⟨rfl, b4⟩
          have l4 := l3.below b4
          have d4 := below_trans d3 b4
          have hcell4 := Hcell.out w4 d4
          go_wp2_with fail
          with_reducible refine (ret_tup (c := S.clock + 1) (d := 0) (commit_yes w.heap.size _ (S.begin' hr) w4 l4 (by omega) (by have := C1.out; omega) (by have := C1.out; omega) R1.out) rfl rfl).mono ?_
          rw [hk1]
          rintro e w5 ⟨rfl, l5, p5⟩
          have b5 := Kp.below d4 p5 d4.size (Nat.le_refl _)
          go_wp2_with fail
          with_reducible refine (ret_int (c := S.clock + 1) (csn_any w.heap.size _ _ w5 l5 (by rw [NI.out.len]; omega)) (by rw [hk1, LogS.commit, tx_put _ _ _ _ (by omega) (by have := LK.out; omega), if_pos rfl, C1.out])).mono ?_
          rintro e w6 ⟨rfl, b6⟩
          have l6 := l5.below b6
          have d6 := below_trans b5 b6
          go_wp2_with fail
          with_reducible refine (ret_int (c := S.clock + 1) (clock_any w.heap.size _ w6 l6) rfl).mono ?_
          rintro e w7 ⟨rfl, rfl⟩
          go_wp2_with fail
          go_roundw
          case rel => exact ⟨k + 1, (S.begin' hr).commit (k + 1), by omega, by go_num, rfl, l6, NI.out, d6⟩
          case measure => simp [intOf]; omega
      · obtain rfl : k = es.length := by omega
        have Hsees := fun a b h1 h2 => Lib.hid (HI.out.sees a b h1 h2)
        have Hsees' := fun a b h1 h2 => Lib.hid (HI.out.sees' a b h1 h2)
        have Hbes := fun a b h1 h2 => Lib.hid (HI.out.beside a b h1 h2)
        have Hrun := Lib.hid (HI.out.run es.length (Nat.le_refl _))
        have Hlen := Lib.hid HI.out.len
        go_wp2_with fail
        obtain ⟨wo, hwo⟩ : ∃ wo : World, wo = wr := ⟨_, rfl⟩
        subst hwo
        go_loopw [10, 11] (fun i j wr => ∃ k : Nat, k ≤ es.length ∧ i = .int .i64 (k + 1) ∧ LogAt wr w.heap.size S ∧ Below w.heap.size w wr) (fun i _ _ => (es.length + 1 - intOf i).toNat)
        case atStart => exact ⟨0, by omega, rfl, hl, hb⟩
        case round =>
          obtain ⟨a, ha, rfl, hl, hb⟩ := hrel
          by_cases hlt2 : a < es.length
          · go_wp2_with fail
            go_loopw [11] (fun j wr => ∃ b : Nat, b ≤ a ∧ j = .int .i64 (b + 1) ∧ LogAt wr w.heap.size S ∧ Below w.heap.size w wr) (fun j _ => (a + 1 - intOf j).toNat)
            case atStart => exact ⟨0, by omega, rfl, hl, hb⟩
            case round =>
              obtain ⟨b, hb1, rfl, hl, hb⟩ := hrel
              by_cases hlt3 : b < a
              · obtain ⟨ad, rfl, hcell⟩ := (hrd.keep hb (Nat.le_refl _)) b (by simp; omega)
                simp only [List.getElem_map] at hcell
                obtain ⟨e0, e1⟩ := Hes.out (es[b]'(by omega)) (List.getElem_mem (by omega))
                have hs1 := (Hsees a b hlt2 hlt3).out
                have hs2 := (Hsees' a b hlt2 hlt3).out
                have hs3 := (Hbes a b hlt2 hlt3).out
                generalize es[b]'(by omega) = x at *
                have hw1 : IntKind.i64.wrap ((b : Int) + 1 - 1) = b := by rw [IntKind.wrap_i64]; omega
                have hq : (b : Int).toNat = b := by omega
                go_wp2_with fail
                go_quiet ((first | (with_reducible exact sees_q _ _ _ S _ _ _ hl (by have := Hlen.out; omega) hs1) | (with_reducible exact sees_q _ _ _ S _ _ _ hl (by have := Hlen.out; omega) hs2) | (with_reducible exact beside_q _ _ _ S _ _ _ hl (by have := Hlen.out; omega) hs3)))
                go_wp2_with fail
                go_roundw
                case rel => exact ⟨b + 1, by omega, by go_num, hl.drewN _, below_drewN hb _⟩
                case measure => simp [intOf]; omega
              · go_wp2_with fail
                go_roundw
                case rel => exact ⟨a + 1, by omega, by go_num, hl, hb⟩
                case measure => simp [intOf]; omega
          · go_wp2_with fail
            refine (running_any w.heap.size S _ hl (by have := Hlen.out; omega)).mono ?_
            rw [Hlen.out, Hrun.out]
            rintro e w3 ⟨A, c, rfl, hrd3, b3⟩
            have l3 := hl.below b3
            have d3 := below_trans hb b3
            go_wp2_with fail
            refine (ret_int (c := S.clock) (horizon_any w.heap.size S _ l3 (by have := Hlen.out; omega)) (by rw [Hlen.out, Hrun.out]; rfl)).mono ?_
            rintro e w4 ⟨rfl, b4⟩
            go_wp2_with fail
            refine (clog_wakes _).mono ?_
            rintro e w5 ⟨rfl, b5⟩
            go_wp2_with fail
            go_ret
            exact ⟨rfl, below_trans (below_trans d3 b4) b5⟩

theorem cells5 : Try.prog.cellsOf 5 = 1 := by kernel_rfl

set_option maxRecDepth 100000 in
theorem clogNumbers_lifted (os : Os) (started : os.Started) (H : Type) (enc : TypeId × Value → H) :
    ReturnsInHanded {} Try.checked os 13 .any (Rows.clogNumbersSpec.pre6 enc Try.prog Try.f13 [] false) (Rows.clogNumbersSpec.post enc Try.prog Try.f13 false true false false) := by
  refine law_lifted (C := Try.checked) own started (by kernel_rfl) Try.func13
    (ChangeSpec.witness6 (enc := enc) (C := Try.checked) false ⟨#[], #[.slice none 0 0], []⟩ 8 (by kernel_rfl) (by kernel_rfl) (by kernel_rfl) (by kernel_rfl))
    rfl (fun ds h => by match ds, h with | [_], _ => rfl) laid (by kernel_rfl) (tb := 4) rfl Try.underlying4 ?_
  intro W base args ds ps hval hA hsz
  rw [Try.params13] at hA hval hsz
  obtain ⟨v0, d0, rfl, rfl, h0⟩ := trodAll_one hA
  obtain ⟨A, c, es, rfl, hrd, hc, hm, hwf⟩ := open_rd_ints Try.underlying79 Try.underlying5 cells5 (hval 0 79 v0 rfl rfl) h0
  exact clog_numbers A c es W hrd (fun e he => bounds_u8 (hwf e he)) hc (by unfold maxLen at hm; exact hm)

theorem clogNumbers_holds : Rows.ClogNumbersSaid :=
  OpenClaim.holds_of_wide 13 Try.f13 rfl rfl rfl rfl rfl rfl rfl ⟨rfl, rfl, rfl, rfl, rfl⟩ rfl rfl rfl rfl rfl (by kernel_rfl) Try.func13 (by kernel_rfl)
    (of_decide_eq_true (by kernel_rfl)) (by unfold Func.isWrapper; first | (rw [if_pos (by decide +kernel)]; kernel_rfl) | (rw [if_neg (by decide +kernel)]; exact ⟨rfl, rfl⟩))
    (fun os started H enc _ => clogNumbers_lifted os started H enc)
#print axioms clogNumbers_holds
end Go.Proofs.Ytobdooojdadgpaa
