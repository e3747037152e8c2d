/- The walk of the law ClogBeginning: the call returns true, whatever the steps. -/
import Derived.Test.YtobdooojdadgpaaClogW
import Derived.Test.YtobdooojdadgpaaClogBgP
import Derived.Test.YtobdooojdadgpaaOpen
import Derived.Deep.DeepCutAuto
import Derived.Deep.CutBlock
import Derived.Deep.LoopGhost
namespace Go.Proofs.Ytobdooojdadgpaa
open Go.RowKit Go.ChangeShapes Go.WideShapes Go.ChangeAt
set_option linter.unusedVariables false

structure StepV where
  kind : Int
  xid : Int
  reads : Bool
def StepV.cells (s : StepV) : List Value := [.int .i64 s.kind, .int .i64 s.xid, .bool s.reads]

theorem step_at {w : World} {ad : Addr} {l : List StepV} (h : RdL StepV.cells 3 w (some ad) l) (k : Nat) (hk : k < l.length) :
    w.cell? (ad.add (k * 3)) = some (.int .i64 l[k].kind) ∧ w.cell? ⟨(ad.add (k * 3)).block, (ad.add (k * 3)).off + 1, none⟩ = some (.int .i64 l[k].xid) ∧ w.cell? ⟨(ad.add (k * 3)).block, (ad.add (k * 3)).off + 2, none⟩ = some (.bool l[k].reads) :=
  ⟨h.cell0 k hk (by simp [StepV.cells]), h.cell k hk 1 (by simp [StepV.cells]) (by omega), h.cell k hk 2 (by simp [StepV.cells]) (by omega)⟩

theorem Kp.row {g base : Nat} {w w' : World} {e : TypeId} {size n : Nat} {v : Value} {xs : List Value} (h : w.ownsRow base e size v n xs) (k : Kp g w w') (hg : g < base) : w'.ownsRow base e size v n xs := by
  refine h.kept k ?_
  cases hv : v.ownBlock with
  | none => exact .inl rfl
  | some b => exact .inr (fun e => by have := (h.lt b hv).1; cases e; omega)
theorem Below.row {base : Nat} {w w' : World} {e : TypeId} {size n : Nat} {v : Value} {xs : List Value} (h : w.ownsRow base e size v n xs) (k : Below w.heap.size w w') : w'.ownsRow base e size v n xs :=
  h.kept (row := none) ⟨k.os, k.tape, k.output, k.size, fun i hi _ => k.block i hi⟩ (by cases hv : v.ownBlock <;> simp)

set_option maxRecDepth 100000 in
set_option maxHeartbeats 8000000 in
theorem clog_beginning (A : Option Addr) (c : Nat) (l : List StepV) (w : World) (hrd : RdL StepV.cells 3 w A l) (hc : l.length ≤ c) (hc2 : c ≤ 9223372036854775807) :
    Tells Try.prog 10 #[.slice A l.length c] w := by
  obtain ⟨i0, hi, hz0, hz1, hz2⟩ := info_parts info3
  unfold Tells
  by_cases hbig : 60 < l.length
  · go_enter Try.func10, Try.ntmps10
    go_wp2_with fail
    refine (new_any _).mono ?_
    rintro e w1 ⟨rfl, l1, b1⟩
    go_wp2_with fail
    refine (clog_wakes _).mono ?_
    rintro e w2 ⟨rfl, b2⟩
    go_wp2_with fail
    go_ret
    exact ⟨rfl, below_trans b1 b2⟩
  · go_enter Try.func10, Try.ntmps10
    go_wp2_with fail
    refine (new_any _).mono ?_
    rintro e w1 ⟨rfl, l1, b1⟩
    have z1 : w.heap.size < w1.heap.size := l1.lt
    go_wp2_with fail
    go_loopg [4, 5, 6] l.length (fun g v n i wr => ∃ (k : Nat) (S : LogS) (o : List Int), k ≤ l.length ∧ g = l.length - k ∧ i = .int .i64 k ∧ n = .int .i64 S.l.length ∧ LogAt wr w.heap.size S ∧ BegInv S o ∧ o.length ≤ k ∧ S.l.length ≤ k ∧ wr.ownsRow (w.heap.size + 1) 3 1 v o.length (o.map (.int .i64)) ∧ Below w.heap.size w wr)
    case atStart => exact ⟨0, LogS.new, [], Nat.zero_le _, rfl, rfl, rfl, l1, begInv_new, Nat.le_refl _, Nat.le_refl _, World.ownsRow_nil _ _ _ _, b1⟩
    case round =>
      obtain ⟨k, S, o, hk, hgk, rfl, rfl, hl, hI, ho, hn, hown, hb⟩ := hrel
      have Hgk := Lib.hid hgk
      clear hgk
      have HI := Lib.hid hI
      clear hI
      by_cases hlt : k < l.length
      · obtain ⟨ad, rfl⟩ := hrd.some k hlt
        obtain ⟨q0, q1, q2⟩ := step_at (hrd.keep hb (Nat.le_refl _)) k hlt
        have hzr : w.heap.size < wr.heap.size := hl.lt
        generalize l[k] = x at *
        obtain ⟨kind, xid, reads⟩ := x
        go_upto_block 2 with fail
        have hlW := hl.below ((Below.refl _ _).alloc (Nat.le_refl _) (.cells #[.int .i64 kind, .int .i64 xid, .bool reads] 64))
        have howW := hown.alloc (.cells #[.int .i64 kind, .int .i64 xid, .bool reads] 64)
        have hbW := hb.alloc hb.size (.cells #[.int .i64 kind, .int .i64 xid, .bool reads] 64)
        have x0 : (wr.alloc (.cells #[.int .i64 kind, .int .i64 xid, .bool reads] 64)).cell? ⟨wr.heap.size, 0, none⟩ = some (.int .i64 kind) := by simp
        have x1 : (wr.alloc (.cells #[.int .i64 kind, .int .i64 xid, .bool reads] 64)).cell? ⟨wr.heap.size, 1, none⟩ = some (.int .i64 xid) := by simp
        have x2 : (wr.alloc (.cells #[.int .i64 kind, .int .i64 xid, .bool reads] 64)).cell? ⟨wr.heap.size, 2, none⟩ = some (.bool reads) := by simp
        generalize (wr.alloc (.cells #[.int .i64 kind, .int .i64 xid, .bool reads] 64)) = W0 at *
        generalize wr.heap.size = p at *
        clear hl hown hb q0 q1 q2
        go_cut [4, 5] (fun v n wc => ∃ (S' : LogS) (o' : List Int), n = .int .i64 S'.l.length ∧ LogAt wc w.heap.size S' ∧ BegInv S' o' ∧ o'.length ≤ k + 1 ∧ S'.l.length ≤ k + 1 ∧ wc.ownsRow (w.heap.size + 1) 3 1 v o'.length (o'.map (.int .i64)) ∧ Below w.heap.size w wc)
        case first =>
          by_cases k0 : (kind == 0) = true
          · go_wp2_with fail
            refine (begin_yes w.heap.size reads S W0 hlW (by omega)).mono ?_
            rintro e w2 ⟨rfl, l2, p2⟩
            have b2 := Kp.below hbW p2 hbW.size (Nat.le_refl _)
            have o2 := Kp.row howW p2 (by omega)
            go_wp2_with fail
            go_meet
            case rel => exact ⟨S.begin' reads, o, by rw [len_begin]; go_num, l2, HI.out.begin' reads, by omega, by rw [len_begin]; omega, o2, b2⟩
          · have k0 : (kind == 0) = false := by simpa using k0
            by_cases k1 : (kind == 1) = true
            · by_cases hr : S.runs xid = true
              · have hc0 := HI.out.clock
                have HC := Lib.hid (commit_yes w.heap.size xid S W0 hlW (by omega) (by omega) (by omega) hr)
                have HB := Lib.hid (HI.out.commit xid hr)
                have hlen : Hid ((S.commit xid.toNat).l.length = S.l.length) := Lib.hid (by rw [LogS.commit, len_put])
                clear hr hc0
                go_wp2_with fail
                refine HC.out.mono ?_
                rintro e w2 ⟨rfl, l2, p2⟩
                have b2 := Kp.below hbW p2 hbW.size (Nat.le_refl _)
                have o2 := Kp.row howW p2 (by omega)
                have x1' : w2.cell? ⟨p, 1, none⟩ = some (.int .i64 xid) := p2.cell x1 (fun e => absurd (Option.some.inj e) (Nat.ne_of_gt hzr))
                go_wp2_with (at_builtin; refine wpList_append_own _ rfl _ _ 36 rfl (w.heap.size + 1) 3 i0 (.int .i64 0) 1 8 Try.underlying36 hi hz0 hz1 hz2 rfl (by decide) _ _ _ rfl (o2.alloc _) ⟨w2.heap.size, 0, none⟩ 1 1 [.int .i64 xid] rfl rfl ?c1 ?c2 ?c3 ?c4 ?c5 ?_)
                case c1 => exact cell_one_new _ _ _
                case c2 => simp [Value.oneCell']
                case c3 => unfold maxLen; omega
                case c4 => omega
                case c5 => have := l2.lt; simp; omega
                intro v' w3 o3 g3 _
                have hne : ∀ q, Value.ownBlock _ = some q → w.heap.size + 1 ≤ q := fun q hq => (o2.lt q hq).1
                have b3 : Below w.heap.size w w3 := (b2.alloc b2.size _).grown g3 (by have := l2.lt; simp; omega) (fun j hj => by have := hne j hj; omega)
                have l3 : LogAt w3 w.heap.size (S.commit xid.toNat) := World.rowIs.of_block (World.rowIs.alloc l2 _) (g3.block _ (by have := l2.lt; simp; omega) (fun e => by have := hne _ e.symm; omega))
                go_wp2_with fail
                go_meet
                case rel => exact ⟨S.commit xid.toNat, o ++ [xid], by rw [hlen.out], l3, HB.out, by simp; omega, by rw [hlen.out]; omega, by simpa using o3, b3⟩
              · have hr : S.runs xid = false := by simpa using hr
                have HC := Lib.hid (commit_no w.heap.size xid S W0 hlW (by omega) hr)
                clear hr
                go_wp2_with fail
                refine HC.out.mono ?_
                rintro e w2 ⟨rfl, rfl⟩
                go_wp2_with fail
                go_meet
                case rel => exact ⟨S, o, rfl, hlW, HI.out, by omega, by omega, howW, hbW⟩
            · have k1 : (kind == 1) = false := by simpa using k1
              by_cases k2 : (kind == 2) = true
              · by_cases hr : S.runs xid = true
                · have HC := Lib.hid (abort_yes w.heap.size xid S W0 hlW (by omega) hr)
                  have HB := Lib.hid (HI.out.abort xid hr)
                  have hlen : Hid ((S.abort xid.toNat).l.length = S.l.length) := Lib.hid (by rw [LogS.abort, len_put])
                  clear hr
                  go_wp2_with fail
                  refine HC.out.mono ?_
                  rintro e w2 ⟨rfl, l2, p2⟩
                  have b2 := Kp.below hbW p2 hbW.size (Nat.le_refl _)
                  have o2 := Kp.row howW p2 (by omega)
                  go_wp2_with fail
                  go_meet
                  case rel => exact ⟨S.abort xid.toNat, o, by rw [hlen.out], l2, HB.out, by omega, by rw [hlen.out]; omega, o2, b2⟩
                · have hr : S.runs xid = false := by simpa using hr
                  have HC := Lib.hid (abort_no w.heap.size xid S W0 hlW (by omega) hr)
                  clear hr
                  go_wp2_with fail
                  refine HC.out.mono ?_
                  rintro e w2 ⟨rfl, rfl⟩
                  go_wp2_with fail
                  go_meet
                  case rel => exact ⟨S, o, rfl, hlW, HI.out, by omega, by omega, howW, hbW⟩
              · have k2 : (kind == 2) = false := by simpa using k2
                go_wp2_with fail
                go_meet
                case rel => exact ⟨S, o, rfl, hlW, HI.out, by omega, by omega, howW, hbW⟩
        case rest =>
          clear hlW howW hbW x0 x1 x2 hzr ho hn HI
          obtain ⟨S', o', rfl, hl, hI, ho, hn, hown, hb⟩ := hcut
          obtain ⟨A', c', rfl⟩ := slice_of_own hown
          have HI := Lib.hid hI
          clear hI
          have hor := Rd.of_own hown
          go_wp2_with fail
          go_loopg [12, 13] S'.l.length (fun g la a wr => ∃ (x : Nat) (L : Int), x ≤ S'.l.length ∧ g = S'.l.length - x ∧ a = .int .i64 (x + 1) ∧ la = .int .i64 L ∧ (∀ b, x + 1 ≤ b → b ≤ S'.l.length → L ≤ (S'.tx b).snap) ∧ LogAt wr w.heap.size S' ∧ wr.ownsRow (w.heap.size + 1) 3 1 (.slice A' o'.length c') o'.length (o'.map (.int .i64)) ∧ Below w.heap.size w wr)
          case atStart => exact ⟨0, 0, Nat.zero_le _, rfl, rfl, rfl, fun b h1 h2 => (HI.out.snapc b (by omega) h2).1, hl, hown, hb⟩
          case round =>
            clear hl hown hb hor
            obtain ⟨a, L, ha, hga, rfl, rfl, hL, hl, hown, hb⟩ := hrel
            have Hga := Lib.hid hga
            have HL := Lib.hid hL
            clear hga hL
            by_cases hlt2 : a < S'.l.length
            · have hsl : S'.l.length ≤ 200 := by omega
              have hd79 : decide ((a : Int) + 1 ≤ (S'.l.length : Int)) = true := decide_eq_true (by omega)
              have hsee := fun j (h : j < o'.length) hne => Lib.hid (HI.out.sees ((a : Int) + 1) (by omega) (by omega) j h hne)
              have hka : ((a : Int) + 1).toNat = a + 1 := by omega
              rw [hka] at hsee
              have Hsnap : Hid (∀ W : World, LogAt W w.heap.size S' → Calls Try.prog 40 #[ptr w.heap.size, .int .i64 ((a : Int) + 1)] W fun e w' => e = .returned (.int .i64 (S'.tx (a + 1)).snap) ∧ Below W.heap.size W w') := Lib.hid fun W hW => hka ▸ snapshot_any w.heap.size ((a : Int) + 1) S' W hW hsl
              have hLs := HL.out (a + 1) (by omega) (by omega)
              have hs0 := (HI.out.snapc (a + 1) (by omega) (by omega)).1
              have HL2 : Hid (∀ b, a + 1 + 1 ≤ b → b ≤ S'.l.length → (S'.tx (a + 1)).snap ≤ (S'.tx b).snap) := Lib.hid fun b h1 h2 => HI.out.snap (a + 1) b (by omega) (by omega) h2
              generalize (S'.tx (a + 1)).snap = sn at *
              go_wp2_with fail
              go_loopg [14, 15] o'.length (fun g m j wr => ∃ (k : Nat) (q : Int), k ≤ o'.length ∧ g = o'.length - k ∧ j = .int .i64 k ∧ m = .int .i64 q ∧ 0 ≤ q ∧ q ≤ k ∧ q ≤ sn ∧ LogAt wr w.heap.size S' ∧ wr.ownsRow (w.heap.size + 1) 3 1 (.slice A' o'.length c') o'.length (o'.map (.int .i64)) ∧ Below w.heap.size w wr)
              case atStart => exact ⟨0, 0, Nat.zero_le _, rfl, rfl, rfl, Int.le_refl _, Int.le_refl _, hs0, hl, hown, hb⟩
              case round =>
                clear hl hown hb
                obtain ⟨j, q, hj, hgj, rfl, rfl, hq0, hq1, hq2, hl, hown, hb⟩ := hrel
                have Hgj := Lib.hid hgj
                clear hgj
                by_cases hlt3 : j < o'.length
                · obtain ⟨ad', hA', hcell⟩ := (Rd.of_own hown) j (by simpa using hlt3)
                  subst hA'
                  simp only [List.getElem_map] at hcell
                  by_cases hne : (o'[j] == (a : Int) + 1) = true
                  · have Hne := hne
                    generalize o'[j] = y at *
                    go_wp2_with fail
                    go_roundg (o'.length - (j + 1))
                    case measure => have := Hgj.out; omega
                    case rel => exact ⟨j + 1, q, by omega, rfl, by go_num, rfl, hq0, by omega, hq2, hl, hown, hb⟩
                  · have hne : (o'[j] == (a : Int) + 1) = false := by simpa using hne
                    have hse := (hsee j hlt3 hne).out
                    have Hse := Lib.hid hse
                    clear hse
                    by_cases hks : (j : Int) < sn
                    · have hdj : decide ((j : Int) < sn) = true := decide_eq_true hks
                      have Hsc := Lib.hid (show S'.sees ((a : Int) + 1) o'[j] = true by rw [Hse.out]; exact hdj)
                      clear Hse
                      generalize o'[j] = y at *
                      go_wp2_with fail
                      refine (ret_bool (sees_any w.heap.size _ _ S' wr hl hsl) Hsc.out).mono ?_
                      rintro e w2 ⟨rfl, b2⟩
                      have l2 := hl.below b2
                      have o2 := Below.row hown b2
                      have d2 := below_trans hb b2
                      have c2 := (b2.cell (p := ad'.add j) (World.block_lt_of_cell? _ _ hcell)).trans hcell
                      go_wp2_with fail
                      refine (Hsnap.out w2 l2).mono ?_
                      rintro e w3 ⟨rfl, b3⟩
                      have l3 := l2.below b3
                      have o3 := Below.row o2 b3
                      have d3 := below_trans d2 b3
                      have c3 := (b3.cell (p := ad'.add j) (World.block_lt_of_cell? _ _ c2)).trans c2
                      go_wp2_with fail
                      refine (ret_bool (sees_any w.heap.size _ _ S' w3 l3 hsl) Hsc.out).mono ?_
                      rintro e w4 ⟨rfl, b4⟩
                      have l4 := l3.below b4
                      have o4 := Below.row o3 b4
                      have d4 := below_trans d3 b4
                      go_wp2_with fail
                      go_roundg (o'.length - (j + 1))
                      case measure => have := Hgj.out; omega
                      case rel => exact ⟨j + 1, q + 1, by omega, rfl, by go_num, rfl, by omega, by omega, by omega, l4, o4, d4⟩
                    · have hdj : decide ((j : Int) < sn) = false := decide_eq_false hks
                      have Hsc := Lib.hid (show S'.sees ((a : Int) + 1) o'[j] = false by rw [Hse.out]; exact hdj)
                      clear Hse
                      generalize o'[j] = y at *
                      go_wp2_with fail
                      refine (ret_bool (sees_any w.heap.size _ _ S' wr hl hsl) Hsc.out).mono ?_
                      rintro e w2 ⟨rfl, b2⟩
                      have l2 := hl.below b2
                      have o2 := Below.row hown b2
                      have d2 := below_trans hb b2
                      have c2 := (b2.cell (p := ad'.add j) (World.block_lt_of_cell? _ _ hcell)).trans hcell
                      go_wp2_with fail
                      refine (Hsnap.out w2 l2).mono ?_
                      rintro e w3 ⟨rfl, b3⟩
                      have l3 := l2.below b3
                      have o3 := Below.row o2 b3
                      have d3 := below_trans d2 b3
                      have c3 := (b3.cell (p := ad'.add j) (World.block_lt_of_cell? _ _ c2)).trans c2
                      go_wp2_with fail
                      refine (ret_bool (sees_any w.heap.size _ _ S' w3 l3 hsl) Hsc.out).mono ?_
                      rintro e w4 ⟨rfl, b4⟩
                      have l4 := l3.below b4
                      have o4 := Below.row o3 b4
                      have d4 := below_trans d3 b4
                      go_wp2_with fail
                      go_roundg (o'.length - (j + 1))
                      case measure => have := Hgj.out; omega
                      case rel => exact ⟨j + 1, q, by omega, rfl, by go_num, rfl, hq0, by omega, hq2, l4, o4, d4⟩
                · go_wp2_with fail
                  refine (Hsnap.out wr hl).mono ?_
                  rintro e w2 ⟨rfl, b2⟩
                  have l2 := hl.below b2
                  have o2 := Below.row hown b2
                  have d2 := below_trans hb b2
                  go_wp2_with fail
                  refine (Hsnap.out w2 l2).mono ?_
                  rintro e w3 ⟨rfl, b3⟩
                  have l3 := l2.below b3
                  have o3 := Below.row o2 b3
                  have d3 := below_trans d2 b3
                  go_wp2_with fail
                  refine (Hsnap.out w3 l3).mono ?_
                  rintro e w4 ⟨rfl, b4⟩
                  have l4 := l3.below b4
                  have o4 := Below.row o3 b4
                  have d4 := below_trans d3 b4
                  go_wp2_with fail
                  clear hl hown hb l2 o2 d2 l3 o3 d3 b2 b3 b4
                  go_loopg [16] S'.l.length (fun g bb wr => ∃ (b : Nat), b ≤ S'.l.length ∧ g = S'.l.length - b ∧ bb = .int .i64 (b + 1) ∧ LogAt wr w.heap.size S' ∧ wr.ownsRow (w.heap.size + 1) 3 1 (.slice A' o'.length c') o'.length (o'.map (.int .i64)) ∧ Below w.heap.size w wr)
                  case atStart => exact ⟨0, Nat.zero_le _, rfl, rfl, l4, o4, d4⟩
                  case round =>
                    clear l4 o4 d4
                    obtain ⟨b, hbl, hgb, rfl, hl, hown, hb⟩ := hrel
                    have Hgb := Lib.hid hgb
                    clear hgb
                    by_cases hlt4 : b < S'.l.length
                    · by_cases hs : S'.sees ((a : Int) + 1) ((b : Int) + 1) = true
                      · by_cases hba : a = b
                        · have hba' : ((b : Int) + 1 != (a : Int) + 1) = false := by rw [hba]; simp
                          have Hs := Lib.hid hs
                          clear hs hba
                          go_wp2_with fail
                          refine (ret_bool (sees_any w.heap.size _ _ S' wr hl hsl) Hs.out).mono ?_
                          rintro e w2 ⟨rfl, b2⟩
                          have l2 := hl.below b2
                          have o2 := Below.row hown b2
                          have d2 := below_trans hb b2
                          go_wp2_with fail
                          refine (beside_any w.heap.size _ _ S' w2 l2 hsl).mono ?_
                          rintro e w4 ⟨rfl, b4⟩
                          have l4 := l2.below b4
                          have o4 := Below.row o2 b4
                          have d4 := below_trans d2 b4
                          go_wp2_with fail
                          refine (ret_bool (beside_any w.heap.size _ _ S' w4 l4 hsl) (beside_both S' _ _)).mono ?_
                          rintro e w5 ⟨rfl, b5⟩
                          have l5 := l4.below b5
                          have o5 := Below.row o4 b5
                          have d5 := below_trans d4 b5
                          go_wp2_with fail
                          go_roundg (S'.l.length - (b + 1))
                          case measure => have := Hgb.out; omega
                          case rel => exact ⟨b + 1, by omega, rfl, by go_num, l5, o5, d5⟩
                        · have hba' : ((b : Int) + 1 != (a : Int) + 1) = true := by simp; omega
                          have Hst := Lib.hid (sees_done S' _ _ hs hba')
                          have Hs := Lib.hid hs
                          clear hs hba
                          go_wp2_with fail
                          refine (ret_bool (sees_any w.heap.size _ _ S' wr hl hsl) Hs.out).mono ?_
                          rintro e w2 ⟨rfl, b2⟩
                          have l2 := hl.below b2
                          have o2 := Below.row hown b2
                          have d2 := below_trans hb b2
                          go_wp2_with fail
                          refine (ret_int (c := 2) (state_any w.heap.size _ S' w2 l2 hsl) Hst.out).mono ?_
                          rintro e w3 ⟨rfl, b3⟩
                          have l3 := l2.below b3
                          have o3 := Below.row o2 b3
                          have d3 := below_trans d2 b3
                          go_wp2_with fail
                          refine (beside_any w.heap.size _ _ S' w3 l3 hsl).mono ?_
                          rintro e w4 ⟨rfl, b4⟩
                          have l4 := l3.below b4
                          have o4 := Below.row o3 b4
                          have d4 := below_trans d3 b4
                          go_wp2_with fail
                          refine (ret_bool (beside_any w.heap.size _ _ S' w4 l4 hsl) (beside_both S' _ _)).mono ?_
                          rintro e w5 ⟨rfl, b5⟩
                          have l5 := l4.below b5
                          have o5 := Below.row o4 b5
                          have d5 := below_trans d4 b5
                          go_wp2_with fail
                          go_roundg (S'.l.length - (b + 1))
                          case measure => have := Hgb.out; omega
                          case rel => exact ⟨b + 1, by omega, rfl, by go_num, l5, o5, d5⟩
                      · have hs : S'.sees ((a : Int) + 1) ((b : Int) + 1) = false := by simpa using hs
                        have Hs := Lib.hid hs
                        clear hs
                        go_wp2_with fail
                        refine (ret_bool (sees_any w.heap.size _ _ S' wr hl hsl) Hs.out).mono ?_
                        rintro e w2 ⟨rfl, b2⟩
                        have l2 := hl.below b2
                        have o2 := Below.row hown b2
                        have d2 := below_trans hb b2
                        go_wp2_with fail
                        refine (beside_any w.heap.size _ _ S' w2 l2 hsl).mono ?_
                        rintro e w4 ⟨rfl, b4⟩
                        have l4 := l2.below b4
                        have o4 := Below.row o2 b4
                        have d4 := below_trans d2 b4
                        go_wp2_with fail
                        refine (ret_bool (beside_any w.heap.size _ _ S' w4 l4 hsl) (beside_both S' _ _)).mono ?_
                        rintro e w5 ⟨rfl, b5⟩
                        have l5 := l4.below b5
                        have o5 := Below.row o4 b5
                        have d5 := below_trans d4 b5
                        go_wp2_with fail
                        go_roundg (S'.l.length - (b + 1))
                        case measure => have := Hgb.out; omega
                        case rel => exact ⟨b + 1, by omega, rfl, by go_num, l5, o5, d5⟩
                    · go_wp2_with fail
                      go_roundg (S'.l.length - (a + 1))
                      case measure => have := Hga.out; omega
                      case rel => exact ⟨a + 1, sn, by omega, rfl, by go_num, rfl, HL2.out, hl, hown, hb⟩
            · go_wp2_with fail
              go_roundg (l.length - (k + 1))
              case measure => have := Hgk.out; omega
              case rel => exact ⟨k + 1, S', o', by omega, rfl, by go_num, rfl, hl, HI.out, ho, hn, hown, hb⟩
      · go_wp2_with fail
        refine (clock_any w.heap.size S wr hl).mono ?_
        rintro e w' ⟨rfl, rfl⟩
        have hcl := HI.out.clock
        obtain ⟨A', c', rfl⟩ := slice_of_own hown
        rw [hcl]
        go_wp2_with fail
        refine (clog_wakes _).mono ?_
        rintro e w2 ⟨rfl, b2⟩
        go_wp2_with fail
        go_ret
        exact ⟨rfl, below_trans hb b2⟩
end Go.Proofs.Ytobdooojdadgpaa
