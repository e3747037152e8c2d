/- The walk of the law ClogPlays: the call returns true, whatever the steps. -/
import Derived.Test.YtobdooojdadgpaaClogRs
namespace Go.Proofs.Ytobdooojdadgpaa
open Go.RowKit Go.ChangeShapes Go.WideShapes Go.ChangeAt
set_option linter.unusedVariables false

theorem refAt_new (w : World) : RefAt (w.alloc (.cells #[.slice none 0 0, .int .i64 0] 73)) w.heap.size LogS.new :=
  ⟨.slice none 0 0, World.rowIs_alloc w #[.slice none 0 0, .int .i64 0] 73 _ fun i hi => by
    have : i = 0 ∨ i = 1 := by simp at hi; omega
    rcases this with rfl | rfl <;> rfl, World.ownsRow_nil _ _ _ _⟩

set_option maxRecDepth 100000 in
set_option maxHeartbeats 8000000 in
theorem clog_plays (A : Option Addr) (c : Nat) (l : List StepV) (n0 n1 : Int) (w : World) (hrd : RdL StepV.cells 3 w A l) (hc : l.length ≤ c) (hc2 : c ≤ 9223372036854775807) :
    Tells Try.prog 11 #[.slice A l.length c, .agg #[.int .i64 n0, .int .i64 n1]] w := by
  unfold Tells
  have hbW := (Below.refl w.heap.size w).alloc (Nat.le_refl _) (.cells #[.int .i64 n0, .int .i64 n1] 69)
  have pp0 : (w.alloc (.cells #[.int .i64 n0, .int .i64 n1] 69)).cell? ⟨w.heap.size, 0, none⟩ = some (.int .i64 n0) := by simp
  have pp1 : (w.alloc (.cells #[.int .i64 n0, .int .i64 n1] 69)).cell? ⟨w.heap.size, 1, none⟩ = some (.int .i64 n1) := by simp
  have hsW : (w.alloc (.cells #[.int .i64 n0, .int .i64 n1] 69)).heap.size = w.heap.size + 1 := by simp
  have HN := Lib.hid (new_any (w.alloc (.cells #[.int .i64 n0, .int .i64 n1] 69)))
  rw [hsW] at HN
  by_cases hbig : 300 < l.length
  · go_enter Try.func11, Try.ntmps11
    go_wp2_with fail
    refine HN.out.mono ?_
    rintro e w1 ⟨rfl, l1, b1⟩
    go_wp2_with fail
    refine (clog_wakes _).mono ?_
    rintro e w2 ⟨rfl, b2⟩
    go_wp2_with fail
    go_ret
    have b1' := hbW.trans (b1.mono (Nat.le_succ _))
    exact ⟨rfl, (b1'.alloc b1'.size _).trans (b2.mono (b1'.alloc b1'.size _).size)⟩
  · go_enter Try.func11, Try.ntmps11
    go_wp2_with fail
    refine HN.out.mono ?_
    rintro e w1 ⟨rfl, l1, b1⟩
    have z1 : w.heap.size + 1 < w1.heap.size := l1.lt
    have b1' := hbW.trans (b1.mono (Nat.le_succ _))
    have pq0 := kd b1 (Nat.lt_succ_self w.heap.size) pp0
    have pq1 := kd b1 (Nat.lt_succ_self w.heap.size) pp1
    go_wp2_with fail
    have hbA := (Below.refl w1.heap.size w1).alloc (Nat.le_refl _) (.cells #[.slice none 0 0, .int .i64 0] 73)
    have l1a := l1.below hbA
    have r1a := refAt_new w1
    have b1a := b1'.alloc b1'.size (.cells #[.slice none 0 0, .int .i64 0] 73)
    have pr0 := kc hbA pq0
    have pr1 := kc hbA pq1
    generalize w1.alloc (.cells #[.slice none 0 0, .int .i64 0] 73) = w0 at *
    generalize w1.heap.size = q at *
    clear l1 b1 b1' hbA pp0 pp1 pq0 pq1 hbW hsW HN
    go_loopg [7] l.length (fun gh i wr => ∃ (k : Nat) (S : LogS), k ≤ l.length ∧ gh = l.length - k ∧ i = .int .i64 k ∧ LogAt wr (w.heap.size + 1) S ∧ RefAt wr q S ∧ PInv S k ∧ wr.cell? ⟨w.heap.size, 0, none⟩ = some (.int .i64 n0) ∧ wr.cell? ⟨w.heap.size, 1, none⟩ = some (.int .i64 n1) ∧ Below w.heap.size w wr)
    case atStart => exact ⟨0, LogS.new, Nat.zero_le _, rfl, rfl, l1a, r1a, pinv_new, pr0, pr1, b1a⟩
    case round =>
      clear l1a r1a pr0 pr1 b1a
      obtain ⟨k, S, hk, hgk, rfl, hl, hr, hI, p0, p1, hb⟩ := hrel
      have Hgk := Lib.hid hgk
      clear hgk
      by_cases hlt : k < l.length
      · obtain ⟨ad, rfl⟩ := hrd.some k hlt
        obtain ⟨q0, q1, q2⟩ := step_at (hrd.keep hb (Nat.le_refl _)) k hlt
        generalize l[k] = x at *
        obtain ⟨kind, xid, reads⟩ := x
        dsimp only at q0 q1 q2
        have HP := Lib.hid (play_any (w.heap.size + 1) q k kind xid reads S wr hl hr hI (by omega) z1)
        clear hl hr hI
        by_cases hm : ((k : Int) % 8 != 0) = true
        · by_cases hnx : k + 1 < l.length
          · have dn : decide ((k : Int) + 1 < (l.length : Int)) = true := decide_eq_true (by omega)
            go_wp2_with fail
            refine HP.out.mono ?_
            rintro e w2 ⟨rfl, S', l2, r2, i2, b2⟩
            have d2 := hb.trans (b2.mono (Nat.le_succ _))
            have p02 := kd b2 (Nat.lt_succ_self w.heap.size) p0
            have p12 := kd b2 (Nat.lt_succ_self w.heap.size) p1
            go_wp2_with fail
            go_roundg (l.length - (k + 1))
            case measure => have := Hgk.out; omega
            case rel => exact ⟨k + 1, S', by omega, rfl, by go_num, l2, r2, i2, p02, p12, d2⟩
          · have dn : decide ((k : Int) + 1 < (l.length : Int)) = false := decide_eq_false (by omega)
            go_wp2_with fail
            refine HP.out.mono ?_
            rintro e w2 ⟨rfl, S', l2, r2, i2, b2⟩
            have d2 := hb.trans (b2.mono (Nat.le_succ _))
            have p02 := kd b2 (Nat.lt_succ_self w.heap.size) p0
            have p12 := kd b2 (Nat.lt_succ_self w.heap.size) p1
            clear q0 q1 q2 p0 p1 b2 hb
            go_wp2_with fail
            refine (same_any (w.heap.size + 1) q S' w2 l2 r2 i2.len).mono ?_
            rintro e w3 ⟨rfl, b3⟩
            have l3 := l2.below b3
            have r3 := r2.below b3
            have d3 := d2.trans (b3.mono d2.size)
            have p03 := kc b3 p02
            have p13 := kc b3 p12
            obtain ⟨A3, cc3, c3, _, _, _⟩ := r3.cells
            have hlen := i2.len
            have HS39 := Lib.hid (fun (x y : Int) (W : World) (h : Below w3.heap.size w3 W) => sees_any (w.heap.size + 1) x y S' W (l3.below h) hlen)
            have HS46 := Lib.hid (fun (x y : Int) (W : World) (h : Below w3.heap.size w3 W) => ret_bool (ref_sees q x y S' W (r3.below h) hlen) (i2.sees x y))
            have HS42 := Lib.hid (fun (x y : Int) (W : World) (h : Below w3.heap.size w3 W) => beside_any (w.heap.size + 1) x y S' W (l3.below h) hlen)
            have HS47 := Lib.hid (fun (x y : Int) (W : World) (h : Below w3.heap.size w3 W) => ret_bool (ref_beside q x y S' W (r3.below h) hlen) (i2.beside x y))
            clear l2 r2 d2 p02 p12 b3
            go_wp2_with fail
            go_loopg [8] (12 : Nat) (fun gh av wr => ∃ x : Nat, x ≤ 12 ∧ gh = 12 - x ∧ av = .int .i64 x ∧ Below w3.heap.size w3 wr)
            case atStart => exact ⟨0, by omega, rfl, rfl, Below.refl _ _⟩
            case round =>
              obtain ⟨x, hx, hgx, rfl, hbx⟩ := hrel
              have Hgx := Lib.hid hgx
              clear hgx
              have z0 := kc hbx c3
              by_cases hA : (x : Int) ≤ (S'.l.length : Int) + 1
              · have dA : decide ((x : Int) ≤ (S'.l.length : Int) + 1) = true := decide_eq_true hA
                by_cases hB : x < 12
                · have dB : decide ((x : Int) < 12) = true := decide_eq_true (by omega)
                  go_wp2_with fail
                  go_loopg [9] (12 : Nat) (fun gh bv wr => ∃ y : Nat, y ≤ 12 ∧ gh = 12 - y ∧ bv = .int .i64 y ∧ Below w3.heap.size w3 wr)
                  case atStart => exact ⟨0, by omega, rfl, rfl, hbx⟩
                  case round =>
                    clear hbx z0
                    obtain ⟨y, hy, hgy, rfl, hby⟩ := hrel
                    have Hgy := Lib.hid hgy
                    clear hgy
                    have z0 := kc hby c3
                    by_cases hC : (y : Int) ≤ (S'.l.length : Int) + 1
                    · have dC : decide ((y : Int) ≤ (S'.l.length : Int) + 1) = true := decide_eq_true hC
                      by_cases hD : y < 12
                      · have dD : decide ((y : Int) < 12) = true := decide_eq_true (by omega)
                        have HC39 := Lib.hid (HS39.out x y)
                        have HC46 := Lib.hid (HS46.out x y)
                        have HC42 := Lib.hid (HS42.out x y)
                        have HC47 := Lib.hid (HS47.out x y)
                        generalize S'.sees x y = s1 at *
                        generalize S'.beside x y = s2 at *
                        go_wp2_with fail
                        refine (HC39.out _ hby).mono ?_
                        rintro e w39 ⟨rfl, b39⟩
                        have d39 := hby.trans (b39.mono hby.size)
                        go_wp2_with fail
                        refine (HC46.out _ d39).mono ?_
                        rintro e w46 ⟨rfl, b46⟩
                        have d46 := d39.trans (b46.mono d39.size)
                        go_wp2_with fail
                        refine (HC42.out _ d46).mono ?_
                        rintro e w42 ⟨rfl, b42⟩
                        have d42 := d46.trans (b42.mono d46.size)
                        go_wp2_with fail
                        refine (HC47.out _ d42).mono ?_
                        rintro e w47 ⟨rfl, b47⟩
                        have d47 := d42.trans (b47.mono d42.size)
                        go_wp2_with fail
                        go_roundg (12 - (y + 1))
                        case measure => have := Hgy.out; omega
                        case rel => exact ⟨y + 1, by omega, rfl, by go_num, d47⟩
                      · have dD : decide ((y : Int) < 12) = false := decide_eq_false (by omega)
                        go_wp2_with fail
                        go_roundg (12 - (x + 1))
                        case measure => have := Hgx.out; omega
                        case rel => exact ⟨x + 1, by omega, rfl, by go_num, hby⟩
                    · have dC : decide ((y : Int) ≤ (S'.l.length : Int) + 1) = false := decide_eq_false hC
                      go_wp2_with fail
                      go_roundg (12 - (x + 1))
                      case measure => have := Hgx.out; omega
                      case rel => exact ⟨x + 1, by omega, rfl, by go_num, hby⟩
                · have dB : decide ((x : Int) < 12) = false := decide_eq_false (by omega)
                  go_wp2_with fail
                  go_roundg (l.length - (k + 1))
                  case measure => have := Hgk.out; omega
                  case rel => exact ⟨k + 1, S', by omega, rfl, by go_num, l3.below hbx, r3.below hbx, i2, kc hbx p03, kc hbx p13, d3.trans (hbx.mono d3.size)⟩
              · have dA : decide ((x : Int) ≤ (S'.l.length : Int) + 1) = false := decide_eq_false hA
                go_wp2_with fail
                go_roundg (l.length - (k + 1))
                case measure => have := Hgk.out; omega
                case rel => exact ⟨k + 1, S', by omega, rfl, by go_num, l3.below hbx, r3.below hbx, i2, kc hbx p03, kc hbx p13, d3.trans (hbx.mono d3.size)⟩
        · have hm : ((k : Int) % 8 != 0) = false := by simpa using hm
          go_wp2_with fail
          refine HP.out.mono ?_
          rintro e w2 ⟨rfl, S', l2, r2, i2, b2⟩
          have d2 := hb.trans (b2.mono (Nat.le_succ _))
          have p02 := kd b2 (Nat.lt_succ_self w.heap.size) p0
          have p12 := kd b2 (Nat.lt_succ_self w.heap.size) p1
          clear q0 q1 q2 p0 p1 b2 hb
          go_wp2_with fail
          refine (same_any (w.heap.size + 1) q S' w2 l2 r2 i2.len).mono ?_
          rintro e w3 ⟨rfl, b3⟩
          have l3 := l2.below b3
          have r3 := r2.below b3
          have d3 := d2.trans (b3.mono d2.size)
          have p03 := kc b3 p02
          have p13 := kc b3 p12
          obtain ⟨A3, cc3, c3, _, _, _⟩ := r3.cells
          have hlen := i2.len
          have HS39 := Lib.hid (fun (x y : Int) (W : World) (h : Below w3.heap.size w3 W) => sees_any (w.heap.size + 1) x y S' W (l3.below h) hlen)
          have HS46 := Lib.hid (fun (x y : Int) (W : World) (h : Below w3.heap.size w3 W) => ret_bool (ref_sees q x y S' W (r3.below h) hlen) (i2.sees x y))
          have HS42 := Lib.hid (fun (x y : Int) (W : World) (h : Below w3.heap.size w3 W) => beside_any (w.heap.size + 1) x y S' W (l3.below h) hlen)
          have HS47 := Lib.hid (fun (x y : Int) (W : World) (h : Below w3.heap.size w3 W) => ret_bool (ref_beside q x y S' W (r3.below h) hlen) (i2.beside x y))
          clear l2 r2 d2 p02 p12 b3
          go_wp2_with fail
          go_loopg [8] (12 : Nat) (fun gh av wr => ∃ x : Nat, x ≤ 12 ∧ gh = 12 - x ∧ av = .int .i64 x ∧ Below w3.heap.size w3 wr)
          case atStart => exact ⟨0, by omega, rfl, rfl, Below.refl _ _⟩
          case round =>
            obtain ⟨x, hx, hgx, rfl, hbx⟩ := hrel
            have Hgx := Lib.hid hgx
            clear hgx
            have z0 := kc hbx c3
            by_cases hA : (x : Int) ≤ (S'.l.length : Int) + 1
            · have dA : decide ((x : Int) ≤ (S'.l.length : Int) + 1) = true := decide_eq_true hA
              by_cases hB : x < 12
              · have dB : decide ((x : Int) < 12) = true := decide_eq_true (by omega)
                go_wp2_with fail
                go_loopg [9] (12 : Nat) (fun gh bv wr => ∃ y : Nat, y ≤ 12 ∧ gh = 12 - y ∧ bv = .int .i64 y ∧ Below w3.heap.size w3 wr)
                case atStart => exact ⟨0, by omega, rfl, rfl, hbx⟩
                case round =>
                  clear hbx z0
                  obtain ⟨y, hy, hgy, rfl, hby⟩ := hrel
                  have Hgy := Lib.hid hgy
                  clear hgy
                  have z0 := kc hby c3
                  by_cases hC : (y : Int) ≤ (S'.l.length : Int) + 1
                  · have dC : decide ((y : Int) ≤ (S'.l.length : Int) + 1) = true := decide_eq_true hC
                    by_cases hD : y < 12
                    · have dD : decide ((y : Int) < 12) = true := decide_eq_true (by omega)
                      have HC39 := Lib.hid (HS39.out x y)
                      have HC46 := Lib.hid (HS46.out x y)
                      have HC42 := Lib.hid (HS42.out x y)
                      have HC47 := Lib.hid (HS47.out x y)
                      generalize S'.sees x y = s1 at *
                      generalize S'.beside x y = s2 at *
                      go_wp2_with fail
                      refine (HC39.out _ hby).mono ?_
                      rintro e w39 ⟨rfl, b39⟩
                      have d39 := hby.trans (b39.mono hby.size)
                      go_wp2_with fail
                      refine (HC46.out _ d39).mono ?_
                      rintro e w46 ⟨rfl, b46⟩
                      have d46 := d39.trans (b46.mono d39.size)
                      go_wp2_with fail
                      refine (HC42.out _ d46).mono ?_
                      rintro e w42 ⟨rfl, b42⟩
                      have d42 := d46.trans (b42.mono d46.size)
                      go_wp2_with fail
                      refine (HC47.out _ d42).mono ?_
                      rintro e w47 ⟨rfl, b47⟩
                      have d47 := d42.trans (b47.mono d42.size)
                      go_wp2_with fail
                      go_roundg (12 - (y + 1))
                      case measure => have := Hgy.out; omega
                      case rel => exact ⟨y + 1, by omega, rfl, by go_num, d47⟩
                    · have dD : decide ((y : Int) < 12) = false := decide_eq_false (by omega)
                      go_wp2_with fail
                      go_roundg (12 - (x + 1))
                      case measure => have := Hgx.out; omega
                      case rel => exact ⟨x + 1, by omega, rfl, by go_num, hby⟩
                  · have dC : decide ((y : Int) ≤ (S'.l.length : Int) + 1) = false := decide_eq_false hC
                    go_wp2_with fail
                    go_roundg (12 - (x + 1))
                    case measure => have := Hgx.out; omega
                    case rel => exact ⟨x + 1, by omega, rfl, by go_num, hby⟩
              · have dB : decide ((x : Int) < 12) = false := decide_eq_false (by omega)
                go_wp2_with fail
                go_roundg (l.length - (k + 1))
                case measure => have := Hgk.out; omega
                case rel => exact ⟨k + 1, S', by omega, rfl, by go_num, l3.below hbx, r3.below hbx, i2, kc hbx p03, kc hbx p13, d3.trans (hbx.mono d3.size)⟩
            · have dA : decide ((x : Int) ≤ (S'.l.length : Int) + 1) = false := decide_eq_false hA
              go_wp2_with fail
              go_roundg (l.length - (k + 1))
              case measure => have := Hgk.out; omega
              case rel => exact ⟨k + 1, S', by omega, rfl, by go_num, l3.below hbx, r3.below hbx, i2, kc hbx p03, kc hbx p13, d3.trans (hbx.mono d3.size)⟩
      · have hlen := hI.len
        have HC39 := Lib.hid (fun (W : World) (h : Below wr.heap.size wr W) => sees_any (w.heap.size + 1) n0 n1 S W (hl.below h) hlen)
        have HC46 := Lib.hid (fun (W : World) (h : Below wr.heap.size wr W) => ret_bool (ref_sees q n0 n1 S W (hr.below h) hlen) (hI.sees n0 n1))
        have HC42 := Lib.hid (fun (W : World) (h : Below wr.heap.size wr W) => beside_any (w.heap.size + 1) n0 n1 S W (hl.below h) hlen)
        have HC47 := Lib.hid (fun (W : World) (h : Below wr.heap.size wr W) => ret_bool (ref_beside q n0 n1 S W (hr.below h) hlen) (hI.beside n0 n1))
        have HC28 := Lib.hid (fun (W : World) (h : Below wr.heap.size wr W) => clog_wakes W)
        generalize S.sees n0 n1 = s1 at *
        generalize S.beside n0 n1 = s2 at *
        clear hl hr hI
        go_wp2_with fail
        refine wp_region_held_drew (S := (fun w' => Below wr.heap.size wr w' ∧ w'.cell? ⟨w.heap.size, 0, none⟩ = some (.int .i64 n0) ∧ w'.cell? ⟨w.heap.size, 1, none⟩ = some (.int .i64 n1))) (by kernel_rfl) (⟨(Below.refl _ _).drew, p0, p1⟩) (fun hHeld => ?_)
        (refine wpAnyH_take (i := 0) (oi := { dst := some 101, op := Go.Op.move (Go.Operand.tmp 5), type := 31, pos := _, after := _, guard := none }) (v := ?_) rfl (by kernel_rfl) (by kernel_rfl) (by kernel_rfl) (fun _ _ _ h => h) (Or.inl ⟨by rfl, ?_⟩) (by assumption) ?_; rotate_left; (intro w hSw; (try dsimp only at hSw); go_simp; try with_reducible rfl); try simp only [Act.put, List.setIfInBounds_toArray, List.set_cons_zero, List.set_cons_succ])
        (refine wpAnyH_take (i := 1) (oi := { dst := some 102, op := Go.Op.indexAddr 69 (Go.Operand.tmp 3) (Go.Operand.const (Go.Value.int Go.IntKind.i64 0)), type := 0, pos := _, after := _, guard := none }) (v := ?_) rfl (by kernel_rfl) (by kernel_rfl) (by kernel_rfl) (fun _ _ _ h => h) (Or.inl ⟨by rfl, ?_⟩) (by assumption) ?_; rotate_left; (intro w hSw; (try dsimp only at hSw); go_simp; try with_reducible rfl); try simp only [Act.put, List.setIfInBounds_toArray, List.set_cons_zero, List.set_cons_succ])
        (refine wpAnyH_take (i := 2) (oi := { dst := some 103, op := Go.Op.load 3 (Go.Operand.tmp 102), type := 3, pos := _, after := _, guard := none }) (v := ?_) rfl (by kernel_rfl) (by kernel_rfl) (by kernel_rfl) (fun _ _ _ h => h) (Or.inl ⟨by rfl, ?_⟩) (by assumption) ?_; rotate_left; (intro w hSw; (try dsimp only at hSw); go_simp; try with_reducible rfl); try simp only [Act.put, List.setIfInBounds_toArray, List.set_cons_zero, List.set_cons_succ])
        (refine wpAnyH_take (i := 3) (oi := { dst := some 104, op := Go.Op.indexAddr 69 (Go.Operand.tmp 3) (Go.Operand.const (Go.Value.int Go.IntKind.i64 1)), type := 0, pos := _, after := _, guard := none }) (v := ?_) rfl (by kernel_rfl) (by kernel_rfl) (by kernel_rfl) (fun _ _ _ h => h) (Or.inl ⟨by rfl, ?_⟩) (by assumption) ?_; rotate_left; (intro w hSw; (try dsimp only at hSw); go_simp; try with_reducible rfl); try simp only [Act.put, List.setIfInBounds_toArray, List.set_cons_zero, List.set_cons_succ])
        (refine wpAnyH_take (i := 4) (oi := { dst := some 105, op := Go.Op.load 3 (Go.Operand.tmp 104), type := 3, pos := _, after := _, guard := none }) (v := ?_) rfl (by kernel_rfl) (by kernel_rfl) (by kernel_rfl) (fun _ _ _ h => h) (Or.inl ⟨by rfl, ?_⟩) (by assumption) ?_; rotate_left; (intro w hSw; (try dsimp only at hSw); go_simp; try with_reducible rfl); try simp only [Act.put, List.setIfInBounds_toArray, List.set_cons_zero, List.set_cons_succ])
        (refine wpAnyH_take (i := 6) (oi := { dst := some 107, op := Go.Op.move (Go.Operand.tmp 6), type := 70, pos := _, after := _, guard := none }) (v := ?_) rfl (by kernel_rfl) (by kernel_rfl) (by kernel_rfl) (fun _ _ _ h => h) (Or.inl ⟨by rfl, ?_⟩) (by assumption) ?_; rotate_left; (intro w hSw; (try dsimp only at hSw); go_simp; try with_reducible rfl); try simp only [Act.put, List.setIfInBounds_toArray, List.set_cons_zero, List.set_cons_succ])
        (refine wpAnyH_take (i := 7) (oi := { dst := some 108, op := Go.Op.indexAddr 69 (Go.Operand.tmp 3) (Go.Operand.const (Go.Value.int Go.IntKind.i64 0)), type := 0, pos := _, after := _, guard := none }) (v := ?_) rfl (by kernel_rfl) (by kernel_rfl) (by kernel_rfl) (fun _ _ _ h => h) (Or.inl ⟨by rfl, ?_⟩) (by assumption) ?_; rotate_left; (intro w hSw; (try dsimp only at hSw); go_simp; try with_reducible rfl); try simp only [Act.put, List.setIfInBounds_toArray, List.set_cons_zero, List.set_cons_succ])
        (refine wpAnyH_take (i := 8) (oi := { dst := some 109, op := Go.Op.load 3 (Go.Operand.tmp 108), type := 3, pos := _, after := _, guard := none }) (v := ?_) rfl (by kernel_rfl) (by kernel_rfl) (by kernel_rfl) (fun _ _ _ h => h) (Or.inl ⟨by rfl, ?_⟩) (by assumption) ?_; rotate_left; (intro w hSw; (try dsimp only at hSw); go_simp; try with_reducible rfl); try simp only [Act.put, List.setIfInBounds_toArray, List.set_cons_zero, List.set_cons_succ])
        (refine wpAnyH_take (i := 9) (oi := { dst := some 110, op := Go.Op.indexAddr 69 (Go.Operand.tmp 3) (Go.Operand.const (Go.Value.int Go.IntKind.i64 1)), type := 0, pos := _, after := _, guard := none }) (v := ?_) rfl (by kernel_rfl) (by kernel_rfl) (by kernel_rfl) (fun _ _ _ h => h) (Or.inl ⟨by rfl, ?_⟩) (by assumption) ?_; rotate_left; (intro w hSw; (try dsimp only at hSw); go_simp; try with_reducible rfl); try simp only [Act.put, List.setIfInBounds_toArray, List.set_cons_zero, List.set_cons_succ])
        (refine wpAnyH_take (i := 10) (oi := { dst := some 111, op := Go.Op.load 3 (Go.Operand.tmp 110), type := 3, pos := _, after := _, guard := none }) (v := ?_) rfl (by kernel_rfl) (by kernel_rfl) (by kernel_rfl) (fun _ _ _ h => h) (Or.inl ⟨by rfl, ?_⟩) (by assumption) ?_; rotate_left; (intro w hSw; (try dsimp only at hSw); go_simp; try with_reducible rfl); try simp only [Act.put, List.setIfInBounds_toArray, List.set_cons_zero, List.set_cons_succ])
        refine wpAnyH_ready (rs := [5]) (by kernel_rfl) (by simp) ?_
        refine AllReadyH.cons (o := { dst := some 106, op := Go.Op.call { callee := Go.Callee.value (Go.Operand.func 39), args := #[Go.Operand.tmp 101, Go.Operand.tmp 103, Go.Operand.tmp 105], argTypes := #[31, 3, 3] }, type := 4, pos := _, after := _, guard := none }) rfl (fun K hK => ?_) AllReadyH.nil
        go_simp
        (refine (HC39.out _ (And.left hHeld)).mono ?_; rintro e w39 ⟨rfl, b39⟩)
        go_wp2_with fail
        refine hK.out _ _ ?_ (fun hHeld2 => ?_)
        · (go_split_ands; exact ⟨Below.trans (by assumption) (b39.mono (Below.size (by assumption))), kc b39 (by assumption), kc b39 (by assumption)⟩)
        clear hK K hHeld
        have hHeld := hHeld2
        clear hHeld2
        try simp only [Act.put, List.setIfInBounds_toArray, List.set_cons_zero, List.set_cons_succ]
        refine wpAnyH_ready (rs := [11]) (by kernel_rfl) (by simp) ?_
        refine AllReadyH.cons (o := { dst := some 112, op := Go.Op.call { callee := Go.Callee.value (Go.Operand.func 46), args := #[Go.Operand.tmp 107, Go.Operand.tmp 109, Go.Operand.tmp 111], argTypes := #[70, 3, 3] }, type := 4, pos := _, after := _, guard := none }) rfl (fun K hK => ?_) AllReadyH.nil
        go_simp
        (refine (HC46.out _ (And.left hHeld)).mono ?_; rintro e w46 ⟨rfl, b46⟩)
        go_wp2_with fail
        refine hK.out _ _ ?_ (fun hHeld2 => ?_)
        · (go_split_ands; exact ⟨Below.trans (by assumption) (b46.mono (Below.size (by assumption))), kc b46 (by assumption), kc b46 (by assumption)⟩)
        clear hK K hHeld
        have hHeld := hHeld2
        clear hHeld2
        try simp only [Act.put, List.setIfInBounds_toArray, List.set_cons_zero, List.set_cons_succ]
        (refine wpAnyH_take (i := 12) (oi := { dst := some 113, op := Go.Op.binOp Go.BinOp.eql 4 (Go.Operand.tmp 106) (Go.Operand.tmp 112) 4, type := 4, pos := _, after := _, guard := none }) (v := ?_) rfl (by kernel_rfl) (by kernel_rfl) (by kernel_rfl) (fun _ _ _ h => h) (Or.inl ⟨by rfl, ?_⟩) (by assumption) ?_; rotate_left; (intro w hSw; (try dsimp only at hSw); go_simp; try with_reducible rfl); try simp only [Act.put, List.setIfInBounds_toArray, List.set_cons_zero, List.set_cons_succ])
        (refine wpAnyH_take (i := 13) (oi := { dst := some 114, op := Go.Op.move (Go.Operand.tmp 113), type := 4, pos := _, after := _, guard := none }) (v := ?_) rfl (by kernel_rfl) (by kernel_rfl) (by kernel_rfl) (fun _ _ _ h => h) (Or.inl ⟨by rfl, ?_⟩) (by assumption) ?_; rotate_left; (intro w hSw; (try dsimp only at hSw); go_simp; try with_reducible rfl); try simp only [Act.put, List.setIfInBounds_toArray, List.set_cons_zero, List.set_cons_succ])
        (refine wpAnyH_take (i := 14) (oi := { dst := some 115, op := Go.Op.move (Go.Operand.tmp 5), type := 31, pos := _, after := _, guard := some (13, true) }) (v := ?_) rfl (by kernel_rfl) (by kernel_rfl) (by kernel_rfl) (fun _ _ _ h => h) (Or.inl ⟨by rfl, ?_⟩) (by assumption) ?_; rotate_left; (intro w hSw; (try dsimp only at hSw); go_simp; try with_reducible rfl); try simp only [Act.put, List.setIfInBounds_toArray, List.set_cons_zero, List.set_cons_succ])
        (refine wpAnyH_take (i := 15) (oi := { dst := some 116, op := Go.Op.indexAddr 69 (Go.Operand.tmp 3) (Go.Operand.const (Go.Value.int Go.IntKind.i64 0)), type := 0, pos := _, after := _, guard := some (13, true) }) (v := ?_) rfl (by kernel_rfl) (by kernel_rfl) (by kernel_rfl) (fun _ _ _ h => h) (Or.inl ⟨by rfl, ?_⟩) (by assumption) ?_; rotate_left; (intro w hSw; (try dsimp only at hSw); go_simp; try with_reducible rfl); try simp only [Act.put, List.setIfInBounds_toArray, List.set_cons_zero, List.set_cons_succ])
        (refine wpAnyH_take (i := 16) (oi := { dst := some 117, op := Go.Op.load 3 (Go.Operand.tmp 116), type := 3, pos := _, after := _, guard := some (13, true) }) (v := ?_) rfl (by kernel_rfl) (by kernel_rfl) (by kernel_rfl) (fun _ _ _ h => h) (Or.inl ⟨by rfl, ?_⟩) (by assumption) ?_; rotate_left; (intro w hSw; (try dsimp only at hSw); go_simp; try with_reducible rfl); try simp only [Act.put, List.setIfInBounds_toArray, List.set_cons_zero, List.set_cons_succ])
        (refine wpAnyH_take (i := 17) (oi := { dst := some 118, op := Go.Op.indexAddr 69 (Go.Operand.tmp 3) (Go.Operand.const (Go.Value.int Go.IntKind.i64 1)), type := 0, pos := _, after := _, guard := some (13, true) }) (v := ?_) rfl (by kernel_rfl) (by kernel_rfl) (by kernel_rfl) (fun _ _ _ h => h) (Or.inl ⟨by rfl, ?_⟩) (by assumption) ?_; rotate_left; (intro w hSw; (try dsimp only at hSw); go_simp; try with_reducible rfl); try simp only [Act.put, List.setIfInBounds_toArray, List.set_cons_zero, List.set_cons_succ])
        (refine wpAnyH_take (i := 18) (oi := { dst := some 119, op := Go.Op.load 3 (Go.Operand.tmp 118), type := 3, pos := _, after := _, guard := some (13, true) }) (v := ?_) rfl (by kernel_rfl) (by kernel_rfl) (by kernel_rfl) (fun _ _ _ h => h) (Or.inl ⟨by rfl, ?_⟩) (by assumption) ?_; rotate_left; (intro w hSw; (try dsimp only at hSw); go_simp; try with_reducible rfl); try simp only [Act.put, List.setIfInBounds_toArray, List.set_cons_zero, List.set_cons_succ])
        (refine wpAnyH_take (i := 20) (oi := { dst := some 121, op := Go.Op.move (Go.Operand.tmp 6), type := 70, pos := _, after := _, guard := some (13, true) }) (v := ?_) rfl (by kernel_rfl) (by kernel_rfl) (by kernel_rfl) (fun _ _ _ h => h) (Or.inl ⟨by rfl, ?_⟩) (by assumption) ?_; rotate_left; (intro w hSw; (try dsimp only at hSw); go_simp; try with_reducible rfl); try simp only [Act.put, List.setIfInBounds_toArray, List.set_cons_zero, List.set_cons_succ])
        (refine wpAnyH_take (i := 21) (oi := { dst := some 122, op := Go.Op.indexAddr 69 (Go.Operand.tmp 3) (Go.Operand.const (Go.Value.int Go.IntKind.i64 0)), type := 0, pos := _, after := _, guard := some (13, true) }) (v := ?_) rfl (by kernel_rfl) (by kernel_rfl) (by kernel_rfl) (fun _ _ _ h => h) (Or.inl ⟨by rfl, ?_⟩) (by assumption) ?_; rotate_left; (intro w hSw; (try dsimp only at hSw); go_simp; try with_reducible rfl); try simp only [Act.put, List.setIfInBounds_toArray, List.set_cons_zero, List.set_cons_succ])
        (refine wpAnyH_take (i := 22) (oi := { dst := some 123, op := Go.Op.load 3 (Go.Operand.tmp 122), type := 3, pos := _, after := _, guard := some (13, true) }) (v := ?_) rfl (by kernel_rfl) (by kernel_rfl) (by kernel_rfl) (fun _ _ _ h => h) (Or.inl ⟨by rfl, ?_⟩) (by assumption) ?_; rotate_left; (intro w hSw; (try dsimp only at hSw); go_simp; try with_reducible rfl); try simp only [Act.put, List.setIfInBounds_toArray, List.set_cons_zero, List.set_cons_succ])
        (refine wpAnyH_take (i := 23) (oi := { dst := some 124, op := Go.Op.indexAddr 69 (Go.Operand.tmp 3) (Go.Operand.const (Go.Value.int Go.IntKind.i64 1)), type := 0, pos := _, after := _, guard := some (13, true) }) (v := ?_) rfl (by kernel_rfl) (by kernel_rfl) (by kernel_rfl) (fun _ _ _ h => h) (Or.inl ⟨by rfl, ?_⟩) (by assumption) ?_; rotate_left; (intro w hSw; (try dsimp only at hSw); go_simp; try with_reducible rfl); try simp only [Act.put, List.setIfInBounds_toArray, List.set_cons_zero, List.set_cons_succ])
        (refine wpAnyH_take (i := 24) (oi := { dst := some 125, op := Go.Op.load 3 (Go.Operand.tmp 124), type := 3, pos := _, after := _, guard := some (13, true) }) (v := ?_) rfl (by kernel_rfl) (by kernel_rfl) (by kernel_rfl) (fun _ _ _ h => h) (Or.inl ⟨by rfl, ?_⟩) (by assumption) ?_; rotate_left; (intro w hSw; (try dsimp only at hSw); go_simp; try with_reducible rfl); try simp only [Act.put, List.setIfInBounds_toArray, List.set_cons_zero, List.set_cons_succ])
        refine wpAnyH_ready (rs := [19]) (by kernel_rfl) (by simp) ?_
        refine AllReadyH.cons (o := { dst := some 120, op := Go.Op.call { callee := Go.Callee.value (Go.Operand.func 42), args := #[Go.Operand.tmp 115, Go.Operand.tmp 117, Go.Operand.tmp 119], argTypes := #[31, 3, 3] }, type := 4, pos := _, after := _, guard := some (13, true) }) rfl (fun K hK => ?_) AllReadyH.nil
        go_simp
        (refine (HC42.out _ (And.left hHeld)).mono ?_; rintro e w42 ⟨rfl, b42⟩)
        go_wp2_with fail
        refine hK.out _ _ ?_ (fun hHeld2 => ?_)
        · (go_split_ands; exact ⟨Below.trans (by assumption) (b42.mono (Below.size (by assumption))), kc b42 (by assumption), kc b42 (by assumption)⟩)
        clear hK K hHeld
        have hHeld := hHeld2
        clear hHeld2
        try simp only [Act.put, List.setIfInBounds_toArray, List.set_cons_zero, List.set_cons_succ]
        refine wpAnyH_ready (rs := [25]) (by kernel_rfl) (by simp) ?_
        refine AllReadyH.cons (o := { dst := some 126, op := Go.Op.call { callee := Go.Callee.value (Go.Operand.func 47), args := #[Go.Operand.tmp 121, Go.Operand.tmp 123, Go.Operand.tmp 125], argTypes := #[70, 3, 3] }, type := 4, pos := _, after := _, guard := some (13, true) }) rfl (fun K hK => ?_) AllReadyH.nil
        go_simp
        (refine (HC47.out _ (And.left hHeld)).mono ?_; rintro e w47 ⟨rfl, b47⟩)
        go_wp2_with fail
        refine hK.out _ _ ?_ (fun hHeld2 => ?_)
        · (go_split_ands; exact ⟨Below.trans (by assumption) (b47.mono (Below.size (by assumption))), kc b47 (by assumption), kc b47 (by assumption)⟩)
        clear hK K hHeld
        have hHeld := hHeld2
        clear hHeld2
        try simp only [Act.put, List.setIfInBounds_toArray, List.set_cons_zero, List.set_cons_succ]
        (refine wpAnyH_take (i := 26) (oi := { dst := some 127, op := Go.Op.binOp Go.BinOp.eql 4 (Go.Operand.tmp 120) (Go.Operand.tmp 126) 4, type := 4, pos := _, after := _, guard := some (13, true) }) (v := ?_) rfl (by kernel_rfl) (by kernel_rfl) (by kernel_rfl) (fun _ _ _ h => h) (Or.inl ⟨by rfl, ?_⟩) (by assumption) ?_; rotate_left; (intro w hSw; (try dsimp only at hSw); go_simp; try with_reducible rfl); try simp only [Act.put, List.setIfInBounds_toArray, List.set_cons_zero, List.set_cons_succ])
        (refine wpAnyH_take (i := 27) (oi := { dst := some 128, op := Go.Op.pick (Go.Operand.tmp 114) (Go.Operand.tmp 127) (Go.Operand.const (Go.Value.bool false)), type := 4, pos := _, after := _, guard := none }) (v := ?_) rfl (by kernel_rfl) (by kernel_rfl) (by kernel_rfl) (fun _ _ _ h => h) (Or.inl ⟨by rfl, ?_⟩) (by assumption) ?_; rotate_left; (intro w hSw; (try dsimp only at hSw); go_simp; try with_reducible rfl); try simp only [Act.put, List.setIfInBounds_toArray, List.set_cons_zero, List.set_cons_succ])
        (refine wpAnyH_take (i := 28) (oi := { dst := some 129, op := Go.Op.move (Go.Operand.tmp 128), type := 4, pos := _, after := _, guard := none }) (v := ?_) rfl (by kernel_rfl) (by kernel_rfl) (by kernel_rfl) (fun _ _ _ h => h) (Or.inl ⟨by rfl, ?_⟩) (by assumption) ?_; rotate_left; (intro w hSw; (try dsimp only at hSw); go_simp; try with_reducible rfl); try simp only [Act.put, List.setIfInBounds_toArray, List.set_cons_zero, List.set_cons_succ])
        refine wpAnyH_ready (rs := [29]) (by kernel_rfl) (by simp) ?_
        refine AllReadyH.cons (o := { dst := some 130, op := Go.Op.call { callee := Go.Callee.value (Go.Operand.func 28), args := #[], argTypes := #[] }, type := 4, pos := _, after := _, guard := some (28, true) }) rfl (fun K hK => ?_) AllReadyH.nil
        go_simp
        (refine (HC28.out _ (And.left hHeld)).mono ?_; rintro e w28 ⟨rfl, b28⟩)
        go_wp2_with fail
        refine hK.out _ _ ?_ (fun hHeld2 => ?_)
        · (go_split_ands; exact ⟨Below.trans (by assumption) (b28.mono (Below.size (by assumption))), kc b28 (by assumption), kc b28 (by assumption)⟩)
        clear hK K hHeld
        have hHeld := hHeld2
        clear hHeld2
        try simp only [Act.put, List.setIfInBounds_toArray, List.set_cons_zero, List.set_cons_succ]
        (refine wpAnyH_take (i := 30) (oi := { dst := some 131, op := Go.Op.pick (Go.Operand.tmp 129) (Go.Operand.tmp 130) (Go.Operand.const (Go.Value.bool false)), type := 4, pos := _, after := _, guard := none }) (v := ?_) rfl (by kernel_rfl) (by kernel_rfl) (by kernel_rfl) (fun _ _ _ h => h) (Or.inl ⟨by rfl, ?_⟩) (by assumption) ?_; rotate_left; (intro w hSw; (try dsimp only at hSw); go_simp; try with_reducible rfl); try simp only [Act.put, List.setIfInBounds_toArray, List.set_cons_zero, List.set_cons_succ])
        (refine wpAnyH_take (i := 31) (oi := { dst := some 4, op := Go.Op.assign (Go.Operand.tmp 131), type := 4, pos := _, after := _, guard := none }) (v := ?_) rfl (by kernel_rfl) (by kernel_rfl) (by kernel_rfl) (fun _ _ _ h => h) (Or.inl ⟨by rfl, ?_⟩) (by assumption) ?_; rotate_left; (intro w hSw; (try dsimp only at hSw); go_simp; try with_reducible rfl); try simp only [Act.put, List.setIfInBounds_toArray, List.set_cons_zero, List.set_cons_succ])
        refine wpAnyH_done (by kernel_rfl) ?_ _
        have hbE := And.left hHeld
        clear hHeld
        go_wp2_with fail
        go_ret
        exact ⟨rfl, hb.trans (hbE.mono hb.size)⟩
end Go.Proofs.Ytobdooojdadgpaa
