/- Contract: slices.MinFunc of indexes. -/
import Derived.Test.YtobdooojdadgpaaPlanE
import Derived.Deep.RegionHeld3
namespace Go.Proofs.Ytobdooojdadgpaa
open Go.RowKit
set_option linter.unusedVariables false
abbrev ltS (a b : ByteArray) : Bool := Op.bytesLess a.toList b.toList
theorem less_cmp : ∀ (a b : List UInt8), Op.bytesLess a b = decide (Lib.compareBytes a b < 0)
  | [], [] => rfl
  | a :: x, [] => by simp [Op.bytesLess, Lib.compareBytes]
  | [], b :: y => rfl
  | a :: x, b :: y => by
    unfold Op.bytesLess Lib.compareBytes
    rw [less_cmp x y]
    by_cases h1 : a < b
    · simp [h1]
    · by_cases h2 : b < a
      · have h3 : ¬ a = b := fun e => by subst e; exact h1 h2
        simp [h1, h2, h3]
      · have h3 : a = b := by
          have h1' : ¬ a.toNat < b.toNat := h1
          have h2' : ¬ b.toNat < a.toNat := h2
          exact UInt8.toNat_inj.1 (by omega)
        subst h3
        simp [h1]
theorem ltS_cmp (a b : ByteArray) : ltS a b = decide (Lib.compareBytes a.data.toList b.data.toList < 0) := by
  unfold ltS
  rw [ByteArray.toList_eq, ByteArray.toList_eq]
  exact less_cmp _ _
theorem clo_cmp (a b : Idx) (w : World) : Calls Try.prog 62 #[iv a.name a.col a.uniq a.st, iv b.name b.col b.uniq b.st] w fun e w' => e = .returned (.int .i64 (Lib.compareBytes a.name.data.toList b.name.data.toList)) ∧ Below w.heap.size w w' := by
  go_enter Try.func62, Try.ntmps62
  go_wp2_with (go_at_call 63; refine (compare_any _ _ _).mono ?_; rintro e w' ⟨rfl, rfl⟩)
  go_ret
  exact ⟨rfl, ((Below.refl _ _).alloc (Nat.le_refl _) _).alloc (by simp) _⟩
def minF (m x : Idx) : Idx := if ltS x.name m.name then x else m
/-- The first one of the least name among the first k. -/
def minTo (x0 : Idx) (l : List Idx) (k : Nat) : Idx := (l.take k).foldl minF x0
theorem minTo_succ (x0 : Idx) (l : List Idx) (k : Nat) (h : k < l.length) : minTo x0 l (k + 1) = minF (minTo x0 l k) l[k] := by
  unfold minTo
  rw [List.take_succ_eq_append_getElem h, List.foldl_append]
  rfl
theorem RdI.one (w : World) (x : Idx) : RdI (w.alloc (.cells #[.string x.name, .string x.col, .bool x.uniq, .int .i64 x.st] 60)) (some ⟨w.heap.size, 0, none⟩) [x] := RdL.new Idx.cells_len w 60 [x]
theorem RdI.uno2 (w : World) (o : Obj) (x : Idx) : RdI ((w.alloc o).alloc (.cells #[.string x.name, .string x.col, .bool x.uniq, .int .i64 x.st] 60)) (some ⟨w.heap.size + 1, 0, none⟩) [x] := by
  have h := RdI.one (w.alloc o) x
  have e : (w.alloc o).heap.size = w.heap.size + 1 := by simp
  rw [e] at h
  exact h
theorem RdI.box {w : World} {b : Nat} {x : Idx} (h : RdI w (some ⟨b, 0, none⟩) [x]) : w.cell? ⟨b, 0, none⟩ = some (.string x.name) ∧ w.cell? ⟨b, 1, none⟩ = some (.string x.col) ∧ w.cell? ⟨b, 2, none⟩ = some (.bool x.uniq) ∧
    w.cell? ⟨b, 3, none⟩ = some (.int .i64 x.st) := by
  obtain ⟨ad, e1, q0, q1, q2, q3⟩ := RdI.at h 0 (by simp)
  cases e1
  simp [Addr.add] at q0 q1 q2 q3
  exact ⟨q0, q1, q2, q3⟩
theorem frozen_new (w : World) (cs : Array Value) (t : TypeId) (j : Nat) : (w.alloc (.cells cs t)).frozen? ⟨w.heap.size, j, none⟩ = false := by
  simp [go_sem]
theorem rd_other {α : Type} {f : α → List Value} {k : Nat} {w : World} {b B : Nat} {d : List α} (h : RdL f k w (some ⟨b, 0, none⟩) d) (hne : b ≠ B) (vs : List Value) (o : Nat) : RdL f k (w.setCells B o vs) (some ⟨b, 0, none⟩) d := fun i hi => by
  obtain ⟨ad, e, hc⟩ := h i hi
  cases e
  refine ⟨_, rfl, fun j hj => ?_⟩
  rw [World.cell?_setCells_out B vs o w _ (fun h1 _ => absurd (by rw [← h1, add_block]) hne)]
  exact hc j hj
set_option maxRecDepth 100000 in
set_option maxHeartbeats 2000000 in
theorem min_any (A : Option Addr) (c : Nat) (x0 : Idx) (l : List Idx) (w : World) (h : RdI w A (x0 :: l)) (hl : l.length ≤ 1000) :
    Calls Try.prog 61 #[.slice A (l.length + 1) c, .func (.func 62) #[] #[]] w fun e w' => e = .returned (.agg #[.string (minTo x0 l l.length).name, .string (minTo x0 l l.length).col, .bool (minTo x0 l l.length).uniq, .int .i64 (minTo x0 l l.length).st]) ∧ Below w.heap.size w w' := by
  have HA := Lib.hid h
  have HC := Lib.hid clo_cmp
  obtain ⟨ad, rfl, q0, q1, q2, q3⟩ := RdI.at h 0 (by simp)
  rw [Nat.zero_mul, add_zero'] at q0 q1 q2 q3
  simp only [List.getElem_cons_zero] at q0 q1 q2 q3
  have hblk : ad.block < w.heap.size := World.block_lt_of_cell? _ _ q0
  clear h
  go_enter Try.func61, Try.ntmps61
  go_wp2_with fail
  go_loopw [6] (fun i wr => ∃ k : Nat, 1 ≤ k ∧ k ≤ l.length + 1 ∧ i = .int .i64 k ∧ RdI wr (some ⟨w.heap.size + 1, 0, none⟩) [minTo x0 l (k - 1)] ∧ RdI wr (some ⟨w.heap.size, 0, none⟩) [⟨⟨#[]⟩, ⟨#[]⟩, false, 0⟩] ∧ (∀ t, wr.frozen? ⟨w.heap.size + 1, t, none⟩ = false) ∧ (∀ t, wr.frozen? ⟨w.heap.size, t, none⟩ = false) ∧ Below w.heap.size w wr) (fun i _ => l.length + 1 - (intOf i).toNat)
  case atStart =>
    have b1 : Below w.heap.size w (w.alloc (.cells #[.string ⟨#[]⟩, .string ⟨#[]⟩, .bool false, .int .i64 0] 60)) := (Below.refl _ _).alloc (Nat.le_refl _) _
    refine ⟨1, by omega, by omega, rfl, RdI.uno2 w _ x0, (RdI.one w ⟨⟨#[]⟩, ⟨#[]⟩, false, 0⟩).keep ((Below.refl _ _).alloc (Nat.le_refl _) _) (Nat.le_refl _), fun t => ?_, fun t => ?_, b1.alloc b1.size _⟩
    · have := frozen_new (w.alloc (.cells #[.string ⟨#[]⟩, .string ⟨#[]⟩, .bool false, .int .i64 0] 60)) #[.string x0.name, .string x0.col, .bool x0.uniq, .int .i64 x0.st] 60 t
      have e : (w.alloc (.cells #[.string ⟨#[]⟩, .string ⟨#[]⟩, .bool false, .int .i64 0] 60)).heap.size = w.heap.size + 1 := by simp
      rwa [e] at this
    · have := frozen_new w #[.string ⟨#[]⟩, .string ⟨#[]⟩, .bool false, .int .i64 0] 60 t
      have b2 : Below (w.alloc (.cells #[.string ⟨#[]⟩, .string ⟨#[]⟩, .bool false, .int .i64 0] 60)).heap.size _ ((w.alloc (.cells #[.string ⟨#[]⟩, .string ⟨#[]⟩, .bool false, .int .i64 0] 60)).alloc (.cells #[.string x0.name, .string x0.col, .bool x0.uniq, .int .i64 x0.st] 60)) := (Below.refl _ _).alloc (Nat.le_refl _) _
      exact (b2.frozen (p := ⟨w.heap.size, t, none⟩) (by simp)).trans this
  case round =>
    obtain ⟨k, hk1, hk, rfl, hm, hz, f1, f0, hb⟩ := hrel
    have HZ := Lib.hid hz
    have HF1 := Lib.hid f1
    have HF0 := Lib.hid f0
    have HM := Lib.hid hm
    have hs1 : w.heap.size + 1 < wr.heap.size := World.block_lt_of_cell? _ _ (RdI.box hm).1
    clear hz f1 f0
    by_cases hlt : k < l.length + 1
    · obtain ⟨ad', e, q0, q1, q2, q3⟩ := RdI.at (HA.out.keep hb (Nat.le_refl _)) k (by simpa using hlt)
      cases e
      obtain ⟨m0, m1, m2, m3⟩ := RdI.box hm
      have hx : (x0 :: l)[k]'(by simpa using hlt) = l[k - 1]'(by omega) := by
        obtain ⟨j, rfl⟩ : ∃ j, k = j + 1 := ⟨k - 1, by omega⟩
        simp
      rw [hx] at q0 q1 q2 q3
      have hstep := minTo_succ x0 l (k - 1) (by omega)
      rw [show k - 1 + 1 = k by omega] at hstep
      have hcall := HC.out (l[k - 1]'(by omega)) (minTo x0 l (k - 1))
      have hw1 : IntKind.i64.wrap ((k : Int) + 1) = (k : Int) + 1 := by rw [IntKind.wrap_i64]; omega
      have hlc := ltS_cmp (l[k - 1]'(by omega)).name (minTo x0 l (k - 1)).name
      unfold minF at hstep
      clear hx hm
      generalize l[k - 1]'(by omega) = x at *
      generalize minTo x0 l (k - 1) = m at *
      have hM0 : w.heap.size < wr.heap.size := by omega
      have hM1 : w.heap.size < w.heap.size + 1 := by omega
      generalize w.heap.size + 1 = M at *
      generalize Lib.compareBytes x.name.data.toList m.name.data.toList = cz at *
      by_cases hcz : cz < 0
      · rw [decide_eq_true hcz] at hlc
        rw [hlc, if_pos rfl] at hstep
        have t1 : decide (cz < 0) = true := decide_eq_true hcz
        have Hst := Lib.hid hstep
        clear hstep hlc hcz
        go_wp2_with fail
        refine wp_region_held_drew (S := (fun w' => Below wr.heap.size wr w' ∧ w'.cell? (ad.add (k * 4)) = some (.string x.name) ∧ w'.cell? ⟨(ad.add (k * 4)).block, (ad.add (k * 4)).off + 1, none⟩ = some (.string x.col) ∧ w'.cell? ⟨(ad.add (k * 4)).block, (ad.add (k * 4)).off + 2, none⟩ = some (.bool x.uniq) ∧ w'.cell? ⟨(ad.add (k * 4)).block, (ad.add (k * 4)).off + 3, none⟩ = some (.int .i64 x.st) ∧ w'.cell? ⟨M, 0, none⟩ = some (.string m.name) ∧ w'.cell? ⟨M, 1, none⟩ = some (.string m.col) ∧ w'.cell? ⟨M, 2, none⟩ = some (.bool m.uniq) ∧ w'.cell? ⟨M, 3, none⟩ = some (.int .i64 m.st))) (by kernel_rfl) (⟨(Below.refl _ _).drew, q0, q1, q2, q3, m0, m1, m2, m3⟩) (fun hHeld => ?_)
        (refine wpAnyH_take (i := 0) (oi := { dst := some 20, op := Go.Op.move (Go.Operand.tmp 1), type := 101, pos := _, after := _, guard := none }) (v := ?_) rfl (by kernel_rfl) (by kernel_rfl) (by kernel_rfl) (fun _ _ _ h => h) (Or.inl ⟨by rfl, ?_⟩) (by assumption) ?_; rotate_left; (intro w hSw; (try dsimp only at hSw); go_simp; try with_reducible rfl); try simp only [Act.put, List.setIfInBounds_toArray, List.set_cons_zero, List.set_cons_succ])
        (refine wpAnyH_take (i := 1) (oi := { dst := some 21, op := Go.Op.move (Go.Operand.tmp 0), type := 46, pos := _, after := _, guard := none }) (v := ?_) rfl (by kernel_rfl) (by kernel_rfl) (by kernel_rfl) (fun _ _ _ h => h) (Or.inl ⟨by rfl, ?_⟩) (by assumption) ?_; rotate_left; (intro w hSw; (try dsimp only at hSw); go_simp; try with_reducible rfl); try simp only [Act.put, List.setIfInBounds_toArray, List.set_cons_zero, List.set_cons_succ])
        (refine wpAnyH_take (i := 2) (oi := { dst := some 22, op := Go.Op.move (Go.Operand.tmp 6), type := 3, pos := _, after := _, guard := none }) (v := ?_) rfl (by kernel_rfl) (by kernel_rfl) (by kernel_rfl) (fun _ _ _ h => h) (Or.inl ⟨by rfl, ?_⟩) (by assumption) ?_; rotate_left; (intro w hSw; (try dsimp only at hSw); go_simp; try with_reducible rfl); try simp only [Act.put, List.setIfInBounds_toArray, List.set_cons_zero, List.set_cons_succ])
        (refine wpAnyH_take (i := 3) (oi := { dst := some 23, op := Go.Op.indexAddr 46 (Go.Operand.tmp 21) (Go.Operand.tmp 22), type := 0, pos := _, after := _, guard := none }) (v := ?_) rfl (by kernel_rfl) (by kernel_rfl) (by kernel_rfl) (fun _ _ _ h => h) (Or.inl ⟨by rfl, ?_⟩) (by assumption) ?_; rotate_left; (intro w hSw; (try dsimp only at hSw); go_simp; try with_reducible rfl); try simp only [Act.put, List.setIfInBounds_toArray, List.set_cons_zero, List.set_cons_succ])
        (refine wpAnyH_take (i := 4) (oi := { dst := some 24, op := Go.Op.load 60 (Go.Operand.tmp 23), type := 60, pos := _, after := _, guard := none }) (v := ?_) rfl (by kernel_rfl) (by kernel_rfl) (by kernel_rfl) (fun _ _ _ h => h) (Or.inl ⟨by rfl, ?_⟩) (by assumption) ?_; rotate_left; (intro w hSw; (try dsimp only at hSw); go_simp; try with_reducible rfl); try simp only [Act.put, List.setIfInBounds_toArray, List.set_cons_zero, List.set_cons_succ])
        (refine wpAnyH_take (i := 5) (oi := { dst := some 25, op := Go.Op.load 60 (Go.Operand.tmp 5), type := 60, pos := _, after := _, guard := none }) (v := ?_) rfl (by kernel_rfl) (by kernel_rfl) (by kernel_rfl) (fun _ _ _ h => h) (Or.inl ⟨by rfl, ?_⟩) (by assumption) ?_; rotate_left; (intro w hSw; (try dsimp only at hSw); go_simp; try with_reducible rfl); try simp only [Act.put, List.setIfInBounds_toArray, List.set_cons_zero, List.set_cons_succ])
        refine wpAnyH_ready (rs := [6]) (by kernel_rfl) (by simp) ?_
        refine AllReadyH.cons (o := { dst := some 26, op := Go.Op.call { callee := Go.Callee.value (Go.Operand.tmp 20), args := #[Go.Operand.tmp 24, Go.Operand.tmp 25], argTypes := #[60, 60] }, type := 3, pos := _, after := _, guard := none }) rfl (fun K hK => ?_) AllReadyH.nil
        go_simp
        (refine (hcall _).mono ?_; rintro e w6 ⟨rfl, b6⟩)
        go_wp2_with fail
        refine hK.out _ _ ?_ (fun hHeld2 => ?_)
        · (go_split_ands; exact ⟨Below.trans (by assumption) (b6.mono (Below.size (by assumption))), kc b6 (by assumption), kc b6 (by assumption), kc b6 (by assumption), kc b6 (by assumption), kc b6 (by assumption), kc b6 (by assumption), kc b6 (by assumption), kc b6 (by assumption)⟩)
        clear hK K hHeld
        have hHeld := hHeld2
        clear hHeld2
        try simp only [Act.put, List.setIfInBounds_toArray, List.set_cons_zero, List.set_cons_succ]
        (refine wpAnyH_take (i := 7) (oi := { dst := some 27, op := Go.Op.binOp Go.BinOp.lss 3 (Go.Operand.tmp 26) (Go.Operand.const (Go.Value.int Go.IntKind.i64 0)) 3, type := 4, pos := _, after := _, guard := none }) (v := ?_) rfl (by kernel_rfl) (by kernel_rfl) (by kernel_rfl) (fun _ _ _ h => h) (Or.inl ⟨by rfl, ?_⟩) (by assumption) ?_; rotate_left; (intro w hSw; (try dsimp only at hSw); go_simp; try with_reducible rfl); try simp only [Act.put, List.setIfInBounds_toArray, List.set_cons_zero, List.set_cons_succ])
        refine wpAnyH_done (by kernel_rfl) ?_ _
        obtain ⟨kb, q0, q1, q2, q3, m0, m1, m2, m3⟩ := hHeld
        have b8 := hb.trans (kb.mono hb.size)
        have HM6 := Lib.hid (HM.out.keep kb (Nat.le_refl _))
        have HZ6 := Lib.hid (HZ.out.keep kb (Nat.le_refl _))
        have g1 : ∀ t, _ := fun t => (kb.frozen (p := ⟨M, t, none⟩) hs1).trans (HF1.out t)
        have g0 : ∀ t, _ := fun t => (kb.frozen (p := ⟨w.heap.size, t, none⟩) hM0).trans (HF0.out t)
        have z0 := g1 0
        have z1 := g1 1
        have z2 := g1 2
        have z3 := g1 3
        have G1 := Lib.hid g1
        have G0 := Lib.hid g0
        clear g1 g0 kb
        go_wp2_with fail
        refine ⟨⟨k + 1, by omega, by omega, by go_num, ?_, ?_, fun t => ?_, fun t => ?_, ?_⟩, by simp [intOf]; omega⟩
        · rw [Nat.add_sub_cancel, Hst.out]
          exact rd_set Idx.cells_len HM6.out 0 (by simp) x
        · exact rd_other HZ6.out (by omega) x.cells 0
        · exact (World.frozen?_setCells M x.cells 0 w6 _).trans (G1.out t)
        · exact (World.frozen?_setCells M x.cells 0 w6 _).trans (G0.out t)
        · exact below_setCells b8 (Nat.le_of_lt hM1) x.cells 0 w6 b8
      · rw [decide_eq_false hcz] at hlc
        rw [hlc, if_neg (by simp)] at hstep
        have t1 : decide (cz < 0) = false := decide_eq_false hcz
        have Hst := Lib.hid hstep
        clear hstep hlc hcz
        go_wp2_with fail
        refine wp_region_held_drew (S := (fun w' => Below wr.heap.size wr w' ∧ w'.cell? (ad.add (k * 4)) = some (.string x.name) ∧ w'.cell? ⟨(ad.add (k * 4)).block, (ad.add (k * 4)).off + 1, none⟩ = some (.string x.col) ∧ w'.cell? ⟨(ad.add (k * 4)).block, (ad.add (k * 4)).off + 2, none⟩ = some (.bool x.uniq) ∧ w'.cell? ⟨(ad.add (k * 4)).block, (ad.add (k * 4)).off + 3, none⟩ = some (.int .i64 x.st) ∧ w'.cell? ⟨M, 0, none⟩ = some (.string m.name) ∧ w'.cell? ⟨M, 1, none⟩ = some (.string m.col) ∧ w'.cell? ⟨M, 2, none⟩ = some (.bool m.uniq) ∧ w'.cell? ⟨M, 3, none⟩ = some (.int .i64 m.st))) (by kernel_rfl) (⟨(Below.refl _ _).drew, q0, q1, q2, q3, m0, m1, m2, m3⟩) (fun hHeld => ?_)
        (refine wpAnyH_take (i := 0) (oi := { dst := some 20, op := Go.Op.move (Go.Operand.tmp 1), type := 101, pos := _, after := _, guard := none }) (v := ?_) rfl (by kernel_rfl) (by kernel_rfl) (by kernel_rfl) (fun _ _ _ h => h) (Or.inl ⟨by rfl, ?_⟩) (by assumption) ?_; rotate_left; (intro w hSw; (try dsimp only at hSw); go_simp; try with_reducible rfl); try simp only [Act.put, List.setIfInBounds_toArray, List.set_cons_zero, List.set_cons_succ])
        (refine wpAnyH_take (i := 1) (oi := { dst := some 21, op := Go.Op.move (Go.Operand.tmp 0), type := 46, pos := _, after := _, guard := none }) (v := ?_) rfl (by kernel_rfl) (by kernel_rfl) (by kernel_rfl) (fun _ _ _ h => h) (Or.inl ⟨by rfl, ?_⟩) (by assumption) ?_; rotate_left; (intro w hSw; (try dsimp only at hSw); go_simp; try with_reducible rfl); try simp only [Act.put, List.setIfInBounds_toArray, List.set_cons_zero, List.set_cons_succ])
        (refine wpAnyH_take (i := 2) (oi := { dst := some 22, op := Go.Op.move (Go.Operand.tmp 6), type := 3, pos := _, after := _, guard := none }) (v := ?_) rfl (by kernel_rfl) (by kernel_rfl) (by kernel_rfl) (fun _ _ _ h => h) (Or.inl ⟨by rfl, ?_⟩) (by assumption) ?_; rotate_left; (intro w hSw; (try dsimp only at hSw); go_simp; try with_reducible rfl); try simp only [Act.put, List.setIfInBounds_toArray, List.set_cons_zero, List.set_cons_succ])
        (refine wpAnyH_take (i := 3) (oi := { dst := some 23, op := Go.Op.indexAddr 46 (Go.Operand.tmp 21) (Go.Operand.tmp 22), type := 0, pos := _, after := _, guard := none }) (v := ?_) rfl (by kernel_rfl) (by kernel_rfl) (by kernel_rfl) (fun _ _ _ h => h) (Or.inl ⟨by rfl, ?_⟩) (by assumption) ?_; rotate_left; (intro w hSw; (try dsimp only at hSw); go_simp; try with_reducible rfl); try simp only [Act.put, List.setIfInBounds_toArray, List.set_cons_zero, List.set_cons_succ])
        (refine wpAnyH_take (i := 4) (oi := { dst := some 24, op := Go.Op.load 60 (Go.Operand.tmp 23), type := 60, pos := _, after := _, guard := none }) (v := ?_) rfl (by kernel_rfl) (by kernel_rfl) (by kernel_rfl) (fun _ _ _ h => h) (Or.inl ⟨by rfl, ?_⟩) (by assumption) ?_; rotate_left; (intro w hSw; (try dsimp only at hSw); go_simp; try with_reducible rfl); try simp only [Act.put, List.setIfInBounds_toArray, List.set_cons_zero, List.set_cons_succ])
        (refine wpAnyH_take (i := 5) (oi := { dst := some 25, op := Go.Op.load 60 (Go.Operand.tmp 5), type := 60, pos := _, after := _, guard := none }) (v := ?_) rfl (by kernel_rfl) (by kernel_rfl) (by kernel_rfl) (fun _ _ _ h => h) (Or.inl ⟨by rfl, ?_⟩) (by assumption) ?_; rotate_left; (intro w hSw; (try dsimp only at hSw); go_simp; try with_reducible rfl); try simp only [Act.put, List.setIfInBounds_toArray, List.set_cons_zero, List.set_cons_succ])
        refine wpAnyH_ready (rs := [6]) (by kernel_rfl) (by simp) ?_
        refine AllReadyH.cons (o := { dst := some 26, op := Go.Op.call { callee := Go.Callee.value (Go.Operand.tmp 20), args := #[Go.Operand.tmp 24, Go.Operand.tmp 25], argTypes := #[60, 60] }, type := 3, pos := _, after := _, guard := none }) rfl (fun K hK => ?_) AllReadyH.nil
        go_simp
        (refine (hcall _).mono ?_; rintro e w6 ⟨rfl, b6⟩)
        go_wp2_with fail
        refine hK.out _ _ ?_ (fun hHeld2 => ?_)
        · (go_split_ands; exact ⟨Below.trans (by assumption) (b6.mono (Below.size (by assumption))), kc b6 (by assumption), kc b6 (by assumption), kc b6 (by assumption), kc b6 (by assumption), kc b6 (by assumption), kc b6 (by assumption), kc b6 (by assumption), kc b6 (by assumption)⟩)
        clear hK K hHeld
        have hHeld := hHeld2
        clear hHeld2
        try simp only [Act.put, List.setIfInBounds_toArray, List.set_cons_zero, List.set_cons_succ]
        (refine wpAnyH_take (i := 7) (oi := { dst := some 27, op := Go.Op.binOp Go.BinOp.lss 3 (Go.Operand.tmp 26) (Go.Operand.const (Go.Value.int Go.IntKind.i64 0)) 3, type := 4, pos := _, after := _, guard := none }) (v := ?_) rfl (by kernel_rfl) (by kernel_rfl) (by kernel_rfl) (fun _ _ _ h => h) (Or.inl ⟨by rfl, ?_⟩) (by assumption) ?_; rotate_left; (intro w hSw; (try dsimp only at hSw); go_simp; try with_reducible rfl); try simp only [Act.put, List.setIfInBounds_toArray, List.set_cons_zero, List.set_cons_succ])
        refine wpAnyH_done (by kernel_rfl) ?_ _
        obtain ⟨kb, q0, q1, q2, q3, m0, m1, m2, m3⟩ := hHeld
        have b8 := hb.trans (kb.mono hb.size)
        have HM6 := Lib.hid (HM.out.keep kb (Nat.le_refl _))
        have HZ6 := Lib.hid (HZ.out.keep kb (Nat.le_refl _))
        have G1 : Hid (∀ t, _) := Lib.hid fun t => (kb.frozen (p := ⟨M, t, none⟩) hs1).trans (HF1.out t)
        have G0 : Hid (∀ t, _) := Lib.hid fun t => (kb.frozen (p := ⟨w.heap.size, t, none⟩) hM0).trans (HF0.out t)
        clear kb
        go_wp2_with fail
        exact ⟨⟨k + 1, by omega, by omega, by go_num, by rw [Nat.add_sub_cancel, Hst.out]; exact HM6.out, HZ6.out, G1.out, G0.out, b8⟩, by simp [intOf]; omega⟩
    · obtain rfl : k = l.length + 1 := by omega
      rw [Nat.add_sub_cancel] at hm
      obtain ⟨m, hmm⟩ : ∃ m, minTo x0 l l.length = m := ⟨_, rfl⟩
      rw [hmm] at hm
      have HMM := Lib.hid hmm
      clear hmm
      obtain ⟨m0, m1, m2, m3⟩ := RdI.box hm
      obtain ⟨c0, c1, c2, c3⟩ := RdI.box HZ.out
      have z0 := HF0.out 0
      have z1 := HF0.out 1
      have z2 := HF0.out 2
      have z3 := HF0.out 3
      have hb9 := below_setCells hb (Nat.le_refl _) m.cells 0 wr hb
      have HB9 := Lib.hid hb9
      clear hm HM hb9
      go_wp2_with fail
      refine bodyPost_ret (v := iv m.name m.col m.uniq m.st) (by simp [results, Try.results61, go_sem, c0, c1, c2, c3]) rfl ⟨by rw [HMM.out], HB9.out⟩
end Go.Proofs.Ytobdooojdadgpaa
