/- Contract: slices.DeleteFunc of indexes. -/
import Derived.Test.YtobdooojdadgpaaPlanC
namespace Go.Proofs.Ytobdooojdadgpaa
open Go.RowKit
set_option linter.unusedVariables false
set_option maxRecDepth 100000 in
theorem delete_none (A : Option Addr) (c : Nat) (l : List Idx) (cl : ByteArray) (g : Nat) (w : World) (h : RdI w A l) (hl : l.length ≤ 1000) (hg : w.cell? ⟨g, 3, none⟩ = some (.string cl)) (hf : fstI cl l 0 = -1) :
    Calls Try.prog 58 #[.slice A l.length c, .func (.func 60) #[] #[.pointer (some ⟨g, 0, none⟩)]] w fun e w' => e = .returned (.slice A l.length c) ∧ Below w.heap.size w w' := by
  have hi := indexI_any A c l cl g w h hl hg
  rw [hf] at hi
  clear h hf
  go_enter Try.func58, Try.ntmps58
  go_wp2_with fail
  refine hi.mono ?_
  rintro e w1 ⟨rfl, b1⟩
  go_wp2_with fail
  go_ret
  exact ⟨rfl, b1⟩
/-- What the row is while it is rewritten. -/
def DelInv (cl : ByteArray) (l : List Idx) (i j : Nat) (d : List Idx) : Prop := i ≤ j ∧ d.length = l.length ∧ d.take i = keepL cl (l.take j) ∧ ∀ m (h : m < l.length), j ≤ m → d[m]? = some l[m]
theorem DelInv.keep {cl : ByteArray} {l : List Idx} {i j : Nat} {d : List Idx} (h : DelInv cl l i j d) (hj : j < l.length) (hk : delV cl l[j] = false) : DelInv cl l (i + 1) (j + 1) (d.set i l[j]) := by
  obtain ⟨a, b, c, e⟩ := h
  refine ⟨by omega, by simpa using b, ?_, fun m hm hjm => ?_⟩
  · rw [keepL_snoc cl l j hj, hk, if_neg (by simp), ← c]
    rw [List.take_succ_eq_append_getElem (by simp; omega)]
    simp [List.take_set_of_le]
  · rw [List.getElem?_set_ne (by omega)]
    exact e m hm (by omega)
theorem DelInv.skip {cl : ByteArray} {l : List Idx} {i j : Nat} {d : List Idx} (h : DelInv cl l i j d) (hj : j < l.length) (hk : delV cl l[j] = true) : DelInv cl l i (j + 1) d := by
  obtain ⟨a, b, c, e⟩ := h
  refine ⟨by omega, b, ?_, fun m hm hjm => e m hm (by omega)⟩
  rw [keepL_snoc cl l j hj, hk, if_pos rfl, List.append_nil, c]
theorem rd_some {α : Type} {f : α → List Value} {k : Nat} {w : World} {B : Nat} (hf : ∀ a, (f a).length = k) (hk : 0 < k) {d : List α} (h : RdL f k w (some ⟨B, 0, none⟩) d) (t : Nat) (ht : t < d.length * k) : (w.cell? ⟨B, t, none⟩).isSome = true := by
  have e : t = t / k * k + t % k := by rw [Nat.mul_comm]; exact (Nat.div_add_mod t k).symm
  rw [e, rd_cell hf h (t / k) ((Nat.div_lt_iff_lt_mul hk).2 ht) (t % k) (Nat.mod_lt t hk)]
  rfl
abbrev zeroI : Value := .agg #[.string ⟨#[]⟩, .string ⟨#[]⟩, .bool false, .int .i64 0]
theorem zero60 (w : World) : (zeroValue 60).run Try.prog w = .ok zeroI w := by kernel_rfl
set_option maxRecDepth 100000 in
set_option maxHeartbeats 2000000 in
theorem delete_some (B c : Nat) (l : List Idx) (cl : ByteArray) (g : Nat) (w : World) (h : RdI w (some ⟨B, 0, none⟩) l) (hfz : ∀ j, w.frozen? ⟨B, j, none⟩ = false) (hl : l.length ≤ 1000) (hc : l.length ≤ c) (hg : w.cell? ⟨g, 3, none⟩ = some (.string cl)) (hgB : g < B) (k0 : Nat) (hk0 : k0 < l.length) (hf : fstI cl l 0 = (k0 : Int)) (hd : delV cl l[k0] = true) (hkp : keepL cl (l.take k0) = l.take k0) :
    Calls Try.prog 58 #[.slice (some ⟨B, 0, none⟩) l.length c, .func (.func 60) #[] #[.pointer (some ⟨g, 0, none⟩)]] w fun e w' => e = .returned (.slice (some ⟨B, 0, none⟩) (keepL cl l).length c) ∧ RdI w' (some ⟨B, 0, none⟩) (keepL cl l) ∧ Below B w w' := by
  have hBs : B < w.heap.size := by
    obtain ⟨ad, e, hh⟩ := h k0 hk0
    cases e
    have := World.block_lt_of_cell? _ _ (hh 0 (by rw [Idx.cells_len]; decide))
    simpa [add_block] using this
  have hi := indexI_any (some ⟨B, 0, none⟩) c l cl g w h hl hg
  rw [hf] at hi
  have HR := Lib.hid h
  have HC := Lib.hid clo_del
  have HFZ := Lib.hid hfz
  have hz1 : ((k0 : Int) == -1) = false := by rw [beq_eq_false_iff_ne]; omega
  have hst0 : DelInv cl l k0 (k0 + 1) l := by
    refine ⟨by omega, rfl, ?_, fun m hm _ => List.getElem?_eq_getElem hm⟩
    rw [keepL_snoc cl l k0 hk0, hd, if_pos rfl, List.append_nil, hkp]
  have HS := Lib.hid hst0
  clear h hf hd hkp hfz hst0
  go_enter Try.func58, Try.ntmps58
  go_wp2_with fail
  refine hi.mono ?_
  rintro e w1 ⟨rfl, b1⟩
  have HR1 := Lib.hid (HR.out.keep b1 (Nat.le_refl _))
  have HZ1 : Hid (∀ j, w1.frozen? ⟨B, j, none⟩ = false) := Lib.hid (fun j => (b1.frozen (p := ⟨B, j, none⟩) hBs).trans (HFZ.out j))
  have B1 := Lib.hid (b1.mono (Nat.le_of_lt hBs))
  have hB1 : B < w1.heap.size := Nat.lt_of_lt_of_le hBs b1.size
  have hg1 := Lib.hid ((b1.cell (p := ⟨g, 3, none⟩) (by show g < w.heap.size; omega)).trans hg)
  clear hi b1 HR HFZ hg
  go_wp2_with fail
  go_loopw [5, 6] (fun iv jv wr => ∃ (i j : Nat) (d : List Idx), iv = .int .i64 i ∧ jv = .int .i64 j ∧ j ≤ l.length ∧ i < j ∧ i < l.length ∧ RdI wr (some ⟨B, 0, none⟩) d ∧ (∀ t, wr.frozen? ⟨B, t, none⟩ = false) ∧ Below B w1 wr ∧ DelInv cl l i j d) (fun _ jv _ => l.length - (intOf jv).toNat)
  case atStart => exact ⟨k0, k0 + 1, l, rfl, by go_num, by omega, by omega, by omega, HR1.out, HZ1.out, Below.refl _ _, HS.out⟩
  case round =>
    obtain ⟨i, j, d, rfl, rfl, hj, hij, hil, hrd, hz, hb, hinv⟩ := hrel
    have HI := Lib.hid hinv
    have HRD := Lib.hid hrd
    have HZ := Lib.hid hz
    have hdl : d.length = l.length := hinv.2.1
    have hBr : B < wr.heap.size := Nat.lt_of_lt_of_le hB1 hb.size
    have hgr : wr.cell? ⟨g, 3, none⟩ = some (.string cl) := (hb.cell (p := ⟨g, 3, none⟩) hgB).trans hg1.out
    by_cases hlt : j < l.length
    · have hdj : d[j]'(by omega) = l[j] := by
        have := hinv.2.2.2 j hlt (Nat.le_refl _)
        rw [List.getElem?_eq_getElem (by omega)] at this
        exact Option.some.inj this
      have e0 : wr.cell? ⟨B, j * 4, none⟩ = some (.string l[j].name) := by have := rd_cell Idx.cells_len hrd j (by omega) 0 (by decide); rw [hdj] at this; exact this
      have e1 : wr.cell? ⟨B, j * 4 + 1, none⟩ = some (.string l[j].col) := by have := rd_cell Idx.cells_len hrd j (by omega) 1 (by decide); rw [hdj] at this; exact this
      have e2 : wr.cell? ⟨B, j * 4 + 2, none⟩ = some (.bool l[j].uniq) := by have := rd_cell Idx.cells_len hrd j (by omega) 2 (by decide); rw [hdj] at this; exact this
      have e3 : wr.cell? ⟨B, j * 4 + 3, none⟩ = some (.int .i64 l[j].st) := by have := rd_cell Idx.cells_len hrd j (by omega) 3 (by decide); rw [hdj] at this; exact this
      have hcall := HC.out cl l[j] g
      cases hs : delV cl l[j] with
      | true =>
        have HI2 := Lib.hid (HI.out.skip hlt hs)
        rw [hs] at hcall
        clear hs hinv hrd hz hdl hdj
        generalize l[j] = x at *
        go_wp2_with fail
        refine (hcall _ (((Below.refl _ _).alloc (Nat.le_refl _) _ |>.cell (p := ⟨g, 3, none⟩) (by show g < wr.heap.size; omega)).trans hgr)).mono ?_
        rintro e w2 ⟨rfl, b2⟩
        have b3 := below_trans ((Below.refl wr.heap.size wr).alloc (Nat.le_refl _) _) b2
        have HRD2 := Lib.hid (HRD.out.keep b3 (Nat.le_refl _))
        have HZ2 : Hid (∀ t, w2.frozen? ⟨B, t, none⟩ = false) := Lib.hid (fun t => (b3.frozen (p := ⟨B, t, none⟩) hBr).trans (HZ.out t))
        have hb2 := hb.trans (b3.mono (Nat.le_of_lt hBr))
        clear b2 b3
        go_wp2_with fail
        exact ⟨⟨i, j + 1, d, rfl, by go_num, by omega, by omega, hil, HRD2.out, HZ2.out, hb2, HI2.out⟩, by simp [intOf]; omega⟩
      | false =>
        have HI2 := Lib.hid (HI.out.keep hlt hs)
        rw [hs] at hcall
        clear hs hinv hrd hz hdj
        have hid : i < d.length := by omega
        have hset := fun (w' : World) (hr : RdI w' (some ⟨B, 0, none⟩) d) => rd_set Idx.cells_len hr i hid l[j]
        have HSET := Lib.hid hset
        clear hset hdl
        generalize l[j] = x at *
        go_wp2_with fail
        refine (hcall _ (((Below.refl _ _).alloc (Nat.le_refl _) _ |>.cell (p := ⟨g, 3, none⟩) (by show g < wr.heap.size; omega)).trans hgr)).mono ?_
        rintro e w2 ⟨rfl, b2⟩
        have b3 := below_trans ((Below.refl wr.heap.size wr).alloc (Nat.le_refl _) _) b2
        have HRD2 := Lib.hid (HRD.out.keep b3 (Nat.le_refl _))
        have HZ2 : Hid (∀ t, w2.frozen? ⟨B, t, none⟩ = false) := Lib.hid (fun t => (b3.frozen (p := ⟨B, t, none⟩) hBr).trans (HZ.out t))
        have hb2 := hb.trans (b3.mono (Nat.le_of_lt hBr))
        have hth := rd_there Idx.cells_len HRD2.out HZ2.out i hid
        have p0 : w2.cell? ⟨wr.heap.size, 0, none⟩ = some (.string x.name) := (b2.cell (p := ⟨wr.heap.size, 0, none⟩) (by simp)).trans (by simp [go_sem])
        have p1 : w2.cell? ⟨wr.heap.size, 1, none⟩ = some (.string x.col) := (b2.cell (p := ⟨wr.heap.size, 1, none⟩) (by simp)).trans (by simp [go_sem])
        have p2 : w2.cell? ⟨wr.heap.size, 2, none⟩ = some (.bool x.uniq) := (b2.cell (p := ⟨wr.heap.size, 2, none⟩) (by simp)).trans (by simp [go_sem])
        have p3 : w2.cell? ⟨wr.heap.size, 3, none⟩ = some (.int .i64 x.st) := (b2.cell (p := ⟨wr.heap.size, 3, none⟩) (by simp)).trans (by simp [go_sem])
        obtain ⟨o0, c0⟩ := Option.isSome_iff_exists.1 (hth 0 (by decide)).1
        obtain ⟨o1, c1⟩ := Option.isSome_iff_exists.1 (hth 1 (by decide)).1
        obtain ⟨o2, c2⟩ := Option.isSome_iff_exists.1 (hth 2 (by decide)).1
        obtain ⟨o3, c3⟩ := Option.isSome_iff_exists.1 (hth 3 (by decide)).1
        have z0 := (hth 0 (by decide)).2
        have z1 := (hth 1 (by decide)).2
        have z2 := (hth 2 (by decide)).2
        have z3 := (hth 3 (by decide)).2
        rw [Nat.add_zero] at c0 z0
        clear b2 b3 hth
        go_wp2_with fail
        have hrd3 := HSET.out w2 HRD2.out
        have hz3 : ∀ t, (w2.setCells B (i * 4) x.cells).frozen? ⟨B, t, none⟩ = false := fun t => by rw [World.frozen?_setCells]; exact HZ2.out t
        have hb3 := below_setCells hb2 (Nat.le_refl _) x.cells (i * 4) w2 hb2
        exact ⟨⟨i + 1, j + 1, d.set i x, by go_num, by go_num, by omega, by omega, by omega, hrd3, hz3, hb3, HI2.out⟩, by simp [intOf]; omega⟩
    · obtain rfl : j = l.length := by omega
      have hlen : (keepL cl l).length = i := by
        have := hinv.2.2.1
        rw [List.take_length] at this
        rw [← this, List.length_take]
        omega
      have hcl : ∀ ty, (Builtin.clear_ #[46] ty #[.slice (some ⟨B, i * 4, none⟩) (l.length - i) (c - i)]).run Try.prog wr = .ok (.tuple #[]) (wr.setCells B (i * 4) (Builtin.zeroCells zeroI.cells (l.length - i)).toList) := fun ty =>
        run_clear_rows wr 46 60 ty zeroI Try.underlying46 zero60 4 rfl (by decide) B (i * 4) (l.length - i) (c - i) (by omega) (fun t ht => rd_some Idx.cells_len (by decide) hrd _ (by rw [hdl]; omega)) (fun t _ => hz _)
      generalize (Builtin.zeroCells zeroI.cells (l.length - i)).toList = zs at *
      have hfin : RdI (wr.setCells B (i * 4) zs) (some ⟨B, 0, none⟩) (keepL cl l) := by
        have h1 := rd_take_set Idx.cells_len hrd i zs
        rw [hinv.2.2.1, List.take_length] at h1
        exact h1
      have HF := Lib.hid hfin
      have HL := Lib.hid hlen
      have hb2 := B1.out.trans (below_setCells hb (Nat.le_refl _) zs (i * 4) wr hb)
      clear hinv hrd hz hfin hlen hdl
      go_wp2_with fail
      go_ret
      exact ⟨by rw [HL.out]; rfl, HF.out, hb2⟩
end Go.Proofs.Ytobdooojdadgpaa
