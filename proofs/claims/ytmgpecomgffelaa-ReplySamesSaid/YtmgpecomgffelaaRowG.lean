/- What every law of layer 4 ends with. -/
import Derived.Test.YtmgpecomgffelaaRowF
namespace Go.Proofs.Ytmgpecomgffelaa
open Go.RowKit
set_option linter.unusedVariables false
theorem RdL.new {α : Type} {f : α → List Value} {n : Nat} (hn : ∀ a, (f a).length = n) (w : World) (ty : TypeId) (l : List α) : RdL f n (w.alloc (.cells (l.flatMap f).toArray ty)) (Option.some ⟨w.heap.size, 0, none⟩) l := fun i hi => by
  refine ⟨_, rfl, fun j hj => ?_⟩
  rw [cell_new_at rfl, List.getElem?_toArray, flat_at f n hn l i hi j (by rw [← hn l[i]]; exact hj), List.getElem?_eq_getElem hj]
def wc : List Col := [⟨⟨#[97]⟩, 2, false, ⟨0, 0, 0, ⟨#[]⟩⟩⟩, ⟨⟨#[98]⟩, 2, false, ⟨2, 7, 0, ⟨#[]⟩⟩⟩]
def wr1 : List Val := [⟨2, 5, 0, ⟨#[]⟩⟩]
def wr2 : List Val := [⟨1, 0, 0, ⟨#[]⟩⟩]
theorem w_ok0 : tkAt wc wr1 0 = 0 := by decide +kernel
theorem w_ok1 : tkAt wc wr1 1 = 0 := by decide +kernel
theorem w_g0 : nameV ⟨#[97]⟩ = true ∧ (1 : Int) ≤ 2 ∧ (2 : Int) ≤ 4 ∧ goodV 0 0 0 ⟨#[]⟩ = true := by decide +kernel
theorem w_g1 : nameV ⟨#[98]⟩ = true ∧ (1 : Int) ≤ 2 ∧ (2 : Int) ≤ 4 ∧ goodV 2 7 0 ⟨#[]⟩ = true := by decide +kernel
theorem w_f0 : findV ⟨#[97]⟩ wc 0 = 0 := by decide +kernel
theorem w_f1 : findV ⟨#[98]⟩ wc 0 = 1 := by decide +kernel
theorem w_ok : ∀ j, j < wc.length → tkAt wc wr1 j = 0 := fun j hj => by
  have : j = 0 ∨ j = 1 := by simp [wc] at hj; omega
  rcases this with h | h <;> rw [h]
  · exact w_ok0
  · exact w_ok1
theorem w_bad : tkAt wc wr2 0 = 20 := by decide +kernel
theorem w_good : ∀ k (hk : k < wc.length), oneP wc[k] ∧ findV wc[k].name wc 0 = k := fun j hj => by
  have : j = 0 ∨ j = 1 := by simp [wc] at hj; omega
  rcases this with rfl | rfl
  · exact ⟨⟨w_g0.1, w_g0.2.1, w_g0.2.2.1, w_g0.2.2.2, Or.inl rfl⟩, w_f0⟩
  · exact ⟨⟨w_g1.1, w_g1.2.1, w_g1.2.2.1, w_g1.2.2.2, Or.inr rfl⟩, w_f1⟩
theorem w_find1 : findV ⟨#[98]⟩ wc 0 = 1 := by decide +kernel
theorem w_find2 : findV ⟨#[99]⟩ wc 0 = -1 := by decide +kernel
theorem w_pad : padV wc wr1 = [⟨2, 5, 0, ⟨#[]⟩⟩, ⟨2, 7, 0, ⟨#[]⟩⟩] := by rfl

set_option maxRecDepth 100000 in
set_option maxHeartbeats 2000000 in
theorem row_wakes (w : World) : Calls Try.prog 37 #[] w fun e w' => e = .returned (.bool true) ∧ Below w.heap.size w w' := by
  have hst := run_sf
  have HC : Hid (RdC (w.alloc (.cells (wc.flatMap Col.cells).toArray 53)) (some ⟨w.heap.size, 0, none⟩) wc) := Lib.hid (RdL.new Col.cells_len w 53 wc)
  have HV : Hid (∀ W : World, RdV (W.alloc (.cells (wr1.flatMap Val.cells).toArray 24)) (some ⟨W.heap.size, 0, none⟩) wr1) := Lib.hid (fun W => RdL.new Val.cells_len W 24 wr1)
  have HV2 : Hid (∀ W : World, RdV (W.alloc (.cells (wr2.flatMap Val.cells).toArray 24)) (some ⟨W.heap.size, 0, none⟩) wr2) := Lib.hid (fun W => RdL.new Val.cells_len W 24 wr2)
  have b0 : Below w.heap.size w (w.alloc (.cells (wc.flatMap Col.cells).toArray 53)) := (Below.refl _ _).alloc (Nat.le_refl _) _
  have B1 := Lib.hid (b0.alloc b0.size (.cells (wr1.flatMap Val.cells).toArray 24))
  have s1 : w.heap.size + 1 = (w.alloc (.cells (wc.flatMap Col.cells).toArray 53)).heap.size := by simp
  have f1 := fill_ok (some ⟨w.heap.size, 0, none⟩) (some ⟨w.heap.size + 1, 0, none⟩) 2 1 wc wr1 ((w.alloc (.cells (wc.flatMap Col.cells).toArray 53)).alloc (.cells (wr1.flatMap Val.cells).toArray 24)) (HC.out.keep ((Below.refl _ _).alloc (Nat.le_refl _) _) (Nat.le_refl _)) (s1 ▸ HV.out _) (by decide) (by decide) w_ok
  clear s1
  go_enter Try.func37, Try.ntmps37
  go_wp2_with fail
  refine f1.mono ?_
  rintro e w1 ⟨A', c', rfl, hp, _, hb1⟩
  clear f1
  have B2 := Lib.hid (B1.out.trans (hb1.mono B1.out.size))
  have HC1 := Lib.hid ((HC.out.keep ((Below.refl _ _).alloc (Nat.le_refl _) (.cells (wr1.flatMap Val.cells).toArray 24)) (Nat.le_refl _)).keep hb1 (Nat.le_refl _))
  rw [w_pad] at hp
  have hp1 := RdV.at hp 1 (by decide)
  obtain ⟨ad, rfl, q0, q1, q2, q3⟩ := hp1
  have HP := Lib.hid hp
  clear hp hb1 B1 HC
  have f2 := fill_bad (some ⟨w.heap.size, 0, none⟩) (some ⟨w1.heap.size, 0, none⟩) 2 1 wc wr2 (w1.alloc (.cells (wr2.flatMap Val.cells).toArray 24)) (HC1.out.keep ((Below.refl _ _).alloc (Nat.le_refl _) _) (Nat.le_refl _)) (HV2.out _) (by decide) (by decide) 0 (by decide) (fun j hj => absurd hj (by omega)) 20 w_bad (by decide)
  go_wp2_with fail
  refine f2.mono ?_
  rintro e w2 ⟨rfl, hb2⟩
  clear f2
  have hb12 : Below w1.heap.size w1 w2 := below_trans ((Below.refl _ _).alloc (Nat.le_refl _) _) hb2
  have B3 := Lib.hid (B2.out.trans (hb12.mono B2.out.size))
  have HC2 := HC1.out.keep hb12 (Nat.le_refl _)
  have hr1 : w2.cell? ⟨(ad.add (1 * 4)).block, (ad.add (1 * 4)).off + 1, none⟩ = some (.int .i64 7) := (hb12.cell (World.block_lt_of_cell? _ _ q1)).trans q1
  rw [Nat.one_mul] at hr1
  have hr2 : w2.cell? ⟨ad.block, ad.off + 4 + 1, none⟩ = some (.int .i64 7) := by rw [add_pos ad 4 (by decide)] at hr1; exact hr1
  clear q0 q1 q2 q3 hb2 hb12
  have g1 := good_yes (some ⟨w.heap.size, 0, none⟩) 2 wc w2 HC2 (by decide) (by decide) w_good
  go_wp2_with fail
  refine g1.mono ?_
  rintro e w3 ⟨rfl, hb3⟩
  have HC3 := HC2.keep hb3 (Nat.le_refl _)
  have g2 := find_any (some ⟨w.heap.size, 0, none⟩) 2 wc ⟨#[98]⟩ w3 HC3 (by decide)
  rw [w_find1] at g2
  go_wp2_with fail
  refine g2.mono ?_
  rintro e w4 ⟨rfl, hb4⟩
  have HC4 := HC3.keep hb4 (Nat.le_refl _)
  have g3 := find_any (some ⟨w.heap.size, 0, none⟩) 2 wc ⟨#[99]⟩ w4 HC4 (by decide)
  rw [w_find2] at g3
  go_wp2_with fail
  refine g3.mono ?_
  rintro e w5 ⟨rfl, hb5⟩
  have B5 := B3.out.trans ((below_trans (below_trans hb3 hb4) hb5).mono B3.out.size)
  go_wp2_with fail
  go_ret
  exact ⟨rfl, B5⟩
end Go.Proofs.Ytmgpecomgffelaa
