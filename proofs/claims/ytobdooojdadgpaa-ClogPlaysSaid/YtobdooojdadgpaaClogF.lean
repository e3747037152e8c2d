/- Contracts of package clog: Running, Horizon. -/
import Derived.Test.YtobdooojdadgpaaClogE
namespace Go.Proofs.Ytobdooojdadgpaa
open Go.RowKit
set_option linter.unusedVariables false

def LogS.runL (S : LogS) : Nat → List Int
  | 0 => []
  | k + 1 => S.runL k ++ if (S.tx (k + 1)).state == 1 then [(k : Int) + 1] else []

theorem runL_len (S : LogS) (k : Nat) : (S.runL k).length ≤ k := by
  induction k with
  | zero => simp [LogS.runL]
  | succ k ih =>
    unfold LogS.runL
    rw [List.length_append]
    split <;> simp <;> omega

theorem info3 : (Try.prog.info? 3).map (fun i => (i.zero, i.size, i.bytes)) = some (some (.int .i64 0), 1, 8) := by kernel_rfl

theorem Rd.of_own {w : World} {base : Nat} {e : TypeId} {A : Option Addr} {n c : Nat} {xs : List Value} (h : w.ownsRow base e 1 (.slice A n c) n xs) : Rd w A xs := by
  intro i hi
  have hn : 0 < n := by have := h.1; omega
  rcases h.2 with ⟨hv, h0⟩ | ⟨g, cap, cur, hv, _⟩
  · omega
  · have hA : A = some ⟨g, 0, none⟩ := by injection hv
    subst hA
    exact ⟨_, rfl, h.cells (g := g) rfl i _ (List.getElem?_eq_getElem hi)⟩

/-- What Running answers: a list in new memory. -/
def RunEnd (l : List Int) (w : World) (e : Ending) (w' : World) : Prop :=
  ∃ A c, e = .returned (.slice A l.length c) ∧ Rd w' A (l.map (.int .i64)) ∧ Below w.heap.size w w'

theorem slice_of_own {w : World} {base : Nat} {e : TypeId} {v : Value} {n : Nat} {xs : List Value} (h : w.ownsRow base e 1 v n xs) : ∃ A c, v = .slice A n c := by
  rcases h.2 with ⟨hv, h0⟩ | ⟨g, cap, cur, hv, _⟩
  · exact ⟨none, 0, by rw [hv, h0]⟩
  · exact ⟨_, _, hv⟩

theorem runEnd_mk {l : List Int} {w w' : World} {v : Value} (h : w'.ownsRow w.heap.size 3 1 v l.length (l.map (.int .i64))) (hb : Below w.heap.size w w') : RunEnd l w (.returned v) w' := by
  obtain ⟨A, c, rfl⟩ := slice_of_own h
  exact ⟨A, c, rfl, Rd.of_own h, hb⟩

set_option maxRecDepth 100000 in
theorem running_any (g : Nat) (S : LogS) (w : World) (h : LogAt w g S) (hl : S.l.length ≤ 200) : Calls Try.prog 27 #[ptr g] w (RunEnd (S.runL S.l.length) w) := by
  obtain ⟨i0, hi, hz0, hz1, hz2⟩ := info_parts info3
  have hlt := h.lt
  have Hl := Lib.hid h
  have hn := h.n
  generalize hN : S.l.length = N at *
  have HN := Lib.hid hN
  clear hN h
  go_enter Try.func27, Try.ntmps27
  go_wp2
  go_loopw [3, 4] (fun v i wr => ∃ k : Nat, k ≤ N ∧ i = .int .i64 (k + 1) ∧ wr.ownsRow w.heap.size 3 1 v (S.runL k).length ((S.runL k).map (.int .i64)) ∧ Below w.heap.size w wr) (fun _ i _ => (N + 1 - intOf i).toNat)
  case atStart => exact ⟨0, by omega, rfl, World.ownsRow_nil _ _ _ _, Below.refl _ _⟩
  case round =>
    obtain ⟨k, hk, rfl, hown, hb⟩ := hrel
    have h804 : wr.cell? ⟨g, 804, none⟩ = some (.int .i64 N) := (hb.cell (p := ⟨g, 804, none⟩) hlt).trans hn
    by_cases hlt2 : k < N
    · have hst : wr.cell? ⟨g, (k + 1) * 4, none⟩ = some (.int .i64 (S.tx (k + 1)).state) := (hb.cell (p := ⟨g, _, none⟩) hlt).trans (Hl.out.state (k + 1) (by omega))
      have hlen := runL_len S k
      by_cases hs : ((S.tx (k + 1)).state == 1) = true
      · have Hs := Lib.hid (show S.runL (k + 1) = S.runL k ++ [(k : Int) + 1] by rw [LogS.runL, if_pos hs])
        go_wp2_with (at_builtin; refine wpList_append_own _ rfl _ _ 36 rfl w.heap.size 3 i0 (.int .i64 0) 1 8 Try.underlying36 hi hz0 hz1 hz2 rfl (by decide) _ _ _ rfl (hown.alloc _) ⟨wr.heap.size, 0, none⟩ 1 1 [.int .i64 ((k : Int) + 1)] rfl rfl ?c1 ?c2 ?c3 ?c4 ?c5 ?_)
        case c1 => exact cell_one_new _ _ _
        case c2 => simp [Value.oneCell']
        case c3 => unfold maxLen; omega
        case c4 => omega
        case c5 => have := hb.size; simp; omega
        intro v' w1 hown' hgrow _
        have hb1 : Below w.heap.size w w1 := (hb.alloc hb.size _).grown hgrow (by have := hb.size; simp; omega) (fun j hj => (hown.lt j hj).1)
        go_wp2
        go_roundw
        case rel => exact ⟨k + 1, by omega, by go_num, by rw [Hs.out]; simpa using hown', hb1⟩
        case measure => simp [intOf]; omega
      · have hs : ((S.tx (k + 1)).state == 1) = false := by simpa using hs
        have Hs := Lib.hid (show S.runL (k + 1) = S.runL k by rw [LogS.runL, if_neg (by rw [hs]; simp), List.append_nil])
        go_wp2
        go_roundw
        case rel => exact ⟨k + 1, by omega, by go_num, by rw [Hs.out]; exact hown, hb⟩
        case measure => simp [intOf]; omega
    · go_wp2
      go_ret
      obtain rfl : k = N := by omega
      exact runEnd_mk hown hb

theorem running_nil (w : World) : Calls Try.prog 27 #[.pointer none] w (RunEnd [] w) := by
  go_enter Try.func27, Try.ntmps27
  go_wp2
  go_loop [3, 4] (fun v i => v = .slice none 0 0 ∧ i = .int .i64 1) (fun _ _ => 0)
  case atStart => exact ⟨rfl, rfl⟩
  case round =>
    obtain ⟨rfl, rfl⟩ := hrel
    go_wp2
    go_ret
    exact ⟨none, 0, rfl, Rd.nil _ _, Below.refl _ _⟩

theorem runL_rng (S : LogS) (k : Nat) : ∀ x ∈ S.runL k, 1 ≤ x ∧ x ≤ k := by
  induction k with
  | zero => simp [LogS.runL]
  | succ k ih =>
    intro x hx
    unfold LogS.runL at hx
    rw [List.mem_append] at hx
    rcases hx with hx | hx
    · have := ih x hx; omega
    · split at hx
      · simp at hx; omega
      · simp at hx

theorem min_as (a b : Int) : min a b = if b < a then b else a := by
  rw [Int.min_def]; split <;> split <;> omega

def LogS.horL (S : LogS) (l : List Int) : Int := l.foldl (fun m x => min m (S.tx x.toNat).snap) S.clock
theorem horL_take (S : LogS) (l : List Int) (k : Nat) (h : k < l.length) : S.horL (l.take (k + 1)) = min (S.horL (l.take k)) (S.tx l[k].toNat).snap := by
  unfold LogS.horL
  rw [List.take_succ_eq_append_getElem h, List.foldl_append]
  rfl

set_option maxRecDepth 100000 in
theorem horizon_any (g : Nat) (S : LogS) (w : World) (h : LogAt w g S) (hl : S.l.length ≤ 200) : Calls Try.prog 50 #[ptr g] w fun e w' => e = .returned (.int .i64 (S.horL (S.runL S.l.length))) ∧ Below w.heap.size w w' := by
  have hr := Lib.hid (running_any g S w h hl)
  have hc := Lib.hid (clock_any g S w h)
  have hrng := runL_rng S S.l.length
  have hlen := runL_len S S.l.length
  have Hl := Lib.hid h
  have hlt := h.lt
  clear h
  generalize S.runL S.l.length = L at *
  have Hrng := Lib.hid hrng
  clear hrng
  go_enter Try.func50, Try.ntmps50
  go_wp2_with fail
  refine hc.out.mono ?_
  rintro e w' ⟨rfl, rfl⟩
  go_wp2_with fail
  refine hr.out.mono ?_
  rintro e w' ⟨A, c, rfl, hrd, hb⟩
  go_wp2_with fail
  go_loop [3, 11] (fun m i => ∃ k : Nat, k ≤ L.length ∧ i = .int .i64 k ∧ m = .int .i64 (S.horL (L.take k))) (fun _ i => L.length - (intOf i).toNat)
  case atStart => exact ⟨0, Nat.zero_le _, rfl, rfl⟩
  case round =>
    obtain ⟨k, hk, rfl, rfl⟩ := hrel
    by_cases hlt2 : k < L.length
    · obtain ⟨ad, rfl, hcell⟩ := hrd k (by simpa using hlt2)
      simp only [List.getElem_map] at hcell
      obtain ⟨g1, g2⟩ := Hrng.out L[k] (List.getElem_mem hlt2)
      have hsn := (hb.cell (p := ⟨g, _, none⟩) hlt).trans (Hl.out.snap L[k].toNat (by omega))
      have Hs := Lib.hid (horL_take S L k hlt2)
      generalize L[k] = x at *
      go_wp2_with fail
      exact ⟨⟨k + 1, by omega, by go_num, by rw [Hs.out, min_as]⟩, by simp [intOf]; omega⟩
    · go_wp2
      go_ret
      refine ⟨?_, hb⟩
      rw [List.take_of_length_le (by omega)]
      rfl

theorem horizon_nil (w : World) : Calls Try.prog 50 #[.pointer none] w fun e w' => e = .returned (.int .i64 0) ∧ Below w.heap.size w w' := by
  go_enter Try.func50, Try.ntmps50
  go_wp2_with fail
  refine (clock_nil _).mono ?_
  rintro e w' ⟨rfl, rfl⟩
  go_wp2_with fail
  refine (running_nil _).mono ?_
  rintro e w' ⟨A, c, rfl, hrd, hb⟩
  go_wp2_with fail
  go_loop [3, 11] (fun m i => i = .int .i64 0 ∧ m = .int .i64 0) (fun _ i => 0)
  case atStart => exact ⟨rfl, rfl⟩
  case round =>
    obtain ⟨rfl, rfl⟩ := hrel
    go_wp2
    go_ret
    exact ⟨rfl, hb⟩
end Go.Proofs.Ytobdooojdadgpaa
