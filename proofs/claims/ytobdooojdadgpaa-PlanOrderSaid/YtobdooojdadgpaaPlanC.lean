/- Contracts: slices.Clone, IndexFunc, DeleteFunc of indexes. -/
import Derived.Test.YtobdooojdadgpaaPlanA
import Derived.Test.YtobdooojdadgpaaPlanB
namespace Go.Proofs.Ytobdooojdadgpaa
open Go.RowKit
set_option linter.unusedVariables false
/-- Is an index none that serves? -/
def delV (cl : ByteArray) (x : Idx) : Bool := !(sq x.col cl) || !(x.st == 3)
set_option maxRecDepth 100000 in
theorem clo_del (cl : ByteArray) (x : Idx) (g : Nat) (w : World) (hg : w.cell? ⟨g, 3, none⟩ = some (.string cl)) : Calls Try.prog 60 #[iv x.name x.col x.uniq x.st, .pointer (some ⟨g, 0, none⟩)] w fun e w' => e = .returned (.bool (delV cl x)) ∧ Below w.heap.size w w' := by
  have hlt : g < w.heap.size := World.block_lt_of_cell? _ _ hg
  have hv : delV cl x = (!(sq x.col cl) || !(x.st == 3)) := rfl
  rw [hv]
  clear hv
  cases hc : sq x.col cl with
  | true =>
    have hc2 : (x.col.toList != cl.toList) = false := by show (!(sq x.col cl)) = _; rw [hc]; rfl
    go_enter Try.func60, Try.ntmps60
    go_wp2_with fail
    all_goals
      go_ret
      exact ⟨rfl, (Below.refl _ _).alloc (Nat.le_refl _) _⟩
  | false =>
    have hc2 : (x.col.toList != cl.toList) = true := by show (!(sq x.col cl)) = _; rw [hc]; rfl
    go_enter Try.func60, Try.ntmps60
    go_wp2_with fail
    all_goals
      go_ret
      exact ⟨rfl, (Below.refl _ _).alloc (Nat.le_refl _) _⟩
def fstI (cl : ByteArray) : List Idx → Nat → Int
  | [], _ => -1
  | x :: l, i => if delV cl x then (i : Int) else fstI cl l (i + 1)
theorem fstI_drop (cl : ByteArray) (l : List Idx) (k : Nat) (h : k < l.length) : fstI cl (l.drop k) k = if delV cl l[k] then (k : Int) else fstI cl (l.drop (k + 1)) (k + 1) := by
  rw [List.drop_eq_getElem_cons h]
  rfl
set_option maxRecDepth 100000 in
theorem indexI_any (A : Option Addr) (c : Nat) (l : List Idx) (cl : ByteArray) (g : Nat) (w : World) (h : RdI w A l) (hl : l.length ≤ 1000) (hg : w.cell? ⟨g, 3, none⟩ = some (.string cl)) : Calls Try.prog 80 #[.slice A l.length c, .func (.func 60) #[] #[.pointer (some ⟨g, 0, none⟩)]] w fun e w' => e = .returned (.int .i64 (fstI cl l 0)) ∧ Below w.heap.size w w' := by
  have hlt : g < w.heap.size := World.block_lt_of_cell? _ _ hg
  have H := Lib.hid h
  have HC := Lib.hid clo_del
  clear h
  go_enter Try.func80, Try.ntmps80
  go_wp2_with fail
  go_loopw [8] (fun i wr => ∃ k : Nat, k ≤ l.length ∧ i = .int .i64 k ∧ fstI cl l 0 = fstI cl (l.drop k) k ∧ Below w.heap.size w wr) (fun i _ => l.length - (intOf i).toNat)
  case atStart => exact ⟨0, by omega, rfl, rfl, Below.refl _ _⟩
  case round =>
    obtain ⟨k, hk, rfl, hf, hb⟩ := hrel
    by_cases hkl : k < l.length
    · obtain ⟨ad, rfl, q0, q1, q2, q3⟩ := RdI.at (H.out.keep hb (Nat.le_refl _)) k hkl
      have hgr : wr.cell? ⟨g, 3, none⟩ = some (.string cl) := (hb.cell (p := ⟨g, 3, none⟩) hlt).trans hg
      rw [fstI_drop cl l k hkl] at hf
      have hcall := HC.out cl l[k] g
      have hw1 : IntKind.i64.wrap ((k : Int) + 1) = (k : Int) + 1 := by rw [IntKind.wrap_i64]; omega
      generalize l[k] = x at *
      cases hs : delV cl x with
      | true =>
        rw [hs] at hcall
        rw [hs, if_pos rfl] at hf
        have Hf := Lib.hid hf
        clear hf hs
        go_wp2_with fail
        refine (hcall _ hgr).mono ?_
        rintro e w1 ⟨rfl, h1⟩
        go_wp2_with fail
        go_ret
        exact ⟨by rw [Hf.out]; rfl, hb.trans (h1.mono hb.size)⟩
      | false =>
        rw [hs] at hcall
        rw [hs, if_neg (by simp)] at hf
        have Hf := Lib.hid hf
        clear hf hs
        go_wp2_with fail
        refine (hcall _ hgr).mono ?_
        rintro e w1 ⟨rfl, h1⟩
        go_wp2_with fail
        exact ⟨⟨k + 1, by omega, by go_num, Hf.out, hb.trans (h1.mono hb.size)⟩, by simp [intOf]; omega⟩
    · obtain rfl : k = l.length := by omega
      rw [List.drop_length] at hf
      have Hf := Lib.hid hf
      clear hf
      go_wp2_with fail
      go_ret
      exact ⟨by rw [Hf.out]; rfl, hb⟩
theorem clone_idx (A : Option Addr) (c : Nat) (l : List Idx) (w : World) (ha : RdI w A l) (hn : A = none → c = 0) (hl : l.length ≤ 1000) :
    Calls Try.prog 59 #[.slice A l.length c] w fun e w' => ∃ A' c', e = .returned (.slice A' l.length c') ∧ Fresh w' w.heap.size 60 4 (.slice A' l.length c') l.length (l.flatMap Idx.cells) ∧ (A' = none → c' = 0) ∧ Below w.heap.size w w' := by
  cases A with
  | none =>
    obtain rfl := hn rfl
    obtain rfl := rdl_none ha
    have hq := fun w => Lib.run_eql_slice_nil (P := Try.prog) w 46 60 none 0 0 0 0 Try.underlying46
    go_enter Try.func59, Try.ntmps59
    go_wp2_with fail
    go_ret
    exact ⟨none, 0, rfl, Or.inl (World.ownsRow_nil _ _ _ _), fun _ => rfl, Below.refl _ _⟩
  | some ad =>
    have hq := fun w => Lib.run_eql_slice_nil (P := Try.prog) w 46 60 (some ad) l.length c 0 0 Try.underlying46
    have b0 : Below w.heap.size w (w.alloc (.cells #[] 60)) := (Below.refl _ _).alloc (Nat.le_refl _) _
    have HA := Lib.hid (ha.keep b0 (Nat.le_refl _))
    clear ha hn
    go_enter Try.func59, Try.ntmps59
    go_wp2_with (at_builtin; refine wl_app_idxs rfl _ _ rfl w.heap.size _ 0 [] rfl (Fresh.empty _ _ _ _ _) (by simp) _ _ l rfl (by simp) HA.out (by omega) ?_; intro v' w1 hF hb1 _)
    rw [Nat.zero_add, List.nil_append] at hF
    obtain ⟨A', c', rfl, hn'⟩ := hF.slice
    have HF := Lib.hid hF
    have HN := Lib.hid hn'
    have hb := b0.trans hb1
    clear hF hn' hb1 b0
    go_wp2_with fail
    go_ret
    exact ⟨A', c', rfl, HF.out, HN.out, hb⟩
/-- The indexes that serve. -/
def keepL (cl : ByteArray) (l : List Idx) : List Idx := l.filter fun x => !delV cl x
theorem keepL_snoc (cl : ByteArray) (l : List Idx) (k : Nat) (h : k < l.length) : keepL cl (l.take (k + 1)) = keepL cl (l.take k) ++ if delV cl l[k] then [] else [l[k]] := by
  unfold keepL
  rw [List.take_succ_eq_append_getElem h, List.filter_append]
  cases hd : delV cl l[k] <;> simp [hd]
theorem fstI_spec (cl : ByteArray) : ∀ (l : List Idx) (i : Nat), (fstI cl l i = -1 ∧ keepL cl l = l) ∨ ∃ k, ∃ h : k < l.length, fstI cl l i = ((i + k : Nat) : Int) ∧ delV cl l[k] = true ∧ keepL cl (l.take k) = l.take k
  | [], i => Or.inl ⟨rfl, rfl⟩
  | x :: l, i => by
    cases hd : delV cl x with
    | true => exact Or.inr ⟨0, by simp, by unfold fstI; rw [hd, if_pos rfl]; simp, hd, rfl⟩
    | false =>
      rcases fstI_spec cl l (i + 1) with ⟨h1, h2⟩ | ⟨k, hk, h1, h2, h3⟩
      · refine Or.inl ⟨by unfold fstI; rw [hd, if_neg (by simp)]; exact h1, ?_⟩
        unfold keepL at h2 ⊢
        rw [List.filter_cons, hd, Bool.not_false, if_pos rfl, h2]
      · refine Or.inr ⟨k + 1, by simp; omega, by unfold fstI; rw [hd, if_neg (by simp), h1]; congr 1; omega, h2, ?_⟩
        unfold keepL at h3 ⊢
        rw [List.take_succ_cons, List.filter_cons, hd, Bool.not_false, if_pos rfl, h3]
end Go.Proofs.Ytobdooojdadgpaa
