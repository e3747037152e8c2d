/- Contracts of value.Name, row.Find. -/
import Derived.Test.YtmgpecomgffelaaRowA
import Derived.Test.YtmgpecomgffelaaFloatK
namespace Go.Proofs.Ytmgpecomgffelaa
open Go.RowKit
set_option linter.unusedVariables false
/-- May a byte stand at a place of a name? -/
def nameC (k c : Nat) : Bool := (decide (97 ≤ c) && decide (c ≤ 122)) || (decide (k ≠ 0) && ((decide (48 ≤ c) && decide (c ≤ 57)) || decide (c = 95)))
def nameTo (s : ByteArray) (k : Nat) : Bool := (List.range k).all fun j => nameC j (sAt s j)
def nameV (s : ByteArray) : Bool := decide (1 ≤ s.size) && decide (s.size ≤ 8) && nameTo s s.size
theorem nameTo_succ (s : ByteArray) (k : Nat) : nameTo s (k + 1) = (nameTo s k && nameC k (sAt s k)) := by
  unfold nameTo
  rw [List.range_succ, List.all_append]
  simp
theorem nameTo_mono (s : ByteArray) (k n : Nat) (h : k ≤ n) (hk : nameTo s k = false) : nameTo s n = false := by
  unfold nameTo at *
  rw [List.all_eq_false] at *
  obtain ⟨x, hx, h2⟩ := hk
  exact ⟨x, by simp at *; omega, h2⟩

set_option maxRecDepth 100000 in
theorem name_any (s : ByteArray) (w : World) : Calls Try.prog 89 #[.string s] w fun e w' => e = .returned (.bool (nameV s)) ∧ w = w' := by
  by_cases h1 : s.size < 1
  · have ht : decide ((s.size : Int) < 1) = true := by rw [decide_eq_true]; omega
    have e : nameV s = false := by unfold nameV; rw [decide_eq_false (by omega)]; rfl
    rw [e]
    clear e h1
    go_enter Try.func89, Try.ntmps89
    go_wp2_with fail
    go_ret
    exact ⟨rfl, rfl⟩
  · have ht : decide ((s.size : Int) < 1) = false := by rw [decide_eq_false]; omega
    by_cases h2 : 8 < s.size
    · have ht2 : decide ((8 : Int) < (s.size : Int)) = true := by rw [decide_eq_true]; omega
      have e : nameV s = false := by unfold nameV; rw [decide_eq_false (show ¬ s.size ≤ 8 by omega), Bool.and_false]; rfl
      rw [e]
      clear e h1 h2
      go_enter Try.func89, Try.ntmps89
      go_wp2_with fail
      go_ret
      exact ⟨rfl, rfl⟩
    · have ht2 : decide ((8 : Int) < (s.size : Int)) = false := by rw [decide_eq_false]; omega
      have e : nameV s = nameTo s s.size := by unfold nameV; rw [decide_eq_true (show 1 ≤ s.size by omega), decide_eq_true (show s.size ≤ 8 by omega)]; rfl
      rw [e]
      have Hsz := Lib.hid (show s.size ≤ 8 by omega)
      clear e h1 h2
      go_enter Try.func89, Try.ntmps89
      go_wp2_with fail
      go_loop [16] (fun i => ∃ k : Nat, k ≤ s.size ∧ i = .int .i64 k ∧ nameTo s k = true) (fun i => s.size - (intOf i).toNat)
      case atStart => exact ⟨0, by omega, rfl, rfl⟩
      case round =>
        obtain ⟨k, hk, rfl, hto⟩ := hrel
        have hsz8 := Hsz.out
        by_cases hlt : k < s.size
        · have hsa := sAt_eq s k hlt
          have hc0 : nameC k (sAt s k) = ((decide (97 ≤ sAt s k) && decide (sAt s k ≤ 122)) || (decide (k ≠ 0) && ((decide (48 ≤ sAt s k) && decide (sAt s k ≤ 57)) || decide (sAt s k = 95)))) := rfl
          by_cases l1 : 97 ≤ sAt s k ∧ sAt s k ≤ 122
          · have hc : nameC k (sAt s k) = true := by rw [hc0, decide_eq_true l1.1, decide_eq_true l1.2]; rfl
            have f1 : decide ((sAt s k : Int) < 97) = false := by rw [decide_eq_false]; omega
            have f2 : decide ((122 : Int) < (sAt s k : Int)) = false := by rw [decide_eq_false]; omega
            have f3 : decide ((48 : Int) ≤ (sAt s k : Int)) = true := by rw [decide_eq_true]; omega
            have f4 : decide ((sAt s k : Int) ≤ 57) = false := by rw [decide_eq_false]; omega
            have f5 : ((sAt s k : Int) == 95) = false := by rw [beq_eq_false_iff_ne]; omega
            clear hc0 l1
            have hn : nameTo s (k + 1) = true := by rw [nameTo_succ, hto, Bool.true_and]; exact hc
            have Hn := Lib.hid hn
            clear hn hto hc
            generalize sAt s k = c at *
            go_wp2_with fail
            exact ⟨⟨k + 1, by omega, by go_num, Hn.out⟩, by simp [intOf]; omega⟩
          · have l1' : (decide (97 ≤ sAt s k) && decide (sAt s k ≤ 122)) = false := by
              rw [Bool.and_eq_false_iff, decide_eq_false_iff_not, decide_eq_false_iff_not]; omega
            rw [l1', Bool.false_or] at hc0
            by_cases l2 : 48 ≤ sAt s k ∧ sAt s k ≤ 57
            · have g : ((decide (48 ≤ sAt s k) && decide (sAt s k ≤ 57)) || decide (sAt s k = 95)) = true := by rw [decide_eq_true l2.1, decide_eq_true l2.2]; rfl
              rw [g, Bool.and_true] at hc0
              have f1 : decide ((sAt s k : Int) < 97) = true := by rw [decide_eq_true]; omega
              have f3 : decide ((48 : Int) ≤ (sAt s k : Int)) = true := by rw [decide_eq_true]; omega
              have f4 : decide ((sAt s k : Int) ≤ 57) = true := by rw [decide_eq_true]; omega
              clear g l1 l2 l1'
              by_cases hk0 : k = 0
              · have hc : nameC k (sAt s k) = false := by rw [hc0, decide_eq_false (by simpa using hk0)]
                have f6 : ((k : Int) == 0) = true := by rw [beq_iff_eq]; omega
                clear hc0
                have hn : nameTo s s.size = false := nameTo_mono s (k + 1) _ (by omega) (by rw [nameTo_succ, hto, Bool.true_and]; exact hc)
                have Hn := Lib.hid hn
                clear hn hto hc hk0
                generalize sAt s k = c at *
                go_wp2_with fail
                go_ret
                exact ⟨by rw [Hn.out]; rfl, rfl⟩
              · have hc : nameC k (sAt s k) = true := by rw [hc0, decide_eq_true hk0]
                have f6 : ((k : Int) == 0) = false := by rw [beq_eq_false_iff_ne]; omega
                clear hc0
                have hn : nameTo s (k + 1) = true := by rw [nameTo_succ, hto, Bool.true_and]; exact hc
                have Hn := Lib.hid hn
                clear hn hto hc hk0
                generalize sAt s k = c at *
                go_wp2_with fail
                exact ⟨⟨k + 1, by omega, by go_num, Hn.out⟩, by simp [intOf]; omega⟩
            · by_cases l3 : sAt s k = 95
              · have g : ((decide (48 ≤ sAt s k) && decide (sAt s k ≤ 57)) || decide (sAt s k = 95)) = true := by rw [decide_eq_true l3, Bool.or_true]
                rw [g, Bool.and_true] at hc0
                have f1 : decide ((sAt s k : Int) < 97) = true := by rw [decide_eq_true]; omega
                have f3 : decide ((48 : Int) ≤ (sAt s k : Int)) = true := by rw [decide_eq_true]; omega
                have f4 : decide ((sAt s k : Int) ≤ 57) = false := by rw [decide_eq_false]; omega
                have f5 : ((sAt s k : Int) == 95) = true := by rw [beq_iff_eq]; omega
                clear g l1 l2 l1'
                by_cases hk0 : k = 0
                · have hc : nameC k (sAt s k) = false := by rw [hc0, decide_eq_false (by simpa using hk0)]
                  have f6 : ((k : Int) == 0) = true := by rw [beq_iff_eq]; omega
                  clear hc0 l3
                  have hn : nameTo s s.size = false := nameTo_mono s (k + 1) _ (by omega) (by rw [nameTo_succ, hto, Bool.true_and]; exact hc)
                  have Hn := Lib.hid hn
                  clear hn hto hc hk0
                  generalize sAt s k = c at *
                  go_wp2_with fail
                  go_ret
                  exact ⟨by rw [Hn.out]; rfl, rfl⟩
                · have hc : nameC k (sAt s k) = true := by rw [hc0, decide_eq_true hk0]
                  have f6 : ((k : Int) == 0) = false := by rw [beq_eq_false_iff_ne]; omega
                  clear hc0 l3
                  have hn : nameTo s (k + 1) = true := by rw [nameTo_succ, hto, Bool.true_and]; exact hc
                  have Hn := Lib.hid hn
                  clear hn hto hc hk0
                  generalize sAt s k = c at *
                  go_wp2_with fail
                  exact ⟨⟨k + 1, by omega, by go_num, Hn.out⟩, by simp [intOf]; omega⟩
              · have g : ((decide (48 ≤ sAt s k) && decide (sAt s k ≤ 57)) || decide (sAt s k = 95)) = false := by
                  rw [Bool.or_eq_false_iff, Bool.and_eq_false_iff, decide_eq_false_iff_not, decide_eq_false_iff_not, decide_eq_false_iff_not]; omega
                have hc : nameC k (sAt s k) = false := by rw [hc0, g, Bool.and_false]
                have f5 : ((sAt s k : Int) == 95) = false := by rw [beq_eq_false_iff_ne]; omega
                have f4 : (decide ((48 : Int) ≤ (sAt s k : Int)) && decide ((sAt s k : Int) ≤ 57)) = false := by
                  rw [Bool.and_eq_false_iff, decide_eq_false_iff_not, decide_eq_false_iff_not]; omega
                have f1 : (decide ((sAt s k : Int) < 97) || decide ((122 : Int) < (sAt s k : Int))) = true := by
                  rw [Bool.or_eq_true, decide_eq_true_eq, decide_eq_true_eq]; omega
                by_cases d1 : 48 ≤ sAt s k
                · have d2 : decide ((48 : Int) ≤ (sAt s k : Int)) = true := by rw [decide_eq_true]; omega
                  have d3 : decide ((sAt s k : Int) ≤ 57) = false := by rw [decide_eq_false]; omega
                  by_cases d4 : sAt s k < 97
                  · have d5 : decide ((sAt s k : Int) < 97) = true := by rw [decide_eq_true]; omega
                    clear f4 f1 d1 d4 hc0 g l1 l2 l3 l1'
                    have hn : nameTo s s.size = false := nameTo_mono s (k + 1) _ (by omega) (by rw [nameTo_succ, hto, Bool.true_and]; exact hc)
                    have Hn := Lib.hid hn
                    clear hn hto hc
                    generalize sAt s k = c at *
                    go_wp2_with fail
                    go_ret
                    exact ⟨by rw [Hn.out]; rfl, rfl⟩
                  · have d5 : decide ((sAt s k : Int) < 97) = false := by rw [decide_eq_false]; omega
                    have d6 : decide ((122 : Int) < (sAt s k : Int)) = true := by rw [decide_eq_true]; omega
                    clear f4 f1 d1 d4 hc0 g l1 l2 l3 l1'
                    have hn : nameTo s s.size = false := nameTo_mono s (k + 1) _ (by omega) (by rw [nameTo_succ, hto, Bool.true_and]; exact hc)
                    have Hn := Lib.hid hn
                    clear hn hto hc
                    generalize sAt s k = c at *
                    go_wp2_with fail
                    go_ret
                    exact ⟨by rw [Hn.out]; rfl, rfl⟩
                · have d2 : decide ((48 : Int) ≤ (sAt s k : Int)) = false := by rw [decide_eq_false]; omega
                  have d5 : decide ((sAt s k : Int) < 97) = true := by rw [decide_eq_true]; omega
                  clear f4 f1 d1 hc0 g l1 l2 l3 l1'
                  have hn : nameTo s s.size = false := nameTo_mono s (k + 1) _ (by omega) (by rw [nameTo_succ, hto, Bool.true_and]; exact hc)
                  have Hn := Lib.hid hn
                  clear hn hto hc
                  generalize sAt s k = c at *
                  go_wp2_with fail
                  go_ret
                  exact ⟨by rw [Hn.out]; rfl, rfl⟩
        · obtain rfl : k = s.size := by omega
          have Hto := Lib.hid hto
          clear hto
          go_wp2_with fail
          go_ret
          exact ⟨by rw [Hto.out]; rfl, rfl⟩

/-! ### Find -/
abbrev sq (a b : ByteArray) : Bool := a.toList == b.toList
def findV (nm : ByteArray) : List Col → Nat → Int
  | [], _ => -1
  | c :: l, i => if sq c.name nm then (i : Int) else findV nm l (i + 1)
theorem findV_drop (nm : ByteArray) (l : List Col) (k : Nat) (h : k < l.length) : findV nm (l.drop k) k = if sq l[k].name nm then (k : Int) else findV nm (l.drop (k + 1)) (k + 1) := by
  rw [List.drop_eq_getElem_cons h]
  rfl
theorem clo_find (nm : ByteArray) (x : Col) (g : Nat) (w : World) (hg : w.cell? ⟨g, 0, none⟩ = some (.string nm)) : Calls Try.prog 112 #[cv x.name x.kind x.nn x.d.kind x.d.n x.d.f x.d.s, .pointer (some ⟨g, 0, none⟩)] w fun e w' => e = .returned (.bool (sq x.name nm)) ∧ Below w.heap.size w w' := by
  have hst := run_sf
  have hlt : g < w.heap.size := World.block_lt_of_cell? _ _ hg
  go_enter Try.func112, Try.ntmps112
  go_wp2_with fail
  go_ret
  exact ⟨rfl, (Below.refl _ _).alloc (Nat.le_refl _) _⟩
set_option maxRecDepth 100000 in
theorem index_any (A : Option Addr) (c : Nat) (l : List Col) (nm : ByteArray) (g : Nat) (w : World) (h : RdC w A l) (hl : l.length ≤ 1000) (hg : w.cell? ⟨g, 0, none⟩ = some (.string nm)) : Calls Try.prog 111 #[.slice A l.length c, .func (.func 112) #[] #[.pointer (some ⟨g, 0, none⟩)]] w fun e w' => e = .returned (.int .i64 (findV nm l 0)) ∧ Below w.heap.size w w' := by
  have hst := run_sf
  have hlt : g < w.heap.size := World.block_lt_of_cell? _ _ hg
  have H := Lib.hid h
  have HC := Lib.hid clo_find
  clear h
  go_enter Try.func111, Try.ntmps111
  go_wp2_with fail
  go_loopw [8] (fun i wr => ∃ k : Nat, k ≤ l.length ∧ i = .int .i64 k ∧ findV nm l 0 = findV nm (l.drop k) k ∧ Below w.heap.size w wr) (fun i _ => l.length - (intOf i).toNat)
  case atStart => exact ⟨0, by omega, rfl, rfl, Below.refl _ _⟩
  case round =>
    obtain ⟨k, hk, rfl, hf, hb⟩ := hrel
    by_cases hkl : k < l.length
    · obtain ⟨ad, rfl, q0, q1, q2, q3, q4, q5, q6⟩ := RdC.at (H.out.keep hb (Nat.le_refl _)) k hkl
      have hgr : wr.cell? ⟨g, 0, none⟩ = some (.string nm) := (hb.cell (p := ⟨g, 0, none⟩) hlt).trans hg
      rw [findV_drop nm l k hkl] at hf
      have hcall := HC.out nm l[k] g
      have hw1 : IntKind.i64.wrap ((k : Int) + 1) = (k : Int) + 1 := by rw [IntKind.wrap_i64]; omega
      generalize l[k] = x at *
      cases hs : sq x.name nm with
      | true =>
        rw [hs] at hcall
        rw [hs, if_pos rfl] at hf
        have Hf := Lib.hid hf
        clear hf hs
        go_wp2_with fail
        refine (hcall _ hgr).mono ?_
        rintro e w1 ⟨rfl, h1⟩
        go_wp2_with fail
        go_ret
        exact ⟨by rw [Hf.out]; rfl, hb.trans (h1.mono hb.size)⟩
      | false =>
        rw [hs] at hcall
        rw [hs, if_neg (by simp)] at hf
        have Hf := Lib.hid hf
        clear hf hs
        go_wp2_with fail
        refine (hcall _ hgr).mono ?_
        rintro e w1 ⟨rfl, h1⟩
        go_wp2_with fail
        exact ⟨⟨k + 1, by omega, by go_num, Hf.out, hb.trans (h1.mono hb.size)⟩, by simp [intOf]; omega⟩
    · obtain rfl : k = l.length := by omega
      rw [List.drop_length] at hf
      have Hf := Lib.hid hf
      clear hf
      go_wp2_with fail
      go_ret
      exact ⟨by rw [Hf.out]; rfl, hb⟩
theorem find_any (A : Option Addr) (c : Nat) (l : List Col) (nm : ByteArray) (w : World) (h : RdC w A l) (hl : l.length ≤ 1000) : Calls Try.prog 73 #[.slice A l.length c, .string nm] w fun e w' => e = .returned (.int .i64 (findV nm l 0)) ∧ Below w.heap.size w w' := by
  have hi := index_any A c l nm w.heap.size (w.alloc (.cells #[.string nm] 9)) (h.keep ((Below.refl _ _).alloc (Nat.le_refl _) _) (Nat.le_refl _)) hl (by rw [World.cell?_alloc_new]; rfl)
  generalize findV nm l 0 = r at *
  clear h
  go_enter Try.func73, Try.ntmps73
  go_wp2_with fail
  refine hi.mono ?_
  rintro e w1 ⟨rfl, h1⟩
  go_wp2_with fail
  go_ret
  exact ⟨rfl, below_trans ((Below.refl _ _).alloc (Nat.le_refl _) _) h1⟩
end Go.Proofs.Ytmgpecomgffelaa
