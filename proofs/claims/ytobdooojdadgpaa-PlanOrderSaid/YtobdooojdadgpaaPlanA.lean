/- Rows, columns and indexes in memory; contracts of packages keep and row on them. -/
import Derived.Test.YtobdooojdadgpaaMem
import Derived.Test.YtobdooojdadgpaaFrame
import Derived.Tactics
import Derived.Tactics2
import Derived.WalkKit
import Derived.WalkSpells
import Derived.WalkLawsBesides
import Derived.Deep.QuietTactic
import Derived.BigQuiet
import Derived.BigGuardPart
namespace Go.Proofs.Ytobdooojdadgpaa
open Go.RowKit
set_option linter.unusedVariables false
theorem run_sf (a : Addr) (b : Nat) (m : Mode) (W : World) : (store a (.float .f64 b) m).run Try.prog W = stored Try.prog W a (.float .f64 b) m := run_store Try.prog W a _ m rfl
structure Val where
  kind : Int
  n : Int
  f : Nat
  s : ByteArray
abbrev vv (k n : Int) (f : Nat) (s : ByteArray) : Value := .agg #[.int .i64 k, .int .i64 n, .float .f64 f, .string s]
def Val.cells (v : Val) : List Value := [.int .i64 v.kind, .int .i64 v.n, .float .f64 v.f, .string v.s]
/-- Rows of values in memory. -/
abbrev RdV (w : World) (A : Option Addr) (l : List Val) : Prop := RdL Val.cells 4 w A l
theorem RdV.at {w : World} {A : Option Addr} {l : List Val} (h : RdV w A l) (k : Nat) (hk : k < l.length) : ∃ ad, A = some ad ∧
    w.cell? (ad.add (k * 4)) = some (.int .i64 l[k].kind) ∧ w.cell? ⟨(ad.add (k * 4)).block, (ad.add (k * 4)).off + 1, none⟩ = some (.int .i64 l[k].n) ∧
    w.cell? ⟨(ad.add (k * 4)).block, (ad.add (k * 4)).off + 2, none⟩ = some (.float .f64 l[k].f) ∧ w.cell? ⟨(ad.add (k * 4)).block, (ad.add (k * 4)).off + 3, none⟩ = some (.string l[k].s) := by
  obtain ⟨ad, rfl⟩ := h.some k hk
  exact ⟨ad, rfl, h.cell0 k hk (by simp [Val.cells]), h.cell k hk 1 (by simp [Val.cells]) (by omega), h.cell k hk 2 (by simp [Val.cells]) (by omega), h.cell k hk 3 (by simp [Val.cells]) (by omega)⟩

theorem large_value (k n : Int) (f : Nat) (s : ByteArray) (w : World) : Calls Try.prog 76 #[vv k n f s] w fun e w' => e = .returned (.bool (decide (2000 < s.size))) ∧ Below w.heap.size w w' := by
  have hst := run_sf
  go_enter Try.func76, Try.ntmps76
  go_wp2_with fail
  go_ret
  exact ⟨by simp; omega, (Below.refl _ _).alloc (Nat.le_refl _) _⟩
def largeR (l : List Val) : Bool := decide (50 < l.length) || l.any fun v => decide (2000 < v.s.size)

set_option maxRecDepth 100000 in
theorem large_row (A : Option Addr) (c : Nat) (l : List Val) (w : World) (h : RdV w A l) : Calls Try.prog 77 #[.slice A l.length c] w fun e w' => e = .returned (.bool (largeR l)) ∧ Below w.heap.size w w' := by
  have hst := run_sf
  by_cases hlen : 50 < l.length
  · have e : largeR l = true := by unfold largeR; rw [decide_eq_true hlen]; rfl
    rw [e]
    go_enter Try.func77, Try.ntmps77
    go_wp2_with fail
    go_ret
    exact ⟨rfl, Below.refl _ _⟩
  · have H := Lib.hid h
    have HL := Lib.hid large_value
    clear h
    go_enter Try.func77, Try.ntmps77
    go_wp2_with fail
    go_loopw [3] (fun i wr => ∃ k : Nat, k ≤ l.length ∧ i = .int .i64 k ∧ (l.take k).any (fun v => decide (2000 < v.s.size)) = false ∧ Below w.heap.size w wr) (fun i _ => l.length - (intOf i).toNat)
    case atStart => exact ⟨0, by omega, rfl, rfl, Below.refl _ _⟩
    case round =>
      obtain ⟨k, hk, rfl, hany, hb⟩ := hrel
      by_cases hlt : k < l.length
      · obtain ⟨ad, rfl, q0, q1, q2, q3⟩ := RdV.at (H.out.keep hb (Nat.le_refl _)) k hlt
        have hstep : (l.take (k + 1)).any (fun v => decide (2000 < v.s.size)) = decide (2000 < l[k].s.size) := by
          rw [List.take_succ_eq_append_getElem hlt, List.any_append, hany]; simp
        have hall : 2000 < l[k].s.size → largeR l = true := fun g => by
          unfold largeR
          rw [Bool.or_eq_true, List.any_eq_true]
          exact Or.inr ⟨l[k], List.getElem_mem hlt, decide_eq_true g⟩
        have hcall := HL.out l[k].kind l[k].n l[k].f l[k].s
        generalize l[k] = x at *
        have Hany := Lib.hid hstep
        by_cases hx : 2000 < x.s.size
        · rw [decide_eq_true hx] at hcall
          have Hall := Lib.hid (hall hx)
          clear hany hstep hall hx
          go_wp2_with fail
          refine (hcall _).mono ?_
          rintro e w1 ⟨rfl, h1⟩
          go_wp2_with fail
          go_ret
          exact ⟨by rw [Hall.out]; rfl, hb.trans (h1.mono hb.size)⟩
        · rw [decide_eq_false hx] at hcall
          have Hx := Lib.hid hx
          clear hany hstep hall hx
          go_wp2_with fail
          refine (hcall _).mono ?_
          rintro e w1 ⟨rfl, h1⟩
          go_wp2_with fail
          exact ⟨⟨k + 1, by omega, by go_num, by rw [Hany.out, decide_eq_false Hx.out], hb.trans (h1.mono hb.size)⟩, by simp [intOf]; omega⟩
      · obtain rfl : k = l.length := by omega
        rw [List.take_length] at hany
        have Hany := Lib.hid hany
        clear hany
        go_wp2_with fail
        go_ret
        exact ⟨by unfold largeR; rw [Hany.out, decide_eq_false hlen]; rfl, hb⟩
structure Col where
  name : ByteArray
  kind : Int
  nn : Bool
  d : Val
def Col.cells (c : Col) : List Value := [.string c.name, .int .i64 c.kind, .bool c.nn, .int .i64 c.d.kind, .int .i64 c.d.n, .float .f64 c.d.f, .string c.d.s]
abbrev cv (nm : ByteArray) (k : Int) (nn : Bool) (dk dn : Int) (df : Nat) (ds : ByteArray) : Value := .agg #[.string nm, .int .i64 k, .bool nn, .int .i64 dk, .int .i64 dn, .float .f64 df, .string ds]
abbrev RdC (w : World) (A : Option Addr) (l : List Col) : Prop := RdL Col.cells 7 w A l
theorem RdC.at {w : World} {A : Option Addr} {l : List Col} (h : RdC w A l) (k : Nat) (hk : k < l.length) : ∃ ad, A = some ad ∧
    w.cell? (ad.add (k * 7)) = some (.string l[k].name) ∧ w.cell? ⟨(ad.add (k * 7)).block, (ad.add (k * 7)).off + 1, none⟩ = some (.int .i64 l[k].kind) ∧
    w.cell? ⟨(ad.add (k * 7)).block, (ad.add (k * 7)).off + 2, none⟩ = some (.bool l[k].nn) ∧ w.cell? ⟨(ad.add (k * 7)).block, (ad.add (k * 7)).off + 3, none⟩ = some (.int .i64 l[k].d.kind) ∧
    w.cell? ⟨(ad.add (k * 7)).block, (ad.add (k * 7)).off + 4, none⟩ = some (.int .i64 l[k].d.n) ∧ w.cell? ⟨(ad.add (k * 7)).block, (ad.add (k * 7)).off + 5, none⟩ = some (.float .f64 l[k].d.f) ∧
    w.cell? ⟨(ad.add (k * 7)).block, (ad.add (k * 7)).off + 6, none⟩ = some (.string l[k].d.s) := by
  obtain ⟨ad, rfl⟩ := h.some k hk
  exact ⟨ad, rfl, h.cell0 k hk (by simp [Col.cells]), h.cell k hk 1 (by simp [Col.cells]) (by omega), h.cell k hk 2 (by simp [Col.cells]) (by omega), h.cell k hk 3 (by simp [Col.cells]) (by omega), h.cell k hk 4 (by simp [Col.cells]) (by omega), h.cell k hk 5 (by simp [Col.cells]) (by omega), h.cell k hk 6 (by simp [Col.cells]) (by omega)⟩

def largeC (l : List Col) : Bool := decide (50 < l.length) || l.any fun c => decide (1000 < c.name.size) || decide (2000 < c.d.s.size)

set_option maxRecDepth 100000 in
theorem large_cols (A : Option Addr) (c : Nat) (l : List Col) (w : World) (h : RdC w A l) : Calls Try.prog 56 #[.slice A l.length c] w fun e w' => e = .returned (.bool (largeC l)) ∧ Below w.heap.size w w' := by
  have hst := run_sf
  by_cases hlen : 50 < l.length
  · have e : largeC l = true := by unfold largeC; rw [decide_eq_true hlen]; rfl
    rw [e]
    go_enter Try.func56, Try.ntmps56
    go_wp2_with fail
    go_ret
    exact ⟨rfl, Below.refl _ _⟩
  · have H := Lib.hid h
    have HL := Lib.hid large_value
    clear h
    go_enter Try.func56, Try.ntmps56
    go_wp2_with fail
    go_loopw [3] (fun i wr => ∃ k : Nat, k ≤ l.length ∧ i = .int .i64 k ∧ (l.take k).any (fun c => decide (1000 < c.name.size) || decide (2000 < c.d.s.size)) = false ∧ Below w.heap.size w wr) (fun i _ => l.length - (intOf i).toNat)
    case atStart => exact ⟨0, by omega, rfl, rfl, Below.refl _ _⟩
    case round =>
      obtain ⟨k, hk, rfl, hany, hb⟩ := hrel
      by_cases hlt : k < l.length
      · obtain ⟨ad, rfl, q0, q1, q2, q3, q4, q5, q6⟩ := RdC.at (H.out.keep hb (Nat.le_refl _)) k hlt
        have hstep : (l.take (k + 1)).any (fun c => decide (1000 < c.name.size) || decide (2000 < c.d.s.size)) = (decide (1000 < l[k].name.size) || decide (2000 < l[k].d.s.size)) := by
          rw [List.take_succ_eq_append_getElem hlt, List.any_append, hany]; simp
        have hall : (decide (1000 < l[k].name.size) || decide (2000 < l[k].d.s.size)) = true → largeC l = true := fun g => by
          unfold largeC
          rw [Bool.or_eq_true, List.any_eq_true]
          exact Or.inr ⟨l[k], List.getElem_mem hlt, g⟩
        have hcall := HL.out l[k].d.kind l[k].d.n l[k].d.f l[k].d.s
        generalize l[k] = x at *
        have Hany := Lib.hid hstep
        by_cases hx0 : 1000 < x.name.size
        · have Hall := Lib.hid (hall (by rw [decide_eq_true hx0]; rfl))
          have ht : decide ((1000 : Int) < (x.name.size : Int)) = true := by rw [decide_eq_true]; omega
          clear hany hstep hall hx0
          go_wp2_with fail
          go_ret
          exact ⟨by rw [Hall.out]; rfl, hb⟩
        · have ht : decide ((1000 : Int) < (x.name.size : Int)) = false := by rw [decide_eq_false]; omega
          by_cases hx : 2000 < x.d.s.size
          · rw [decide_eq_true hx] at hcall
            have Hall := Lib.hid (hall (by rw [decide_eq_true hx, Bool.or_true]))
            clear hany hstep hall hx
            go_wp2_with fail
            refine (hcall _).mono ?_
            rintro e w1 ⟨rfl, h1⟩
            go_wp2_with fail
            go_ret
            exact ⟨by rw [Hall.out]; rfl, hb.trans (h1.mono hb.size)⟩
          · rw [decide_eq_false hx] at hcall
            have Hx := Lib.hid hx
            have Hx0 := Lib.hid hx0
            clear hany hstep hall hx hx0
            go_wp2_with fail
            refine (hcall _).mono ?_
            rintro e w1 ⟨rfl, h1⟩
            go_wp2_with fail
            exact ⟨⟨k + 1, by omega, by go_num, by rw [Hany.out, decide_eq_false Hx.out, decide_eq_false Hx0.out]; rfl, hb.trans (h1.mono hb.size)⟩, by simp [intOf]; omega⟩
      · obtain rfl : k = l.length := by omega
        rw [List.take_length] at hany
        have Hany := Lib.hid hany
        clear hany
        go_wp2_with fail
        go_ret
        exact ⟨by unfold largeC; rw [Hany.out, decide_eq_false hlen]; rfl, hb⟩

abbrev sq (a b : ByteArray) : Bool := a.toList == b.toList
def findV (nm : ByteArray) : List Col → Nat → Int
  | [], _ => -1
  | c :: l, i => if sq c.name nm then (i : Int) else findV nm l (i + 1)
theorem findV_drop (nm : ByteArray) (l : List Col) (k : Nat) (h : k < l.length) : findV nm (l.drop k) k = if sq l[k].name nm then (k : Int) else findV nm (l.drop (k + 1)) (k + 1) := by
  rw [List.drop_eq_getElem_cons h]
  rfl
theorem clo_find (nm : ByteArray) (x : Col) (g : Nat) (w : World) (hg : w.cell? ⟨g, 0, none⟩ = some (.string nm)) : Calls Try.prog 79 #[cv x.name x.kind x.nn x.d.kind x.d.n x.d.f x.d.s, .pointer (some ⟨g, 0, none⟩)] w fun e w' => e = .returned (.bool (sq x.name nm)) ∧ Below w.heap.size w w' := by
  have hst := run_sf
  have hlt : g < w.heap.size := World.block_lt_of_cell? _ _ hg
  go_enter Try.func79, Try.ntmps79
  go_wp2_with fail
  go_ret
  exact ⟨rfl, (Below.refl _ _).alloc (Nat.le_refl _) _⟩
set_option maxRecDepth 100000 in
theorem index_any (A : Option Addr) (c : Nat) (l : List Col) (nm : ByteArray) (g : Nat) (w : World) (h : RdC w A l) (hl : l.length ≤ 1000) (hg : w.cell? ⟨g, 0, none⟩ = some (.string nm)) : Calls Try.prog 78 #[.slice A l.length c, .func (.func 79) #[] #[.pointer (some ⟨g, 0, none⟩)]] w fun e w' => e = .returned (.int .i64 (findV nm l 0)) ∧ Below w.heap.size w w' := by
  have hst := run_sf
  have hlt : g < w.heap.size := World.block_lt_of_cell? _ _ hg
  have H := Lib.hid h
  have HC := Lib.hid clo_find
  clear h
  go_enter Try.func78, Try.ntmps78
  go_wp2_with fail
  go_loopw [8] (fun i wr => ∃ k : Nat, k ≤ l.length ∧ i = .int .i64 k ∧ findV nm l 0 = findV nm (l.drop k) k ∧ Below w.heap.size w wr) (fun i _ => l.length - (intOf i).toNat)
  case atStart => exact ⟨0, by omega, rfl, rfl, Below.refl _ _⟩
  case round =>
    obtain ⟨k, hk, rfl, hf, hb⟩ := hrel
    by_cases hkl : k < l.length
    · obtain ⟨ad, rfl, q0, q1, q2, q3, q4, q5, q6⟩ := RdC.at (H.out.keep hb (Nat.le_refl _)) k hkl
      have hgr : wr.cell? ⟨g, 0, none⟩ = some (.string nm) := (hb.cell (p := ⟨g, 0, none⟩) hlt).trans hg
      rw [findV_drop nm l k hkl] at hf
      have hcall := HC.out nm l[k] g
      have hw1 : IntKind.i64.wrap ((k : Int) + 1) = (k : Int) + 1 := by rw [IntKind.wrap_i64]; omega
      generalize l[k] = x at *
      cases hs : sq x.name nm with
      | true =>
        rw [hs] at hcall
        rw [hs, if_pos rfl] at hf
        have Hf := Lib.hid hf
        clear hf hs
        go_wp2_with fail
        refine (hcall _ hgr).mono ?_
        rintro e w1 ⟨rfl, h1⟩
        go_wp2_with fail
        go_ret
        exact ⟨by rw [Hf.out]; rfl, hb.trans (h1.mono hb.size)⟩
      | false =>
        rw [hs] at hcall
        rw [hs, if_neg (by simp)] at hf
        have Hf := Lib.hid hf
        clear hf hs
        go_wp2_with fail
        refine (hcall _ hgr).mono ?_
        rintro e w1 ⟨rfl, h1⟩
        go_wp2_with fail
        exact ⟨⟨k + 1, by omega, by go_num, Hf.out, hb.trans (h1.mono hb.size)⟩, by simp [intOf]; omega⟩
    · obtain rfl : k = l.length := by omega
      rw [List.drop_length] at hf
      have Hf := Lib.hid hf
      clear hf
      go_wp2_with fail
      go_ret
      exact ⟨by rw [Hf.out]; rfl, hb⟩
theorem find_any (A : Option Addr) (c : Nat) (l : List Col) (nm : ByteArray) (w : World) (h : RdC w A l) (hl : l.length ≤ 1000) : Calls Try.prog 57 #[.slice A l.length c, .string nm] w fun e w' => e = .returned (.int .i64 (findV nm l 0)) ∧ Below w.heap.size w w' := by
  have hi := index_any A c l nm w.heap.size (w.alloc (.cells #[.string nm] 9)) (h.keep ((Below.refl _ _).alloc (Nat.le_refl _) _) (Nat.le_refl _)) hl (by rw [World.cell?_alloc_new]; rfl)
  generalize findV nm l 0 = r at *
  clear h
  go_enter Try.func57, Try.ntmps57
  go_wp2_with fail
  refine hi.mono ?_
  rintro e w1 ⟨rfl, h1⟩
  go_wp2_with fail
  go_ret
  exact ⟨rfl, below_trans ((Below.refl _ _).alloc (Nat.le_refl _) _) h1⟩
set_option maxRecDepth 100000 in
theorem rfind_any (A : Option Addr) (c : Nat) (l : List Col) (nm : ByteArray) (w : World) (h : RdC w A l) (hl : l.length ≤ 1000) : Calls Try.prog 64 #[.slice A l.length c, .string nm] w fun e w' => e = .returned (.int .i64 (findV nm l 0)) ∧ w = w' := by
  have H := Lib.hid h
  clear h
  go_enter Try.func64, Try.ntmps64
  go_wp2_with fail
  go_loop [5] (fun i => ∃ k : Nat, k ≤ l.length ∧ i = .int .i64 k ∧ findV nm l 0 = findV nm (l.drop k) k) (fun i => l.length - (intOf i).toNat)
  case atStart => exact ⟨0, by omega, rfl, rfl⟩
  case round =>
    obtain ⟨k, hk, rfl, hf⟩ := hrel
    by_cases hkl : k < l.length
    · obtain ⟨ad, rfl, q0, q1, q2, q3, q4, q5, q6⟩ := RdC.at H.out k hkl
      rw [findV_drop nm l k hkl] at hf
      clear q1 q2 q3 q4 q5 q6
      generalize l[k] = x at *
      cases hs : sq x.name nm with
      | true =>
        rw [hs, if_pos rfl] at hf
        have Hf := Lib.hid hf
        clear hf
        go_wp2_with fail
        go_ret
        exact ⟨by rw [Hf.out]; rfl, rfl⟩
      | false =>
        rw [hs, if_neg (by simp)] at hf
        have Hf := Lib.hid hf
        clear hf
        go_wp2_with fail
        exact ⟨⟨k + 1, by omega, by go_num, Hf.out⟩, by simp [intOf]; omega⟩
    · obtain rfl : k = l.length := by omega
      rw [List.drop_length] at hf
      have Hf := Lib.hid hf
      clear hf
      go_wp2_with fail
      go_ret
      exact ⟨by rw [Hf.out]; rfl, rfl⟩
theorem Val.cells_len (v : Val) : v.cells.length = 4 := rfl
theorem Col.cells_len (v : Col) : v.cells.length = 7 := rfl
/-! ### Indexes -/
structure Idx where
  name : ByteArray
  col : ByteArray
  uniq : Bool
  st : Int
def Idx.cells (x : Idx) : List Value := [.string x.name, .string x.col, .bool x.uniq, .int .i64 x.st]
abbrev iv (nm cl : ByteArray) (u : Bool) (st : Int) : Value := .agg #[.string nm, .string cl, .bool u, .int .i64 st]
abbrev RdI (w : World) (A : Option Addr) (l : List Idx) : Prop := RdL Idx.cells 4 w A l
theorem Idx.cells_len (v : Idx) : v.cells.length = 4 := rfl
theorem RdI.at {w : World} {A : Option Addr} {l : List Idx} (h : RdI w A l) (k : Nat) (hk : k < l.length) : ∃ ad, A = some ad ∧
    w.cell? (ad.add (k * 4)) = some (.string l[k].name) ∧ w.cell? ⟨(ad.add (k * 4)).block, (ad.add (k * 4)).off + 1, none⟩ = some (.string l[k].col) ∧
    w.cell? ⟨(ad.add (k * 4)).block, (ad.add (k * 4)).off + 2, none⟩ = some (.bool l[k].uniq) ∧ w.cell? ⟨(ad.add (k * 4)).block, (ad.add (k * 4)).off + 3, none⟩ = some (.int .i64 l[k].st) := by
  obtain ⟨ad, rfl⟩ := h.some k hk
  exact ⟨ad, rfl, h.cell0 k hk (by simp [Idx.cells]), h.cell k hk 1 (by simp [Idx.cells]) (by omega), h.cell k hk 2 (by simp [Idx.cells]) (by omega), h.cell k hk 3 (by simp [Idx.cells]) (by omega)⟩
theorem info41 : (Try.prog.info? 41).map (fun i => (i.zero, i.size, i.bytes)) = some (some (.agg #[.int .i64 0, .int .i64 0, .float .f64 0, .string ⟨#[]⟩]), 4, 40) := by kernel_rfl
theorem info60 : (Try.prog.info? 60).map (fun i => (i.zero, i.size, i.bytes)) = some (some (.agg #[.string ⟨#[]⟩, .string ⟨#[]⟩, .bool false, .int .i64 0]), 4, 48) := by kernel_rfl
theorem Val.one (v : Val) : ∀ u ∈ v.cells, u.oneCell' = true := fun u hu => by
  simp only [Val.cells, List.mem_cons, List.not_mem_nil, or_false] at hu
  rcases hu with rfl | rfl | rfl | rfl <;> rfl
theorem Col.one (v : Col) : ∀ u ∈ v.cells, u.oneCell' = true := fun u hu => by
  simp only [Col.cells, List.mem_cons, List.not_mem_nil, or_false] at hu
  rcases hu with rfl | rfl | rfl | rfl | rfl | rfl | rfl <;> rfl
theorem Idx.one (v : Idx) : ∀ u ∈ v.cells, u.oneCell' = true := fun u hu => by
  simp only [Idx.cells, List.mem_cons, List.not_mem_nil, or_false] at hu
  rcases hu with rfl | rfl | rfl | rfl <;> rfl
theorem info94 : (Try.prog.info? 94).map (fun i => (i.zero, i.size, i.bytes)) = some (some (.agg #[.string ⟨#[]⟩, .int .i64 0, .bool false, .int .i64 0, .int .i64 0, .float .f64 0, .string ⟨#[]⟩]), 7, 72) := by kernel_rfl
theorem wp_app_vals {w : World} {o : Oper} {a : Act} {K : Act → World → Prop} {Q : Exit → Act → World → Prop} (s x : Operand) (ho : o.op = .call { callee := .builtin .append, args := #[s, x], argTypes := #[42, 42] })
    (B : Nat) (v : Value) (n : Nat) (xs : List Value) (hs : a.eval s = v) (hF : Fresh w B 41 4 v n xs) (hB : B ≤ w.heap.size)
    (A : Option Addr) (c : Nat) (l : List Val) (hx : a.eval x = .slice A l.length c) (hn : A = none → c = 0) (hr : RdV w A l) (hl : n + l.length ≤ 100000)
    (h : ∀ v' w', Fresh w' B 41 4 v' (n + l.length) (xs ++ l.flatMap Val.cells) → Below B w w' → ((∃ b, v = .slice (some b) 0 0) → Below w.heap.size w w' ∧ v' ≠ .slice none 0 0) → K (a.put o.dst v') w') : o.wp Try.prog a w K Q := by
  obtain ⟨i0, hi, hz0, hz1, hz2⟩ := info_parts info41
  exact wp_append_fresh s x 42 ho 41 i0 _ 4 _ Try.underlying42 hi hz0 hz1 hz2 rfl (by decide) Val.cells Val.cells_len Val.one B v n xs hs hF hB A c l hx hn hr hl (by decide) h
theorem wl_app_vals {w : World} {ops : Array Oper} {rest : List Oper} {o : Oper} {a : Act} {Q : Exit → Act → World → Prop} (hw : Region.wanted o (yielded ops a.tmps) = true) (s x : Operand) (ho : o.op = .call { callee := .builtin .append, args := #[s, x], argTypes := #[42, 42] })
    (B : Nat) (v : Value) (n : Nat) (xs : List Value) (hs : a.eval s = v) (hF : Fresh w B 41 4 v n xs) (hB : B ≤ w.heap.size)
    (A : Option Addr) (c : Nat) (l : List Val) (hx : a.eval x = .slice A l.length c) (hn : A = none → c = 0) (hr : RdV w A l) (hl : n + l.length ≤ 100000)
    (h : ∀ v' w', Fresh w' B 41 4 v' (n + l.length) (xs ++ l.flatMap Val.cells) → Below B w w' → ((∃ b, v = .slice (some b) 0 0) → Below w.heap.size w w' ∧ v' ≠ .slice none 0 0) → wpList Try.prog ops Q rest (a.put o.dst v') w') : wpList Try.prog ops Q (o :: rest) a w :=
  wpList_step fun K hK => by
    rw [if_pos hw]
    exact wp_app_vals s x ho B v n xs hs hF hB A c l hx hn hr hl fun v' w' h1 h2 h3 => hK _ _ (h v' w' h1 h2 h3)

theorem wp_app_cols {w : World} {o : Oper} {a : Act} {K : Act → World → Prop} {Q : Exit → Act → World → Prop} (s x : Operand) (ho : o.op = .call { callee := .builtin .append, args := #[s, x], argTypes := #[43, 43] })
    (B : Nat) (v : Value) (n : Nat) (xs : List Value) (hs : a.eval s = v) (hF : Fresh w B 94 7 v n xs) (hB : B ≤ w.heap.size)
    (A : Option Addr) (c : Nat) (l : List Col) (hx : a.eval x = .slice A l.length c) (hn : A = none → c = 0) (hr : RdC w A l) (hl : n + l.length ≤ 100000)
    (h : ∀ v' w', Fresh w' B 94 7 v' (n + l.length) (xs ++ l.flatMap Col.cells) → Below B w w' → ((∃ b, v = .slice (some b) 0 0) → Below w.heap.size w w' ∧ v' ≠ .slice none 0 0) → K (a.put o.dst v') w') : o.wp Try.prog a w K Q := by
  obtain ⟨i0, hi, hz0, hz1, hz2⟩ := info_parts info94
  exact wp_append_fresh s x 43 ho 94 i0 _ 7 _ Try.underlying43 hi hz0 hz1 hz2 rfl (by decide) Col.cells Col.cells_len Col.one B v n xs hs hF hB A c l hx hn hr hl (by decide) h
theorem wl_app_cols {w : World} {ops : Array Oper} {rest : List Oper} {o : Oper} {a : Act} {Q : Exit → Act → World → Prop} (hw : Region.wanted o (yielded ops a.tmps) = true) (s x : Operand) (ho : o.op = .call { callee := .builtin .append, args := #[s, x], argTypes := #[43, 43] })
    (B : Nat) (v : Value) (n : Nat) (xs : List Value) (hs : a.eval s = v) (hF : Fresh w B 94 7 v n xs) (hB : B ≤ w.heap.size)
    (A : Option Addr) (c : Nat) (l : List Col) (hx : a.eval x = .slice A l.length c) (hn : A = none → c = 0) (hr : RdC w A l) (hl : n + l.length ≤ 100000)
    (h : ∀ v' w', Fresh w' B 94 7 v' (n + l.length) (xs ++ l.flatMap Col.cells) → Below B w w' → ((∃ b, v = .slice (some b) 0 0) → Below w.heap.size w w' ∧ v' ≠ .slice none 0 0) → wpList Try.prog ops Q rest (a.put o.dst v') w') : wpList Try.prog ops Q (o :: rest) a w :=
  wpList_step fun K hK => by
    rw [if_pos hw]
    exact wp_app_cols s x ho B v n xs hs hF hB A c l hx hn hr hl fun v' w' h1 h2 h3 => hK _ _ (h v' w' h1 h2 h3)

theorem wp_app_idxs {w : World} {o : Oper} {a : Act} {K : Act → World → Prop} {Q : Exit → Act → World → Prop} (s x : Operand) (ho : o.op = .call { callee := .builtin .append, args := #[s, x], argTypes := #[46, 46] })
    (B : Nat) (v : Value) (n : Nat) (xs : List Value) (hs : a.eval s = v) (hF : Fresh w B 60 4 v n xs) (hB : B ≤ w.heap.size)
    (A : Option Addr) (c : Nat) (l : List Idx) (hx : a.eval x = .slice A l.length c) (hn : A = none → c = 0) (hr : RdI w A l) (hl : n + l.length ≤ 100000)
    (h : ∀ v' w', Fresh w' B 60 4 v' (n + l.length) (xs ++ l.flatMap Idx.cells) → Below B w w' → ((∃ b, v = .slice (some b) 0 0) → Below w.heap.size w w' ∧ v' ≠ .slice none 0 0) → K (a.put o.dst v') w') : o.wp Try.prog a w K Q := by
  obtain ⟨i0, hi, hz0, hz1, hz2⟩ := info_parts info60
  exact wp_append_fresh s x 46 ho 60 i0 _ 4 _ Try.underlying46 hi hz0 hz1 hz2 rfl (by decide) Idx.cells Idx.cells_len Idx.one B v n xs hs hF hB A c l hx hn hr hl (by decide) h
theorem wl_app_idxs {w : World} {ops : Array Oper} {rest : List Oper} {o : Oper} {a : Act} {Q : Exit → Act → World → Prop} (hw : Region.wanted o (yielded ops a.tmps) = true) (s x : Operand) (ho : o.op = .call { callee := .builtin .append, args := #[s, x], argTypes := #[46, 46] })
    (B : Nat) (v : Value) (n : Nat) (xs : List Value) (hs : a.eval s = v) (hF : Fresh w B 60 4 v n xs) (hB : B ≤ w.heap.size)
    (A : Option Addr) (c : Nat) (l : List Idx) (hx : a.eval x = .slice A l.length c) (hn : A = none → c = 0) (hr : RdI w A l) (hl : n + l.length ≤ 100000)
    (h : ∀ v' w', Fresh w' B 60 4 v' (n + l.length) (xs ++ l.flatMap Idx.cells) → Below B w w' → ((∃ b, v = .slice (some b) 0 0) → Below w.heap.size w w' ∧ v' ≠ .slice none 0 0) → wpList Try.prog ops Q rest (a.put o.dst v') w') : wpList Try.prog ops Q (o :: rest) a w :=
  wpList_step fun K hK => by
    rw [if_pos hw]
    exact wp_app_idxs s x ho B v n xs hs hF hB A c l hx hn hr hl fun v' w' h1 h2 h3 => hK _ _ (h v' w' h1 h2 h3)

end Go.Proofs.Ytobdooojdadgpaa
