/- Contract: liveryref20.Of. -/
import Derived.Test.YtobdooojdadgpaaPlanH
namespace Go.Proofs.Ytobdooojdadgpaa
open Go.RowKit
set_option linter.unusedVariables false
/-- The way and the index that the indexes m, which serve, give. -/
def pmW (k : Int) (m : List Idx) : Int := match m with
  | [] => 1
  | _ :: _ => if k = 8 then 3 else 2
def pmI (m : List Idx) : ByteArray := match m with
  | [] => ⟨#[]⟩
  | x0 :: l' => (minTo x0 l' l'.length).name
theorem pmW_snoc (k : Int) (m : List Idx) (x : Idx) : pmW k (m ++ [x]) = if k = 8 then 3 else 2 := by cases m <;> rfl
theorem pmI_nil (x : Idx) : pmI ([] ++ [x]) = x.name := rfl
theorem pmI_snoc (x0 : Idx) (l' : List Idx) (x : Idx) : pmI ((x0 :: l') ++ [x]) = if ltS x.name (pmI (x0 :: l')) then x.name else pmI (x0 :: l') := by
  have e : minTo x0 (l' ++ [x]) (l' ++ [x]).length = minF (minTo x0 l' l'.length) x := by
    unfold minTo
    rw [List.take_length, List.take_length, List.foldl_append]
    rfl
  show (minTo x0 (l' ++ [x]) (l' ++ [x]).length).name = _
  rw [e]
  unfold minF pmI
  cases ltS x.name (minTo x0 l' l'.length).name <;> rfl
def RdP (w : World) (M : Nat) (k : Int) (i : ByteArray) : Prop := w.cell? ⟨M, 0, none⟩ = some (.int .i64 k) ∧ w.cell? ⟨M, 1, none⟩ = some (.string i) ∧ w.frozen? ⟨M, 0, none⟩ = false ∧ w.frozen? ⟨M, 1, none⟩ = false
theorem RdP.set {w : World} {M : Nat} {k : Int} {i : ByteArray} (h : RdP w M k i) (k' : Int) (i' : ByteArray) : RdP ((w.setCell ⟨M, 0, none⟩ (.int .i64 k')).setCell ⟨M, 1, none⟩ (.string i')) M k' i' := by
  obtain ⟨h0, h1, z0, z1⟩ := h
  have c0 : (w.setCell ⟨M, 0, none⟩ (.int .i64 k')).cell? ⟨M, 0, none⟩ = some (.int .i64 k') := World.cell?_setCell_same _ _ _ h0
  have c1 : (w.setCell ⟨M, 0, none⟩ (.int .i64 k')).cell? ⟨M, 1, none⟩ = some (.string i) := (World.cell?_setCell_other _ _ _ _ (fun e => by cases e)).trans h1
  refine ⟨(World.cell?_setCell_other _ _ _ _ (fun e => by cases e)).trans c0, World.cell?_setCell_same _ _ _ c1, ?_, ?_⟩
  · rw [World.frozen?_setCell, World.frozen?_setCell]; exact z0
  · rw [World.frozen?_setCell, World.frozen?_setCell]; exact z1
theorem RdP.set0 {w : World} {M : Nat} {k : Int} {i : ByteArray} (h : RdP w M k i) (k' : Int) : RdP (w.setCell ⟨M, 0, none⟩ (.int .i64 k')) M k' i := by
  obtain ⟨h0, h1, z0, z1⟩ := h
  refine ⟨World.cell?_setCell_same _ _ _ h0, (World.cell?_setCell_other _ _ _ _ (fun e => by cases e)).trans h1, ?_, ?_⟩
  · rw [World.frozen?_setCell]; exact z0
  · rw [World.frozen?_setCell]; exact z1
theorem RdP.drewN {w : World} {M : Nat} {k : Int} {i : ByteArray} (h : RdP w M k i) (n : Nat) : RdP (w.drewN n) M k i := h
theorem OfMem.drewN {w : World} {b : Nat} {k : Int} {c s : ByteArray} (h : OfMem w b k c s) (n : Nat) : OfMem (w.drewN n) b k c s := h
theorem OfMem.set {w : World} {b : Nat} {k : Int} {c s : ByteArray} (h : OfMem w b k c s) (a : Addr) (ha : b + 1 < a.block) (v : Value) : OfMem (w.setCell a v) b k c s := by
  obtain ⟨a1, a2, a3, a4, a5, a6, a7⟩ := h
  have o : ∀ (p : Addr) (u : Value), p.block ≤ b + 1 → w.cell? p = some u → (w.setCell a v).cell? p = some u := fun p u hp hu => (World.cell?_setCell_other _ _ _ _ (fun e => by subst e; omega)).trans hu
  exact ⟨o _ _ (by show b ≤ b + 1; omega) a1, o _ _ (by show b ≤ b + 1; omega) a2, o _ _ (by show b ≤ b + 1; omega) a3, o _ _ (Nat.le_refl _) a4, o _ _ (Nat.le_refl _) a5, by rw [World.frozen?_setCell]; exact a6, by rw [World.frozen?_setCell]; exact a7⟩
theorem RdP.start (w : World) (ty : TypeId) (k : Int) (i : ByteArray) : RdP (w.alloc (.cells #[.int .i64 k, .string i] ty)) w.heap.size k i :=
  ⟨World.cell?_alloc_new _ _ _ _, World.cell?_alloc_new _ _ _ _, World.frozen?_alloc_new _ _ _ _, World.frozen?_alloc_new _ _ _ _⟩
set_option maxRecDepth 100000 in
set_option maxHeartbeats 2000000 in
theorem rof_scan (s : Stm) (C : Option Addr) (c : Nat) (cols : List Col) (A : Option Addr) (a : Nat) (l : List Idx) (w : World) (hc : RdC w C cols) (ha : RdI w A l) (hnA : A = none → a = 0) (hcl : cols.length ≤ 1000) (hal : l.length ≤ 1000) (hk : s.kind = 9) :
    Calls Try.prog 33 #[sv s, .slice C cols.length c, .slice A l.length a] w fun e w' => e = .returned (.tuple #[.agg #[.int .i64 1, .string ⟨#[]⟩], .int .i64 0]) ∧ Below w.heap.size w w' := by
  have hst := run_sf
  have hm := OfMem.start w s 53
  have b0 : Below w.heap.size w ((w.alloc (.cells s.a 45)).alloc (.cells #[.int .i64 0, .string ⟨#[]⟩] 53)) := ((Below.refl _ _).alloc (Nat.le_refl _) _).alloc (by simp) _
  have HM := Lib.hid hm
  have HC0 := Lib.hid (hc.keep b0 (Nat.le_refl _))
  have HA0 := Lib.hid (ha.keep b0 (Nat.le_refl _))
  have HNA := Lib.hid hnA
  have t9 : (s.kind == 9) = true := by rw [beq_iff_eq]; omega
  have t5 : (s.kind == 5) = false := by rw [beq_eq_false_iff_ne]; omega
  have t7 : (s.kind == 7) = false := by rw [beq_eq_false_iff_ne]; omega
  have t6 : (s.kind == 6) = false := by rw [beq_eq_false_iff_ne]; omega
  have t8 : (s.kind == 8) = false := by rw [beq_eq_false_iff_ne]; omega
  clear hk
  clear hc ha hnA hm
  go_enter Try.func33, Try.ntmps33
  go_wp2_with fail
  refine bodyPost_ret (v := .tuple #[.agg #[.int .i64 1, .string ⟨#[]⟩], .int .i64 0]) (by simp [results, Try.results33, go_sem]) rfl ⟨rfl, ((Below.refl _ _).alloc (Nat.le_refl _) _).alloc (by simp) _⟩
set_option maxRecDepth 100000 in
set_option maxHeartbeats 2000000 in
theorem rof_form (s : Stm) (C : Option Addr) (c : Nat) (cols : List Col) (A : Option Addr) (a : Nat) (l : List Idx) (w : World) (hc : RdC w C cols) (ha : RdI w A l) (hnA : A = none → a = 0) (hcl : cols.length ≤ 1000) (hal : l.length ≤ 1000) (hk : s.kind ≠ 9 ∧ s.kind ≠ 5 ∧ s.kind ≠ 7 ∧ s.kind ≠ 6 ∧ s.kind ≠ 8) :
    Calls Try.prog 33 #[sv s, .slice C cols.length c, .slice A l.length a] w fun e w' => e = .returned (.tuple #[.agg #[.int .i64 0, .string ⟨#[]⟩], .int .i64 11]) ∧ Below w.heap.size w w' := by
  have hst := run_sf
  have hm := OfMem.start w s 53
  have b0 : Below w.heap.size w ((w.alloc (.cells s.a 45)).alloc (.cells #[.int .i64 0, .string ⟨#[]⟩] 53)) := ((Below.refl _ _).alloc (Nat.le_refl _) _).alloc (by simp) _
  have HM := Lib.hid hm
  have HC0 := Lib.hid (hc.keep b0 (Nat.le_refl _))
  have HA0 := Lib.hid (ha.keep b0 (Nat.le_refl _))
  have HNA := Lib.hid hnA
  have t9 : (s.kind == 9) = false := by rw [beq_eq_false_iff_ne]; omega
  have t5 : (s.kind == 5) = false := by rw [beq_eq_false_iff_ne]; omega
  have t7 : (s.kind == 7) = false := by rw [beq_eq_false_iff_ne]; omega
  have t6 : (s.kind == 6) = false := by rw [beq_eq_false_iff_ne]; omega
  have t8 : (s.kind == 8) = false := by rw [beq_eq_false_iff_ne]; omega
  clear hk
  clear hc ha hnA hm
  go_enter Try.func33, Try.ntmps33
  go_wp2_with fail
  refine bodyPost_ret (v := .tuple #[.agg #[.int .i64 0, .string ⟨#[]⟩], .int .i64 11]) (by simp [results, Try.results33, go_sem]) rfl ⟨rfl, ((Below.refl _ _).alloc (Nat.le_refl _) _).alloc (by simp) _⟩
set_option maxRecDepth 100000 in
set_option maxHeartbeats 2000000 in
theorem rof_lack5 (s : Stm) (C : Option Addr) (c : Nat) (cols : List Col) (A : Option Addr) (a : Nat) (l : List Idx) (w : World) (hc : RdC w C cols) (ha : RdI w A l) (hnA : A = none → a = 0) (hcl : cols.length ≤ 1000) (hal : l.length ≤ 1000) (hk : s.kind = 5) (hz : findV s.col cols 0 < 0) :
    Calls Try.prog 33 #[sv s, .slice C cols.length c, .slice A l.length a] w fun e w' => e = .returned (.tuple #[.agg #[.int .i64 0, .string ⟨#[]⟩], .int .i64 61]) ∧ Below w.heap.size w w' := by
  have hst := run_sf
  have hm := OfMem.start w s 53
  have b0 : Below w.heap.size w ((w.alloc (.cells s.a 45)).alloc (.cells #[.int .i64 0, .string ⟨#[]⟩] 53)) := ((Below.refl _ _).alloc (Nat.le_refl _) _).alloc (by simp) _
  have HM := Lib.hid hm
  have HC0 := Lib.hid (hc.keep b0 (Nat.le_refl _))
  have HA0 := Lib.hid (ha.keep b0 (Nat.le_refl _))
  have HNA := Lib.hid hnA
  have t9 : (s.kind == 9) = false := by rw [beq_eq_false_iff_ne]; omega
  have t5 : (s.kind == 5) = true := by rw [beq_iff_eq]; omega
  have t7 : (s.kind == 7) = false := by rw [beq_eq_false_iff_ne]; omega
  have t6 : (s.kind == 6) = false := by rw [beq_eq_false_iff_ne]; omega
  have t8 : (s.kind == 8) = false := by rw [beq_eq_false_iff_ne]; omega
  clear hk
  have hfz := fun w h => rfind_any C c cols s.col w h hcl
  generalize findV s.col cols 0 = z at *
  have tz : decide (z < 0) = true := decide_eq_true (by omega)
  clear hz
  clear hc ha hnA hm
  go_enter Try.func33, Try.ntmps33
  go_wp2_with (go_at_call 64; refine (hfz _ HC0.out).mono ?_; rintro e w1 ⟨rfl, rfl⟩)
  refine bodyPost_ret (v := .tuple #[.agg #[.int .i64 0, .string ⟨#[]⟩], .int .i64 61]) (by simp [results, Try.results33, go_sem]) rfl ⟨rfl, ((Below.refl _ _).alloc (Nat.le_refl _) _).alloc (by simp) _⟩
set_option maxRecDepth 100000 in
set_option maxHeartbeats 2000000 in
theorem rof_lack7 (s : Stm) (C : Option Addr) (c : Nat) (cols : List Col) (A : Option Addr) (a : Nat) (l : List Idx) (w : World) (hc : RdC w C cols) (ha : RdI w A l) (hnA : A = none → a = 0) (hcl : cols.length ≤ 1000) (hal : l.length ≤ 1000) (hk : s.kind = 7) (hz : findV s.col cols 0 < 0) :
    Calls Try.prog 33 #[sv s, .slice C cols.length c, .slice A l.length a] w fun e w' => e = .returned (.tuple #[.agg #[.int .i64 0, .string ⟨#[]⟩], .int .i64 61]) ∧ Below w.heap.size w w' := by
  have hst := run_sf
  have hm := OfMem.start w s 53
  have b0 : Below w.heap.size w ((w.alloc (.cells s.a 45)).alloc (.cells #[.int .i64 0, .string ⟨#[]⟩] 53)) := ((Below.refl _ _).alloc (Nat.le_refl _) _).alloc (by simp) _
  have HM := Lib.hid hm
  have HC0 := Lib.hid (hc.keep b0 (Nat.le_refl _))
  have HA0 := Lib.hid (ha.keep b0 (Nat.le_refl _))
  have HNA := Lib.hid hnA
  have t9 : (s.kind == 9) = false := by rw [beq_eq_false_iff_ne]; omega
  have t5 : (s.kind == 5) = false := by rw [beq_eq_false_iff_ne]; omega
  have t7 : (s.kind == 7) = true := by rw [beq_iff_eq]; omega
  have t6 : (s.kind == 6) = false := by rw [beq_eq_false_iff_ne]; omega
  have t8 : (s.kind == 8) = false := by rw [beq_eq_false_iff_ne]; omega
  clear hk
  have hfz := fun w h => rfind_any C c cols s.col w h hcl
  generalize findV s.col cols 0 = z at *
  have tz : decide (z < 0) = true := decide_eq_true (by omega)
  clear hz
  clear hc ha hnA hm
  go_enter Try.func33, Try.ntmps33
  go_wp2_with (go_at_call 64; refine (hfz _ HC0.out).mono ?_; rintro e w1 ⟨rfl, rfl⟩)
  refine bodyPost_ret (v := .tuple #[.agg #[.int .i64 0, .string ⟨#[]⟩], .int .i64 61]) (by simp [results, Try.results33, go_sem]) rfl ⟨rfl, ((Below.refl _ _).alloc (Nat.le_refl _) _).alloc (by simp) _⟩
set_option maxRecDepth 100000 in
set_option maxHeartbeats 2000000 in
theorem rof_lack6 (s : Stm) (C : Option Addr) (c : Nat) (cols : List Col) (A : Option Addr) (a : Nat) (l : List Idx) (w : World) (hc : RdC w C cols) (ha : RdI w A l) (hnA : A = none → a = 0) (hcl : cols.length ≤ 1000) (hal : l.length ≤ 1000) (hk : s.kind = 6) (hz : findV s.col cols 0 < 0) :
    Calls Try.prog 33 #[sv s, .slice C cols.length c, .slice A l.length a] w fun e w' => e = .returned (.tuple #[.agg #[.int .i64 0, .string ⟨#[]⟩], .int .i64 61]) ∧ Below w.heap.size w w' := by
  have hst := run_sf
  have hm := OfMem.start w s 53
  have b0 : Below w.heap.size w ((w.alloc (.cells s.a 45)).alloc (.cells #[.int .i64 0, .string ⟨#[]⟩] 53)) := ((Below.refl _ _).alloc (Nat.le_refl _) _).alloc (by simp) _
  have HM := Lib.hid hm
  have HC0 := Lib.hid (hc.keep b0 (Nat.le_refl _))
  have HA0 := Lib.hid (ha.keep b0 (Nat.le_refl _))
  have HNA := Lib.hid hnA
  have t9 : (s.kind == 9) = false := by rw [beq_eq_false_iff_ne]; omega
  have t5 : (s.kind == 5) = false := by rw [beq_eq_false_iff_ne]; omega
  have t7 : (s.kind == 7) = false := by rw [beq_eq_false_iff_ne]; omega
  have t6 : (s.kind == 6) = true := by rw [beq_iff_eq]; omega
  have t8 : (s.kind == 8) = false := by rw [beq_eq_false_iff_ne]; omega
  clear hk
  have hfz := fun w h => rfind_any C c cols s.col w h hcl
  generalize findV s.col cols 0 = z at *
  have tz : decide (z < 0) = true := decide_eq_true (by omega)
  clear hz
  clear hc ha hnA hm
  go_enter Try.func33, Try.ntmps33
  go_wp2_with (go_at_call 64; refine (hfz _ HC0.out).mono ?_; rintro e w1 ⟨rfl, rfl⟩)
  refine bodyPost_ret (v := .tuple #[.agg #[.int .i64 0, .string ⟨#[]⟩], .int .i64 61]) (by simp [results, Try.results33, go_sem]) rfl ⟨rfl, ((Below.refl _ _).alloc (Nat.le_refl _) _).alloc (by simp) _⟩
set_option maxRecDepth 100000 in
set_option maxHeartbeats 2000000 in
theorem rof_lack8 (s : Stm) (C : Option Addr) (c : Nat) (cols : List Col) (A : Option Addr) (a : Nat) (l : List Idx) (w : World) (hc : RdC w C cols) (ha : RdI w A l) (hnA : A = none → a = 0) (hcl : cols.length ≤ 1000) (hal : l.length ≤ 1000) (hk : s.kind = 8) (hz : findV s.col cols 0 < 0) :
    Calls Try.prog 33 #[sv s, .slice C cols.length c, .slice A l.length a] w fun e w' => e = .returned (.tuple #[.agg #[.int .i64 0, .string ⟨#[]⟩], .int .i64 61]) ∧ Below w.heap.size w w' := by
  have hst := run_sf
  have hm := OfMem.start w s 53
  have b0 : Below w.heap.size w ((w.alloc (.cells s.a 45)).alloc (.cells #[.int .i64 0, .string ⟨#[]⟩] 53)) := ((Below.refl _ _).alloc (Nat.le_refl _) _).alloc (by simp) _
  have HM := Lib.hid hm
  have HC0 := Lib.hid (hc.keep b0 (Nat.le_refl _))
  have HA0 := Lib.hid (ha.keep b0 (Nat.le_refl _))
  have HNA := Lib.hid hnA
  have t9 : (s.kind == 9) = false := by rw [beq_eq_false_iff_ne]; omega
  have t5 : (s.kind == 5) = false := by rw [beq_eq_false_iff_ne]; omega
  have t7 : (s.kind == 7) = false := by rw [beq_eq_false_iff_ne]; omega
  have t6 : (s.kind == 6) = false := by rw [beq_eq_false_iff_ne]; omega
  have t8 : (s.kind == 8) = true := by rw [beq_iff_eq]; omega
  clear hk
  have hfz := fun w h => rfind_any C c cols s.col w h hcl
  generalize findV s.col cols 0 = z at *
  have tz : decide (z < 0) = true := decide_eq_true (by omega)
  clear hz
  clear hc ha hnA hm
  go_enter Try.func33, Try.ntmps33
  go_wp2_with (go_at_call 64; refine (hfz _ HC0.out).mono ?_; rintro e w1 ⟨rfl, rfl⟩)
  refine bodyPost_ret (v := .tuple #[.agg #[.int .i64 0, .string ⟨#[]⟩], .int .i64 61]) (by simp [results, Try.results33, go_sem]) rfl ⟨rfl, ((Below.refl _ _).alloc (Nat.le_refl _) _).alloc (by simp) _⟩
set_option maxRecDepth 100000 in
set_option maxHeartbeats 2000000 in
theorem rof_lackset (s : Stm) (C : Option Addr) (c : Nat) (cols : List Col) (A : Option Addr) (a : Nat) (l : List Idx) (w : World) (hc : RdC w C cols) (ha : RdI w A l) (hnA : A = none → a = 0) (hcl : cols.length ≤ 1000) (hal : l.length ≤ 1000) (hk : s.kind = 5) (hz : ¬ findV s.col cols 0 < 0) (hy : findV s.set cols 0 < 0) :
    Calls Try.prog 33 #[sv s, .slice C cols.length c, .slice A l.length a] w fun e w' => e = .returned (.tuple #[.agg #[.int .i64 0, .string ⟨#[]⟩], .int .i64 61]) ∧ Below w.heap.size w w' := by
  have hst := run_sf
  have hm := OfMem.start w s 53
  have b0 : Below w.heap.size w ((w.alloc (.cells s.a 45)).alloc (.cells #[.int .i64 0, .string ⟨#[]⟩] 53)) := ((Below.refl _ _).alloc (Nat.le_refl _) _).alloc (by simp) _
  have HM := Lib.hid hm
  have HC0 := Lib.hid (hc.keep b0 (Nat.le_refl _))
  have HA0 := Lib.hid (ha.keep b0 (Nat.le_refl _))
  have HNA := Lib.hid hnA
  have t9 : (s.kind == 9) = false := by rw [beq_eq_false_iff_ne]; omega
  have t5 : (s.kind == 5) = true := by rw [beq_iff_eq]; omega
  have t7 : (s.kind == 7) = false := by rw [beq_eq_false_iff_ne]; omega
  have t6 : (s.kind == 6) = false := by rw [beq_eq_false_iff_ne]; omega
  have t8 : (s.kind == 8) = false := by rw [beq_eq_false_iff_ne]; omega
  clear hk
  have hfz := fun w h => rfind_any C c cols s.col w h hcl
  generalize findV s.col cols 0 = z at *
  have tz : decide (z < 0) = false := decide_eq_false (by omega)
  clear hz
  have hfy := fun w h => rfind_any C c cols s.set w h hcl
  generalize findV s.set cols 0 = y at *
  have ty : decide (y < 0) = true := decide_eq_true (by omega)
  clear hy
  clear hc ha hnA hm
  go_enter Try.func33, Try.ntmps33
  go_wp2_with fail
  refine (hfz _ HC0.out).mono ?_
  rintro e w1 ⟨rfl, rfl⟩
  go_wp2_with fail
  refine (hfy _ HC0.out).mono ?_
  rintro e w1 ⟨rfl, rfl⟩
  go_wp2_with fail
  refine bodyPost_ret (v := .tuple #[.agg #[.int .i64 0, .string ⟨#[]⟩], .int .i64 61]) (by simp [results, Try.results33, go_sem]) rfl ⟨rfl, ((Below.refl _ _).alloc (Nat.le_refl _) _).alloc (by simp) _⟩
end Go.Proofs.Ytobdooojdadgpaa
