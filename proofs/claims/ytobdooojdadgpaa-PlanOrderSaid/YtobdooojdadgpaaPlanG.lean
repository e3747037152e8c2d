/- Contract: plan.Of. -/
import Derived.Test.YtobdooojdadgpaaPlanF
namespace Go.Proofs.Ytobdooojdadgpaa
open Go.RowKit
set_option linter.unusedVariables false
structure Stm where
  kind : Int
  tab : ByteArray
  nam : ByteArray
  col : ByteArray
  set : ByteArray
  v : Val
  w : Val
  rA : Option Addr
  rn : Nat
  rc : Nat
  cA : Option Addr
  cn : Nat
  cc : Nat
  flag : Bool
abbrev sa (k : Int) (t n c s : ByteArray) (v w : Val) (rA : Option Addr) (rn rc : Nat) (cA : Option Addr) (cn cc : Nat) (f : Bool) : Array Value :=
  #[.int .i64 k, .string t, .string n, .string c, .string s, .int .i64 v.kind, .int .i64 v.n, .float .f64 v.f, .string v.s, .int .i64 w.kind, .int .i64 w.n, .float .f64 w.f, .string w.s, .slice rA rn rc, .slice cA cn cc, .bool f]
abbrev Stm.a (s : Stm) : Array Value := sa s.kind s.tab s.nam s.col s.set s.v s.w s.rA s.rn s.rc s.cA s.cn s.cc s.flag
abbrev sv (s : Stm) : Value := .agg s.a
/-- The two variables that a plan's maker boxes: the statement and the answer. -/
def OfMem (w : World) (b : Nat) (k : Int) (c s : ByteArray) : Prop := w.cell? ⟨b, 0, none⟩ = some (.int .i64 k) ∧ w.cell? ⟨b, 3, none⟩ = some (.string c) ∧ w.cell? ⟨b, 4, none⟩ = some (.string s) ∧ w.cell? ⟨b + 1, 0, none⟩ = some (.int .i64 0) ∧ w.cell? ⟨b + 1, 1, none⟩ = some (.string ⟨#[]⟩) ∧
  w.frozen? ⟨b + 1, 0, none⟩ = false ∧ w.frozen? ⟨b + 1, 1, none⟩ = false
theorem OfMem.lt {w : World} {b : Nat} {k : Int} {c s : ByteArray} (h : OfMem w b k c s) : b + 1 < w.heap.size := World.block_lt_of_cell? _ _ h.2.2.2.1
theorem OfMem.keep {w w' : World} {b : Nat} {k : Int} {c s : ByteArray} (h : OfMem w b k c s) (hb : Below w.heap.size w w') : OfMem w' b k c s := by
  have hlt := h.lt
  obtain ⟨a1, a2, a3, a4, a5, a6, a7⟩ := h
  exact ⟨kc hb a1, kc hb a2, kc hb a3, kc hb a4, kc hb a5, (hb.frozen (p := ⟨b + 1, 0, none⟩) hlt).trans a6, (hb.frozen (p := ⟨b + 1, 1, none⟩) hlt).trans a7⟩
theorem fld60 (a b c d : Value) (w : World) : (Instr.field 60 (.agg #[a, b, c, d]) 0).run Try.prog w = .ok a w := by kernel_rfl
theorem res_cells (w : World) (b : Nat) (v0 v1 o0 o1 : Value) (h0 : w.cell? ⟨b, 0, none⟩ = some o0) (h1 : w.cell? ⟨b, 1, none⟩ = some o1) (o : Obj) :
    (((w.setCell ⟨b, 0, none⟩ v0).setCell ⟨b, 1, none⟩ v1).alloc o).cell? ⟨b, 0, none⟩ = some v0 ∧ (((w.setCell ⟨b, 0, none⟩ v0).setCell ⟨b, 1, none⟩ v1).alloc o).cell? ⟨b, 1, none⟩ = some v1 := by
  have c0 : (w.setCell ⟨b, 0, none⟩ v0).cell? ⟨b, 0, none⟩ = some v0 := World.cell?_setCell_same _ _ _ h0
  have c1 : (w.setCell ⟨b, 0, none⟩ v0).cell? ⟨b, 1, none⟩ = some o1 := (World.cell?_setCell_other _ _ _ _ (fun e => by cases e)).trans h1
  have d0 : ((w.setCell ⟨b, 0, none⟩ v0).setCell ⟨b, 1, none⟩ v1).cell? ⟨b, 0, none⟩ = some v0 := (World.cell?_setCell_other _ _ _ _ (fun e => by cases e)).trans c0
  have d1 : ((w.setCell ⟨b, 0, none⟩ v0).setCell ⟨b, 1, none⟩ v1).cell? ⟨b, 1, none⟩ = some v1 := World.cell?_setCell_same _ _ _ c1
  exact ⟨kc ((Below.refl _ _).alloc (Nat.le_refl _) _) d0, kc ((Below.refl _ _).alloc (Nat.le_refl _) _) d1⟩
theorem OfMem.start (w : World) (s : Stm) (ty : TypeId) : OfMem ((w.alloc (.cells s.a 45)).alloc (.cells #[.int .i64 0, .string ⟨#[]⟩] ty)) w.heap.size s.kind s.col s.set := by
  have e : (w.alloc (.cells s.a 45)).heap.size = w.heap.size + 1 := by simp
  have hb : Below (w.alloc (.cells s.a 45)).heap.size _ ((w.alloc (.cells s.a 45)).alloc (.cells #[.int .i64 0, .string ⟨#[]⟩] ty)) := (Below.refl _ _).alloc (Nat.le_refl _) _
  have c0 : (w.alloc (.cells s.a 45)).cell? ⟨w.heap.size, 0, none⟩ = some (.int .i64 s.kind) := World.cell?_alloc_new _ _ _ _
  have c3 : (w.alloc (.cells s.a 45)).cell? ⟨w.heap.size, 3, none⟩ = some (.string s.col) := World.cell?_alloc_new _ _ _ _
  have c4 : (w.alloc (.cells s.a 45)).cell? ⟨w.heap.size, 4, none⟩ = some (.string s.set) := World.cell?_alloc_new _ _ _ _
  have d0 := World.cell?_alloc_new (w.alloc (.cells s.a 45)) #[.int .i64 0, .string ⟨#[]⟩] ty 0
  have d1 := World.cell?_alloc_new (w.alloc (.cells s.a 45)) #[.int .i64 0, .string ⟨#[]⟩] ty 1
  have f0 := World.frozen?_alloc_new (w.alloc (.cells s.a 45)) #[.int .i64 0, .string ⟨#[]⟩] ty 0
  have f1 := World.frozen?_alloc_new (w.alloc (.cells s.a 45)) #[.int .i64 0, .string ⟨#[]⟩] ty 1
  rw [e] at d0 d1 f0 f1
  exact ⟨kc hb c0, kc hb c3, kc hb c4, d0, d1, f0, f1⟩
set_option maxRecDepth 100000 in
set_option maxHeartbeats 2000000 in
theorem of_scan (s : Stm) (C : Option Addr) (c : Nat) (cols : List Col) (A : Option Addr) (a : Nat) (l : List Idx) (w : World) (hc : RdC w C cols) (ha : RdI w A l) (hnA : A = none → a = 0) (hcl : cols.length ≤ 1000) (hal : l.length ≤ 1000) (hk : s.kind = 9) :
    Calls Try.prog 31 #[sv s, .slice C cols.length c, .slice A l.length a] w fun e w' => e = .returned (.tuple #[.agg #[.int .i64 1, .string ⟨#[]⟩], .int .i64 0]) ∧ Below w.heap.size w w' := by
  have hst := run_sf
  have hm := OfMem.start w s 49
  have b0 : Below w.heap.size w ((w.alloc (.cells s.a 45)).alloc (.cells #[.int .i64 0, .string ⟨#[]⟩] 49)) := ((Below.refl _ _).alloc (Nat.le_refl _) _).alloc (by simp) _
  have HM := Lib.hid hm
  have HC0 := Lib.hid (hc.keep b0 (Nat.le_refl _))
  have HA0 := Lib.hid (ha.keep b0 (Nat.le_refl _))
  have HNA := Lib.hid hnA
  have t9 : (s.kind == 9) = true := by rw [beq_iff_eq]; omega
  have t5 : (s.kind == 5) = false := by rw [beq_eq_false_iff_ne]; omega
  have t7 : (s.kind == 7) = false := by rw [beq_eq_false_iff_ne]; omega
  have t6 : (s.kind == 6) = false := by rw [beq_eq_false_iff_ne]; omega
  have t8 : (s.kind == 8) = false := by rw [beq_eq_false_iff_ne]; omega
  clear hk
  clear hc ha hnA hm
  go_enter Try.func31, Try.ntmps31
  go_wp2_with fail
  have hf := find_any C c cols s.col _ HC0.out hcl
  generalize findV s.col cols 0 = z at *
  refine hf.mono ?_
  rintro e w1 ⟨rfl, b1⟩
  obtain ⟨m1, m2, m3, m4, m5, m6, m7⟩ := HM.out.keep b1
  have HM1 := Lib.hid (HM.out.keep b1)
  have hlt1 := HM1.out.lt
  have k1 := b0.trans (b1.mono b0.size)
  have HC1 := Lib.hid (HC0.out.keep b1 (Nat.le_refl _))
  have HA1 := Lib.hid (HA0.out.keep b1 (Nat.le_refl _))
  clear hf b0 b1 HM HC0 HA0
  go_wp2_with fail
  refine bodyPost_ret (v := .tuple #[.agg #[.int .i64 1, .string ⟨#[]⟩], .int .i64 0]) (by simp [results, Try.results31, go_sem, m4, m5]) rfl ⟨rfl, (k1.setCell (by show w.heap.size ≤ w.heap.size + 1; omega) _).setCell (by show w.heap.size ≤ w.heap.size + 1; omega) _⟩
set_option maxRecDepth 100000 in
set_option maxHeartbeats 2000000 in
theorem of_form (s : Stm) (C : Option Addr) (c : Nat) (cols : List Col) (A : Option Addr) (a : Nat) (l : List Idx) (w : World) (hc : RdC w C cols) (ha : RdI w A l) (hnA : A = none → a = 0) (hcl : cols.length ≤ 1000) (hal : l.length ≤ 1000) (hk : s.kind ≠ 9 ∧ s.kind ≠ 5 ∧ s.kind ≠ 7 ∧ s.kind ≠ 6 ∧ s.kind ≠ 8) :
    Calls Try.prog 31 #[sv s, .slice C cols.length c, .slice A l.length a] w fun e w' => e = .returned (.tuple #[.agg #[.int .i64 0, .string ⟨#[]⟩], .int .i64 11]) ∧ Below w.heap.size w w' := by
  have hst := run_sf
  have hm := OfMem.start w s 49
  have b0 : Below w.heap.size w ((w.alloc (.cells s.a 45)).alloc (.cells #[.int .i64 0, .string ⟨#[]⟩] 49)) := ((Below.refl _ _).alloc (Nat.le_refl _) _).alloc (by simp) _
  have HM := Lib.hid hm
  have HC0 := Lib.hid (hc.keep b0 (Nat.le_refl _))
  have HA0 := Lib.hid (ha.keep b0 (Nat.le_refl _))
  have HNA := Lib.hid hnA
  have t9 : (s.kind == 9) = false := by rw [beq_eq_false_iff_ne]; omega
  have t5 : (s.kind == 5) = false := by rw [beq_eq_false_iff_ne]; omega
  have t7 : (s.kind == 7) = false := by rw [beq_eq_false_iff_ne]; omega
  have t6 : (s.kind == 6) = false := by rw [beq_eq_false_iff_ne]; omega
  have t8 : (s.kind == 8) = false := by rw [beq_eq_false_iff_ne]; omega
  clear hk
  clear hc ha hnA hm
  go_enter Try.func31, Try.ntmps31
  go_wp2_with fail
  have hf := find_any C c cols s.col _ HC0.out hcl
  generalize findV s.col cols 0 = z at *
  refine hf.mono ?_
  rintro e w1 ⟨rfl, b1⟩
  obtain ⟨m1, m2, m3, m4, m5, m6, m7⟩ := HM.out.keep b1
  have HM1 := Lib.hid (HM.out.keep b1)
  have hlt1 := HM1.out.lt
  have k1 := b0.trans (b1.mono b0.size)
  have HC1 := Lib.hid (HC0.out.keep b1 (Nat.le_refl _))
  have HA1 := Lib.hid (HA0.out.keep b1 (Nat.le_refl _))
  clear hf b0 b1 HM HC0 HA0
  go_wp2_with fail
  refine bodyPost_ret (v := .tuple #[.agg #[.int .i64 0, .string ⟨#[]⟩], .int .i64 11]) (by simp [results, Try.results31, go_sem, m4, m5]) rfl ⟨rfl, (k1.setCell (by show w.heap.size ≤ w.heap.size + 1; omega) _).setCell (by show w.heap.size ≤ w.heap.size + 1; omega) _⟩
set_option maxRecDepth 100000 in
set_option maxHeartbeats 2000000 in
theorem of_lack5 (s : Stm) (C : Option Addr) (c : Nat) (cols : List Col) (A : Option Addr) (a : Nat) (l : List Idx) (w : World) (hc : RdC w C cols) (ha : RdI w A l) (hnA : A = none → a = 0) (hcl : cols.length ≤ 1000) (hal : l.length ≤ 1000) (hk : s.kind = 5) (hz : findV s.col cols 0 < 0) :
    Calls Try.prog 31 #[sv s, .slice C cols.length c, .slice A l.length a] w fun e w' => e = .returned (.tuple #[.agg #[.int .i64 0, .string ⟨#[]⟩], .int .i64 61]) ∧ Below w.heap.size w w' := by
  have hst := run_sf
  have hm := OfMem.start w s 49
  have b0 : Below w.heap.size w ((w.alloc (.cells s.a 45)).alloc (.cells #[.int .i64 0, .string ⟨#[]⟩] 49)) := ((Below.refl _ _).alloc (Nat.le_refl _) _).alloc (by simp) _
  have HM := Lib.hid hm
  have HC0 := Lib.hid (hc.keep b0 (Nat.le_refl _))
  have HA0 := Lib.hid (ha.keep b0 (Nat.le_refl _))
  have HNA := Lib.hid hnA
  have t9 : (s.kind == 9) = false := by rw [beq_eq_false_iff_ne]; omega
  have t5 : (s.kind == 5) = true := by rw [beq_iff_eq]; omega
  have t7 : (s.kind == 7) = false := by rw [beq_eq_false_iff_ne]; omega
  have t6 : (s.kind == 6) = false := by rw [beq_eq_false_iff_ne]; omega
  have t8 : (s.kind == 8) = false := by rw [beq_eq_false_iff_ne]; omega
  clear hk
  clear hc ha hnA hm
  go_enter Try.func31, Try.ntmps31
  go_wp2_with fail
  have hf := find_any C c cols s.col _ HC0.out hcl
  generalize findV s.col cols 0 = z at *
  have tz : decide (z < 0) = true := decide_eq_true (by omega)
  clear hz
  refine hf.mono ?_
  rintro e w1 ⟨rfl, b1⟩
  obtain ⟨m1, m2, m3, m4, m5, m6, m7⟩ := HM.out.keep b1
  have HM1 := Lib.hid (HM.out.keep b1)
  have hlt1 := HM1.out.lt
  have k1 := b0.trans (b1.mono b0.size)
  have HC1 := Lib.hid (HC0.out.keep b1 (Nat.le_refl _))
  have HA1 := Lib.hid (HA0.out.keep b1 (Nat.le_refl _))
  clear hf b0 b1 HM HC0 HA0
  go_wp2_with fail
  refine bodyPost_ret (v := .tuple #[.agg #[.int .i64 0, .string ⟨#[]⟩], .int .i64 61]) (by simp [results, Try.results31, go_sem, m4, m5]) rfl ⟨rfl, (k1.setCell (by show w.heap.size ≤ w.heap.size + 1; omega) _).setCell (by show w.heap.size ≤ w.heap.size + 1; omega) _⟩
set_option maxRecDepth 100000 in
set_option maxHeartbeats 2000000 in
theorem of_lack7 (s : Stm) (C : Option Addr) (c : Nat) (cols : List Col) (A : Option Addr) (a : Nat) (l : List Idx) (w : World) (hc : RdC w C cols) (ha : RdI w A l) (hnA : A = none → a = 0) (hcl : cols.length ≤ 1000) (hal : l.length ≤ 1000) (hk : s.kind = 7) (hz : findV s.col cols 0 < 0) :
    Calls Try.prog 31 #[sv s, .slice C cols.length c, .slice A l.length a] w fun e w' => e = .returned (.tuple #[.agg #[.int .i64 0, .string ⟨#[]⟩], .int .i64 61]) ∧ Below w.heap.size w w' := by
  have hst := run_sf
  have hm := OfMem.start w s 49
  have b0 : Below w.heap.size w ((w.alloc (.cells s.a 45)).alloc (.cells #[.int .i64 0, .string ⟨#[]⟩] 49)) := ((Below.refl _ _).alloc (Nat.le_refl _) _).alloc (by simp) _
  have HM := Lib.hid hm
  have HC0 := Lib.hid (hc.keep b0 (Nat.le_refl _))
  have HA0 := Lib.hid (ha.keep b0 (Nat.le_refl _))
  have HNA := Lib.hid hnA
  have t9 : (s.kind == 9) = false := by rw [beq_eq_false_iff_ne]; omega
  have t5 : (s.kind == 5) = false := by rw [beq_eq_false_iff_ne]; omega
  have t7 : (s.kind == 7) = true := by rw [beq_iff_eq]; omega
  have t6 : (s.kind == 6) = false := by rw [beq_eq_false_iff_ne]; omega
  have t8 : (s.kind == 8) = false := by rw [beq_eq_false_iff_ne]; omega
  clear hk
  clear hc ha hnA hm
  go_enter Try.func31, Try.ntmps31
  go_wp2_with fail
  have hf := find_any C c cols s.col _ HC0.out hcl
  generalize findV s.col cols 0 = z at *
  have tz : decide (z < 0) = true := decide_eq_true (by omega)
  clear hz
  refine hf.mono ?_
  rintro e w1 ⟨rfl, b1⟩
  obtain ⟨m1, m2, m3, m4, m5, m6, m7⟩ := HM.out.keep b1
  have HM1 := Lib.hid (HM.out.keep b1)
  have hlt1 := HM1.out.lt
  have k1 := b0.trans (b1.mono b0.size)
  have HC1 := Lib.hid (HC0.out.keep b1 (Nat.le_refl _))
  have HA1 := Lib.hid (HA0.out.keep b1 (Nat.le_refl _))
  clear hf b0 b1 HM HC0 HA0
  go_wp2_with fail
  refine bodyPost_ret (v := .tuple #[.agg #[.int .i64 0, .string ⟨#[]⟩], .int .i64 61]) (by simp [results, Try.results31, go_sem, m4, m5]) rfl ⟨rfl, (k1.setCell (by show w.heap.size ≤ w.heap.size + 1; omega) _).setCell (by show w.heap.size ≤ w.heap.size + 1; omega) _⟩
set_option maxRecDepth 100000 in
set_option maxHeartbeats 2000000 in
theorem of_lack6 (s : Stm) (C : Option Addr) (c : Nat) (cols : List Col) (A : Option Addr) (a : Nat) (l : List Idx) (w : World) (hc : RdC w C cols) (ha : RdI w A l) (hnA : A = none → a = 0) (hcl : cols.length ≤ 1000) (hal : l.length ≤ 1000) (hk : s.kind = 6) (hz : findV s.col cols 0 < 0) :
    Calls Try.prog 31 #[sv s, .slice C cols.length c, .slice A l.length a] w fun e w' => e = .returned (.tuple #[.agg #[.int .i64 0, .string ⟨#[]⟩], .int .i64 61]) ∧ Below w.heap.size w w' := by
  have hst := run_sf
  have hm := OfMem.start w s 49
  have b0 : Below w.heap.size w ((w.alloc (.cells s.a 45)).alloc (.cells #[.int .i64 0, .string ⟨#[]⟩] 49)) := ((Below.refl _ _).alloc (Nat.le_refl _) _).alloc (by simp) _
  have HM := Lib.hid hm
  have HC0 := Lib.hid (hc.keep b0 (Nat.le_refl _))
  have HA0 := Lib.hid (ha.keep b0 (Nat.le_refl _))
  have HNA := Lib.hid hnA
  have t9 : (s.kind == 9) = false := by rw [beq_eq_false_iff_ne]; omega
  have t5 : (s.kind == 5) = false := by rw [beq_eq_false_iff_ne]; omega
  have t7 : (s.kind == 7) = false := by rw [beq_eq_false_iff_ne]; omega
  have t6 : (s.kind == 6) = true := by rw [beq_iff_eq]; omega
  have t8 : (s.kind == 8) = false := by rw [beq_eq_false_iff_ne]; omega
  clear hk
  clear hc ha hnA hm
  go_enter Try.func31, Try.ntmps31
  go_wp2_with fail
  have hf := find_any C c cols s.col _ HC0.out hcl
  generalize findV s.col cols 0 = z at *
  have tz : decide (z < 0) = true := decide_eq_true (by omega)
  clear hz
  refine hf.mono ?_
  rintro e w1 ⟨rfl, b1⟩
  obtain ⟨m1, m2, m3, m4, m5, m6, m7⟩ := HM.out.keep b1
  have HM1 := Lib.hid (HM.out.keep b1)
  have hlt1 := HM1.out.lt
  have k1 := b0.trans (b1.mono b0.size)
  have HC1 := Lib.hid (HC0.out.keep b1 (Nat.le_refl _))
  have HA1 := Lib.hid (HA0.out.keep b1 (Nat.le_refl _))
  clear hf b0 b1 HM HC0 HA0
  go_wp2_with fail
  refine bodyPost_ret (v := .tuple #[.agg #[.int .i64 0, .string ⟨#[]⟩], .int .i64 61]) (by simp [results, Try.results31, go_sem, m4, m5]) rfl ⟨rfl, (k1.setCell (by show w.heap.size ≤ w.heap.size + 1; omega) _).setCell (by show w.heap.size ≤ w.heap.size + 1; omega) _⟩
set_option maxRecDepth 100000 in
set_option maxHeartbeats 2000000 in
theorem of_lack8 (s : Stm) (C : Option Addr) (c : Nat) (cols : List Col) (A : Option Addr) (a : Nat) (l : List Idx) (w : World) (hc : RdC w C cols) (ha : RdI w A l) (hnA : A = none → a = 0) (hcl : cols.length ≤ 1000) (hal : l.length ≤ 1000) (hk : s.kind = 8) (hz : findV s.col cols 0 < 0) :
    Calls Try.prog 31 #[sv s, .slice C cols.length c, .slice A l.length a] w fun e w' => e = .returned (.tuple #[.agg #[.int .i64 0, .string ⟨#[]⟩], .int .i64 61]) ∧ Below w.heap.size w w' := by
  have hst := run_sf
  have hm := OfMem.start w s 49
  have b0 : Below w.heap.size w ((w.alloc (.cells s.a 45)).alloc (.cells #[.int .i64 0, .string ⟨#[]⟩] 49)) := ((Below.refl _ _).alloc (Nat.le_refl _) _).alloc (by simp) _
  have HM := Lib.hid hm
  have HC0 := Lib.hid (hc.keep b0 (Nat.le_refl _))
  have HA0 := Lib.hid (ha.keep b0 (Nat.le_refl _))
  have HNA := Lib.hid hnA
  have t9 : (s.kind == 9) = false := by rw [beq_eq_false_iff_ne]; omega
  have t5 : (s.kind == 5) = false := by rw [beq_eq_false_iff_ne]; omega
  have t7 : (s.kind == 7) = false := by rw [beq_eq_false_iff_ne]; omega
  have t6 : (s.kind == 6) = false := by rw [beq_eq_false_iff_ne]; omega
  have t8 : (s.kind == 8) = true := by rw [beq_iff_eq]; omega
  clear hk
  clear hc ha hnA hm
  go_enter Try.func31, Try.ntmps31
  go_wp2_with fail
  have hf := find_any C c cols s.col _ HC0.out hcl
  generalize findV s.col cols 0 = z at *
  have tz : decide (z < 0) = true := decide_eq_true (by omega)
  clear hz
  refine hf.mono ?_
  rintro e w1 ⟨rfl, b1⟩
  obtain ⟨m1, m2, m3, m4, m5, m6, m7⟩ := HM.out.keep b1
  have HM1 := Lib.hid (HM.out.keep b1)
  have hlt1 := HM1.out.lt
  have k1 := b0.trans (b1.mono b0.size)
  have HC1 := Lib.hid (HC0.out.keep b1 (Nat.le_refl _))
  have HA1 := Lib.hid (HA0.out.keep b1 (Nat.le_refl _))
  clear hf b0 b1 HM HC0 HA0
  go_wp2_with fail
  refine bodyPost_ret (v := .tuple #[.agg #[.int .i64 0, .string ⟨#[]⟩], .int .i64 61]) (by simp [results, Try.results31, go_sem, m4, m5]) rfl ⟨rfl, (k1.setCell (by show w.heap.size ≤ w.heap.size + 1; omega) _).setCell (by show w.heap.size ≤ w.heap.size + 1; omega) _⟩
set_option maxRecDepth 100000 in
set_option maxHeartbeats 2000000 in
theorem of_lackset (s : Stm) (C : Option Addr) (c : Nat) (cols : List Col) (A : Option Addr) (a : Nat) (l : List Idx) (w : World) (hc : RdC w C cols) (ha : RdI w A l) (hnA : A = none → a = 0) (hcl : cols.length ≤ 1000) (hal : l.length ≤ 1000) (hk : s.kind = 5) (hz : ¬ findV s.col cols 0 < 0) (hy : findV s.set cols 0 < 0) :
    Calls Try.prog 31 #[sv s, .slice C cols.length c, .slice A l.length a] w fun e w' => e = .returned (.tuple #[.agg #[.int .i64 0, .string ⟨#[]⟩], .int .i64 61]) ∧ Below w.heap.size w w' := by
  have hst := run_sf
  have hm := OfMem.start w s 49
  have b0 : Below w.heap.size w ((w.alloc (.cells s.a 45)).alloc (.cells #[.int .i64 0, .string ⟨#[]⟩] 49)) := ((Below.refl _ _).alloc (Nat.le_refl _) _).alloc (by simp) _
  have HM := Lib.hid hm
  have HC0 := Lib.hid (hc.keep b0 (Nat.le_refl _))
  have HA0 := Lib.hid (ha.keep b0 (Nat.le_refl _))
  have HNA := Lib.hid hnA
  have t9 : (s.kind == 9) = false := by rw [beq_eq_false_iff_ne]; omega
  have t5 : (s.kind == 5) = true := by rw [beq_iff_eq]; omega
  have t7 : (s.kind == 7) = false := by rw [beq_eq_false_iff_ne]; omega
  have t6 : (s.kind == 6) = false := by rw [beq_eq_false_iff_ne]; omega
  have t8 : (s.kind == 8) = false := by rw [beq_eq_false_iff_ne]; omega
  clear hk
  clear hc ha hnA hm
  go_enter Try.func31, Try.ntmps31
  go_wp2_with fail
  have hf := find_any C c cols s.col _ HC0.out hcl
  generalize findV s.col cols 0 = z at *
  have tz : decide (z < 0) = false := decide_eq_false (by omega)
  clear hz
  refine hf.mono ?_
  rintro e w1 ⟨rfl, b1⟩
  obtain ⟨m1, m2, m3, m4, m5, m6, m7⟩ := HM.out.keep b1
  have HM1 := Lib.hid (HM.out.keep b1)
  have hlt1 := HM1.out.lt
  have k1 := b0.trans (b1.mono b0.size)
  have HC1 := Lib.hid (HC0.out.keep b1 (Nat.le_refl _))
  have HA1 := Lib.hid (HA0.out.keep b1 (Nat.le_refl _))
  clear hf b0 b1 HM HC0 HA0
  go_wp2_with fail
  have hf2 := find_any C c cols s.set w1 HC1.out hcl
  generalize findV s.set cols 0 = y at *
  have ty : decide (y < 0) = true := decide_eq_true (by omega)
  clear hy
  refine hf2.mono ?_
  rintro e w2 ⟨rfl, b2⟩
  obtain ⟨n1, n2, n3, n4, n5, n6, n7⟩ := HM1.out.keep b2
  have HM2 := Lib.hid (HM1.out.keep b2)
  have hlt2 := HM2.out.lt
  have k2 := k1.trans (b2.mono k1.size)
  have HC2 := Lib.hid (HC1.out.keep b2 (Nat.le_refl _))
  have HA2 := Lib.hid (HA1.out.keep b2 (Nat.le_refl _))
  clear hf2 b2 k1 HM1 HC1 HA1 m1 m2 m3 m4 m5 m6 m7 hlt1
  go_wp2_with fail
  refine bodyPost_ret (v := .tuple #[.agg #[.int .i64 0, .string ⟨#[]⟩], .int .i64 61]) (by simp [results, Try.results31, go_sem, n4, n5]) rfl ⟨rfl, (k2.setCell (by show w.heap.size ≤ w.heap.size + 1; omega) _).setCell (by show w.heap.size ≤ w.heap.size + 1; omega) _⟩
end Go.Proofs.Ytobdooojdadgpaa
