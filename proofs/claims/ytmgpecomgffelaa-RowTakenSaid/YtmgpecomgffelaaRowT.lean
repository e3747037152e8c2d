/- Contracts: row.Add, liveryref04.Add. -/
import Derived.Test.YtmgpecomgffelaaRowS
import Derived.Test.YtmgpecomgffelaaRowP
import Derived.Deep.RegionHeld3
namespace Go.Proofs.Ytmgpecomgffelaa
open Go.RowKit
set_option linter.unusedVariables false
def addE (l : List Col) (x : Col) : Int := if goodC l = false then 11 else if oneV x = false then 11 else if 0 ≤ findV x.name l 0 then 62 else if l.length = 6 then 3 else if x.nn = true ∧ x.d.kind = 0 then 21 else 0
def addV (l : List Col) (x : Col) : List Col := if addE l x = 0 then l ++ [x] else []
theorem kd {B : Nat} {w w' : World} (b : Below B w w') {a : Addr} {v : Value} (hlt : a.block < B) (h : w.cell? a = some v) : w'.cell? a = some v := (b.cell (p := a) hlt).trans h
theorem RdC.dro (w : World) (x : Col) : RdC ((w.alloc (.cells #[.string x.name, .int .i64 x.kind, .bool x.nn, .int .i64 x.d.kind, .int .i64 x.d.n, .float .f64 x.d.f, .string x.d.s] 53)).drew) (some ⟨w.heap.size, 0, none⟩) [x] := RdC.uno w x
theorem RdC.dro2 (w : World) (o : Obj) (x : Col) : RdC (((w.alloc o).alloc (.cells #[.string x.name, .int .i64 x.kind, .bool x.nn, .int .i64 x.d.kind, .int .i64 x.d.n, .float .f64 x.d.f, .string x.d.s] 53)).drew) (some ⟨w.heap.size + 1, 0, none⟩) [x] := by
  have h := RdC.uno (w.alloc o) x
  have e : (w.alloc o).heap.size = w.heap.size + 1 := by simp
  rw [e] at h
  exact h
theorem RdC.dro3 (w : World) (o : Obj) (x : Col) : RdC (((w.alloc (.cells #[.string x.name, .int .i64 x.kind, .bool x.nn, .int .i64 x.d.kind, .int .i64 x.d.n, .float .f64 x.d.f, .string x.d.s] 53)).alloc o).drew) (some ⟨w.heap.size, 0, none⟩) [x] :=
  RdL.keep (RdC.uno w x) (((Below.refl _ _).alloc (Nat.le_refl _) o).drew) (Nat.le_refl _)
theorem goodC_len {l : List Col} (h : goodC l = true) : 1 ≤ l.length ∧ l.length ≤ 6 := by
  unfold goodC at h
  simp at h
  exact ⟨by omega, by omega⟩
theorem goodC_one (x : Col) : goodC [x] = oneV x := by
  have h : findV x.name [x] 0 = 0 := by unfold findV; rw [if_pos (beq_self_eq_true _)]; rfl
  have : goodTo [x] 1 = oneV x := by
    rw [goodTo_succ, goodAt_eq [x] 0 (by simp)]
    show (true && (oneV x && (findV x.name [x] 0 == 0))) = oneV x
    rw [h]
    simp
  unfold goodC
  exact this
set_option maxRecDepth 100000 in
set_option maxHeartbeats 4000000 in
theorem add_1 (A : Option Addr) (c : Nat) (l : List Col) (x : Col) (w : World) (ha : RdC w A l) (hnA : A = none → c = 0) (hgv : goodC l = false) :
    Calls Try.prog 70 #[.slice A l.length c, cv x.name x.kind x.nn x.d.kind x.d.n x.d.f x.d.s] w fun e w' => e = .returned (.tuple #[.slice none 0 0, .int .i64 11]) ∧ Below w.heap.size w w' := by
  have hst := run_sf
  have h0 : Below w.heap.size w (w.alloc (.cells #[.string x.name, .int .i64 x.kind, .bool x.nn, .int .i64 x.d.kind, .int .i64 x.d.n, .float .f64 x.d.f, .string x.d.s] 53)) := (Below.refl _ _).alloc (Nat.le_refl _) _
  have hlt0 : w.heap.size < (w.alloc (.cells #[.string x.name, .int .i64 x.kind, .bool x.nn, .int .i64 x.d.kind, .int .i64 x.d.n, .float .f64 x.d.f, .string x.d.s] 53)).heap.size := by simp
  have HX0 := Lib.hid (RdC.uno w x)
  have HA0 := Lib.hid (ha.keep h0 (Nat.le_refl _))
  have HNA := Lib.hid hnA
  have hg := goodc_any A c l _ HA0.out
  rw [hgv] at hg
  clear ha hnA hgv
  go_enter Try.func70, Try.ntmps70
  go_wp2_with fail
  refine hg.mono ?_
  rintro e w1 ⟨rfl, b1⟩
  have c1 := below_trans h0 b1
  have hlt1 : w.heap.size < w1.heap.size := Nat.lt_of_lt_of_le hlt0 b1.size
  have HX1 := Lib.hid (HX0.out.keep b1 (Nat.le_refl _))
  have HA1 := Lib.hid (HA0.out.keep b1 (Nat.le_refl _))
  clear b1
  go_wp2_with fail
  go_ret2
  exact ⟨rfl, c1⟩
set_option maxRecDepth 100000 in
set_option maxHeartbeats 4000000 in
theorem add_2 (A : Option Addr) (c : Nat) (l : List Col) (x : Col) (w : World) (ha : RdC w A l) (hnA : A = none → c = 0) (hgv : goodC l = true) (hov : oneV x = false) :
    Calls Try.prog 70 #[.slice A l.length c, cv x.name x.kind x.nn x.d.kind x.d.n x.d.f x.d.s] w fun e w' => e = .returned (.tuple #[.slice none 0 0, .int .i64 11]) ∧ Below w.heap.size w w' := by
  have hst := run_sf
  have h0 : Below w.heap.size w (w.alloc (.cells #[.string x.name, .int .i64 x.kind, .bool x.nn, .int .i64 x.d.kind, .int .i64 x.d.n, .float .f64 x.d.f, .string x.d.s] 53)) := (Below.refl _ _).alloc (Nat.le_refl _) _
  have hlt0 : w.heap.size < (w.alloc (.cells #[.string x.name, .int .i64 x.kind, .bool x.nn, .int .i64 x.d.kind, .int .i64 x.d.n, .float .f64 x.d.f, .string x.d.s] 53)).heap.size := by simp
  have HX0 := Lib.hid (RdC.uno w x)
  have HA0 := Lib.hid (ha.keep h0 (Nat.le_refl _))
  have HNA := Lib.hid hnA
  have hll := (goodC_len hgv).2
  have hg := goodc_any A c l _ HA0.out
  rw [hgv] at hg
  clear ha hnA hgv
  go_enter Try.func70, Try.ntmps70
  go_wp2_with fail
  refine hg.mono ?_
  rintro e w1 ⟨rfl, b1⟩
  have c1 := below_trans h0 b1
  have hlt1 : w.heap.size < w1.heap.size := Nat.lt_of_lt_of_le hlt0 b1.size
  have HX1 := Lib.hid (HX0.out.keep b1 (Nat.le_refl _))
  have HA1 := Lib.hid (HA0.out.keep b1 (Nat.le_refl _))
  obtain ⟨q0, q1, q2, q3, q4, q5, q6⟩ : w1.cell? ⟨w.heap.size, 0, none⟩ = some (.string x.name) ∧ w1.cell? ⟨w.heap.size, 1, none⟩ = some (.int .i64 x.kind) ∧ w1.cell? ⟨w.heap.size, 2, none⟩ = some (.bool x.nn) ∧ w1.cell? ⟨w.heap.size, 3, none⟩ = some (.int .i64 x.d.kind) ∧ w1.cell? ⟨w.heap.size, 4, none⟩ = some (.int .i64 x.d.n) ∧ w1.cell? ⟨w.heap.size, 5, none⟩ = some (.float .f64 x.d.f) ∧ w1.cell? ⟨w.heap.size, 6, none⟩ = some (.string x.d.s) := RdC.box HX1.out
  clear h0 b1 HX0 HA0 hlt0 hg
  have ho := one_any x w1
  rw [hov] at ho
  clear hov
  go_wp2_with fail
  refine ho.mono ?_
  rintro e w2 ⟨rfl, b2⟩
  have c2 := below_trans c1 b2
  have hlt2 : w.heap.size < w2.heap.size := Nat.lt_of_lt_of_le hlt1 b2.size
  have HX2 := Lib.hid (HX1.out.keep b2 (Nat.le_refl _))
  have HA2 := Lib.hid (HA1.out.keep b2 (Nat.le_refl _))
  clear b2 q0 q1 q2 q3 q4 q5 q6
  go_wp2_with fail
  go_ret2
  exact ⟨rfl, c2⟩
set_option maxRecDepth 100000 in
set_option maxHeartbeats 4000000 in
theorem add_3 (A : Option Addr) (c : Nat) (l : List Col) (x : Col) (w : World) (ha : RdC w A l) (hnA : A = none → c = 0) (hgv : goodC l = true) (hov : oneV x = true) (hz : 0 ≤ findV x.name l 0) :
    Calls Try.prog 70 #[.slice A l.length c, cv x.name x.kind x.nn x.d.kind x.d.n x.d.f x.d.s] w fun e w' => e = .returned (.tuple #[.slice none 0 0, .int .i64 62]) ∧ Below w.heap.size w w' := by
  have hst := run_sf
  have h0 : Below w.heap.size w (w.alloc (.cells #[.string x.name, .int .i64 x.kind, .bool x.nn, .int .i64 x.d.kind, .int .i64 x.d.n, .float .f64 x.d.f, .string x.d.s] 53)) := (Below.refl _ _).alloc (Nat.le_refl _) _
  have hlt0 : w.heap.size < (w.alloc (.cells #[.string x.name, .int .i64 x.kind, .bool x.nn, .int .i64 x.d.kind, .int .i64 x.d.n, .float .f64 x.d.f, .string x.d.s] 53)).heap.size := by simp
  have HX0 := Lib.hid (RdC.uno w x)
  have HA0 := Lib.hid (ha.keep h0 (Nat.le_refl _))
  have HNA := Lib.hid hnA
  have hll := (goodC_len hgv).2
  have hg := goodc_any A c l _ HA0.out
  rw [hgv] at hg
  clear ha hnA hgv
  go_enter Try.func70, Try.ntmps70
  go_wp2_with fail
  refine hg.mono ?_
  rintro e w1 ⟨rfl, b1⟩
  have c1 := below_trans h0 b1
  have hlt1 : w.heap.size < w1.heap.size := Nat.lt_of_lt_of_le hlt0 b1.size
  have HX1 := Lib.hid (HX0.out.keep b1 (Nat.le_refl _))
  have HA1 := Lib.hid (HA0.out.keep b1 (Nat.le_refl _))
  obtain ⟨q0, q1, q2, q3, q4, q5, q6⟩ : w1.cell? ⟨w.heap.size, 0, none⟩ = some (.string x.name) ∧ w1.cell? ⟨w.heap.size, 1, none⟩ = some (.int .i64 x.kind) ∧ w1.cell? ⟨w.heap.size, 2, none⟩ = some (.bool x.nn) ∧ w1.cell? ⟨w.heap.size, 3, none⟩ = some (.int .i64 x.d.kind) ∧ w1.cell? ⟨w.heap.size, 4, none⟩ = some (.int .i64 x.d.n) ∧ w1.cell? ⟨w.heap.size, 5, none⟩ = some (.float .f64 x.d.f) ∧ w1.cell? ⟨w.heap.size, 6, none⟩ = some (.string x.d.s) := RdC.box HX1.out
  clear h0 b1 HX0 HA0 hlt0 hg
  have ho := one_any x w1
  rw [hov] at ho
  clear hov
  go_wp2_with fail
  refine ho.mono ?_
  rintro e w2 ⟨rfl, b2⟩
  have c2 := below_trans c1 b2
  have hlt2 : w.heap.size < w2.heap.size := Nat.lt_of_lt_of_le hlt1 b2.size
  have HX2 := Lib.hid (HX1.out.keep b2 (Nat.le_refl _))
  have HA2 := Lib.hid (HA1.out.keep b2 (Nat.le_refl _))
  clear q0 q1 q2 q3 q4 q5 q6 ho c1 HX1 HA1 hlt1 b2
  obtain ⟨q0, q1, q2, q3, q4, q5, q6⟩ : w2.cell? ⟨w.heap.size, 0, none⟩ = some (.string x.name) ∧ w2.cell? ⟨w.heap.size, 1, none⟩ = some (.int .i64 x.kind) ∧ w2.cell? ⟨w.heap.size, 2, none⟩ = some (.bool x.nn) ∧ w2.cell? ⟨w.heap.size, 3, none⟩ = some (.int .i64 x.d.kind) ∧ w2.cell? ⟨w.heap.size, 4, none⟩ = some (.int .i64 x.d.n) ∧ w2.cell? ⟨w.heap.size, 5, none⟩ = some (.float .f64 x.d.f) ∧ w2.cell? ⟨w.heap.size, 6, none⟩ = some (.string x.d.s) := RdC.box HX2.out
  have hf := find_any A c l x.name w2 HA2.out (by omega)
  generalize findV x.name l 0 = z at *
  have tz : decide (0 ≤ z) = true := decide_eq_true (by omega)
  clear hz
  go_wp2_with fail
  refine hf.mono ?_
  rintro e w3 ⟨rfl, b3⟩
  have c3 := below_trans c2 b3
  have hlt3 : w.heap.size < w3.heap.size := Nat.lt_of_lt_of_le hlt2 b3.size
  clear b3
  go_wp2_with fail
  go_ret2
  exact ⟨rfl, c3⟩
set_option maxRecDepth 100000 in
set_option maxHeartbeats 4000000 in
theorem add_4 (A : Option Addr) (c : Nat) (l : List Col) (x : Col) (w : World) (ha : RdC w A l) (hnA : A = none → c = 0) (hgv : goodC l = true) (hov : oneV x = true) (hz : ¬ 0 ≤ findV x.name l 0) (hl6 : 6 ≤ l.length) :
    Calls Try.prog 70 #[.slice A l.length c, cv x.name x.kind x.nn x.d.kind x.d.n x.d.f x.d.s] w fun e w' => e = .returned (.tuple #[.slice none 0 0, .int .i64 3]) ∧ Below w.heap.size w w' := by
  have hst := run_sf
  have h0 : Below w.heap.size w (w.alloc (.cells #[.string x.name, .int .i64 x.kind, .bool x.nn, .int .i64 x.d.kind, .int .i64 x.d.n, .float .f64 x.d.f, .string x.d.s] 53)) := (Below.refl _ _).alloc (Nat.le_refl _) _
  have hlt0 : w.heap.size < (w.alloc (.cells #[.string x.name, .int .i64 x.kind, .bool x.nn, .int .i64 x.d.kind, .int .i64 x.d.n, .float .f64 x.d.f, .string x.d.s] 53)).heap.size := by simp
  have HX0 := Lib.hid (RdC.uno w x)
  have HA0 := Lib.hid (ha.keep h0 (Nat.le_refl _))
  have HNA := Lib.hid hnA
  have hll := (goodC_len hgv).2
  have hg := goodc_any A c l _ HA0.out
  rw [hgv] at hg
  clear ha hnA hgv
  go_enter Try.func70, Try.ntmps70
  go_wp2_with fail
  refine hg.mono ?_
  rintro e w1 ⟨rfl, b1⟩
  have c1 := below_trans h0 b1
  have hlt1 : w.heap.size < w1.heap.size := Nat.lt_of_lt_of_le hlt0 b1.size
  have HX1 := Lib.hid (HX0.out.keep b1 (Nat.le_refl _))
  have HA1 := Lib.hid (HA0.out.keep b1 (Nat.le_refl _))
  obtain ⟨q0, q1, q2, q3, q4, q5, q6⟩ : w1.cell? ⟨w.heap.size, 0, none⟩ = some (.string x.name) ∧ w1.cell? ⟨w.heap.size, 1, none⟩ = some (.int .i64 x.kind) ∧ w1.cell? ⟨w.heap.size, 2, none⟩ = some (.bool x.nn) ∧ w1.cell? ⟨w.heap.size, 3, none⟩ = some (.int .i64 x.d.kind) ∧ w1.cell? ⟨w.heap.size, 4, none⟩ = some (.int .i64 x.d.n) ∧ w1.cell? ⟨w.heap.size, 5, none⟩ = some (.float .f64 x.d.f) ∧ w1.cell? ⟨w.heap.size, 6, none⟩ = some (.string x.d.s) := RdC.box HX1.out
  clear h0 b1 HX0 HA0 hlt0 hg
  have ho := one_any x w1
  rw [hov] at ho
  clear hov
  go_wp2_with fail
  refine ho.mono ?_
  rintro e w2 ⟨rfl, b2⟩
  have c2 := below_trans c1 b2
  have hlt2 : w.heap.size < w2.heap.size := Nat.lt_of_lt_of_le hlt1 b2.size
  have HX2 := Lib.hid (HX1.out.keep b2 (Nat.le_refl _))
  have HA2 := Lib.hid (HA1.out.keep b2 (Nat.le_refl _))
  clear q0 q1 q2 q3 q4 q5 q6 ho c1 HX1 HA1 hlt1 b2
  obtain ⟨q0, q1, q2, q3, q4, q5, q6⟩ : w2.cell? ⟨w.heap.size, 0, none⟩ = some (.string x.name) ∧ w2.cell? ⟨w.heap.size, 1, none⟩ = some (.int .i64 x.kind) ∧ w2.cell? ⟨w.heap.size, 2, none⟩ = some (.bool x.nn) ∧ w2.cell? ⟨w.heap.size, 3, none⟩ = some (.int .i64 x.d.kind) ∧ w2.cell? ⟨w.heap.size, 4, none⟩ = some (.int .i64 x.d.n) ∧ w2.cell? ⟨w.heap.size, 5, none⟩ = some (.float .f64 x.d.f) ∧ w2.cell? ⟨w.heap.size, 6, none⟩ = some (.string x.d.s) := RdC.box HX2.out
  have hf := find_any A c l x.name w2 HA2.out (by omega)
  generalize findV x.name l 0 = z at *
  have tz : decide (0 ≤ z) = false := decide_eq_false (by omega)
  clear hz
  go_wp2_with fail
  refine hf.mono ?_
  rintro e w3 ⟨rfl, b3⟩
  have c3 := below_trans c2 b3
  have hlt3 : w.heap.size < w3.heap.size := Nat.lt_of_lt_of_le hlt2 b3.size
  have HX3 := Lib.hid (HX2.out.keep b3 (Nat.le_refl _))
  have HA3 := Lib.hid (HA2.out.keep b3 (Nat.le_refl _))
  clear b3
  clear q0 q1 q2 q3 q4 q5 q6 hf HX2 HA2
  have tl : ((l.length : Int) == 6) = true := by rw [beq_iff_eq]; omega
  have tl2 : decide ((6 : Int) ≤ (l.length : Int)) = true := by rw [decide_eq_true]; omega
  clear hl6
  go_wp2_with fail
  go_ret2
  exact ⟨rfl, c3⟩
set_option maxRecDepth 100000 in
set_option maxHeartbeats 4000000 in
theorem add_5 (A : Option Addr) (c : Nat) (l : List Col) (nm : ByteArray) (ki : Int) (dn : Int) (df : Nat) (ds : ByteArray) (w : World) (ha : RdC w A l) (hnA : A = none → c = 0) (hgv : goodC l = true) (hov : oneV (Col.mk nm ki true (Val.mk 0 dn df ds)) = true) (hz : ¬ 0 ≤ findV nm l 0) (hl6 : l.length < 6)  :
    Calls Try.prog 70 #[.slice A l.length c, cv nm ki true 0 dn df ds] w fun e w' => e = .returned (.tuple #[.slice none 0 0, .int .i64 21]) ∧ Below w.heap.size w w' := by
  have hst := run_sf
  have h0 : Below w.heap.size w (w.alloc (.cells #[.string nm, .int .i64 ki, .bool true, .int .i64 0, .int .i64 dn, .float .f64 df, .string ds] 53)) := (Below.refl _ _).alloc (Nat.le_refl _) _
  have hlt0 : w.heap.size < (w.alloc (.cells #[.string nm, .int .i64 ki, .bool true, .int .i64 0, .int .i64 dn, .float .f64 df, .string ds] 53)).heap.size := by simp
  have HX0 := Lib.hid (RdC.uno w (Col.mk nm ki true (Val.mk 0 dn df ds)))
  have HA0 := Lib.hid (ha.keep h0 (Nat.le_refl _))
  have HNA := Lib.hid hnA
  have hll := (goodC_len hgv).2
  have hg := goodc_any A c l _ HA0.out
  rw [hgv] at hg
  clear ha hnA hgv
  go_enter Try.func70, Try.ntmps70
  go_wp2_with fail
  refine hg.mono ?_
  rintro e w1 ⟨rfl, b1⟩
  have c1 := below_trans h0 b1
  have hlt1 : w.heap.size < w1.heap.size := Nat.lt_of_lt_of_le hlt0 b1.size
  have HX1 := Lib.hid (HX0.out.keep b1 (Nat.le_refl _))
  have HA1 := Lib.hid (HA0.out.keep b1 (Nat.le_refl _))
  obtain ⟨q0, q1, q2, q3, q4, q5, q6⟩ : w1.cell? ⟨w.heap.size, 0, none⟩ = some (.string nm) ∧ w1.cell? ⟨w.heap.size, 1, none⟩ = some (.int .i64 ki) ∧ w1.cell? ⟨w.heap.size, 2, none⟩ = some (.bool true) ∧ w1.cell? ⟨w.heap.size, 3, none⟩ = some (.int .i64 0) ∧ w1.cell? ⟨w.heap.size, 4, none⟩ = some (.int .i64 dn) ∧ w1.cell? ⟨w.heap.size, 5, none⟩ = some (.float .f64 df) ∧ w1.cell? ⟨w.heap.size, 6, none⟩ = some (.string ds) := RdC.box HX1.out
  clear h0 b1 HX0 HA0 hlt0 hg
  have ho := one_any (Col.mk nm ki true (Val.mk 0 dn df ds)) w1
  rw [hov] at ho
  clear hov
  go_wp2_with fail
  refine ho.mono ?_
  rintro e w2 ⟨rfl, b2⟩
  have c2 := below_trans c1 b2
  have hlt2 : w.heap.size < w2.heap.size := Nat.lt_of_lt_of_le hlt1 b2.size
  have HX2 := Lib.hid (HX1.out.keep b2 (Nat.le_refl _))
  have HA2 := Lib.hid (HA1.out.keep b2 (Nat.le_refl _))
  clear q0 q1 q2 q3 q4 q5 q6 ho c1 HX1 HA1 hlt1 b2
  obtain ⟨q0, q1, q2, q3, q4, q5, q6⟩ : w2.cell? ⟨w.heap.size, 0, none⟩ = some (.string nm) ∧ w2.cell? ⟨w.heap.size, 1, none⟩ = some (.int .i64 ki) ∧ w2.cell? ⟨w.heap.size, 2, none⟩ = some (.bool true) ∧ w2.cell? ⟨w.heap.size, 3, none⟩ = some (.int .i64 0) ∧ w2.cell? ⟨w.heap.size, 4, none⟩ = some (.int .i64 dn) ∧ w2.cell? ⟨w.heap.size, 5, none⟩ = some (.float .f64 df) ∧ w2.cell? ⟨w.heap.size, 6, none⟩ = some (.string ds) := RdC.box HX2.out
  have hf := find_any A c l nm w2 HA2.out (by omega)
  generalize findV nm l 0 = z at *
  have tz : decide (0 ≤ z) = false := decide_eq_false (by omega)
  clear hz
  go_wp2_with fail
  refine hf.mono ?_
  rintro e w3 ⟨rfl, b3⟩
  have c3 := below_trans c2 b3
  have hlt3 : w.heap.size < w3.heap.size := Nat.lt_of_lt_of_le hlt2 b3.size
  have HX3 := Lib.hid (HX2.out.keep b3 (Nat.le_refl _))
  have HA3 := Lib.hid (HA2.out.keep b3 (Nat.le_refl _))
  clear b3
  clear q0 q1 q2 q3 q4 q5 q6 hf HX2 HA2
  have tl : ((l.length : Int) == 6) = false := by rw [beq_eq_false_iff_ne]; omega
  have tl2 : decide ((6 : Int) ≤ (l.length : Int)) = false := by rw [decide_eq_false]; omega
  obtain ⟨q0, q1, q2, q3, q4, q5, q6⟩ : w3.cell? ⟨w.heap.size, 0, none⟩ = some (.string nm) ∧ w3.cell? ⟨w.heap.size, 1, none⟩ = some (.int .i64 ki) ∧ w3.cell? ⟨w.heap.size, 2, none⟩ = some (.bool true) ∧ w3.cell? ⟨w.heap.size, 3, none⟩ = some (.int .i64 0) ∧ w3.cell? ⟨w.heap.size, 4, none⟩ = some (.int .i64 dn) ∧ w3.cell? ⟨w.heap.size, 5, none⟩ = some (.float .f64 df) ∧ w3.cell? ⟨w.heap.size, 6, none⟩ = some (.string ds) := RdC.box HX3.out
  clear hl6
  go_wp2_with fail
  go_ret2
  exact ⟨rfl, c3⟩
set_option maxRecDepth 100000 in
set_option maxHeartbeats 4000000 in
theorem add_6 (A : Option Addr) (c : Nat) (l : List Col) (nm : ByteArray) (ki : Int) (dk : Int) (dn : Int) (df : Nat) (ds : ByteArray) (w : World) (ha : RdC w A l) (hnA : A = none → c = 0) (hgv : goodC l = true) (hov : oneV (Col.mk nm ki false (Val.mk dk dn df ds)) = true) (hz : ¬ 0 ≤ findV nm l 0) (hl6 : l.length < 6) :
    Calls Try.prog 70 #[.slice A l.length c, cv nm ki false dk dn df ds] w fun e w' => ∃ A' c', e = .returned (.tuple #[.slice A' (l.length + 1) c', .int .i64 0]) ∧ RdC w' A' (l ++ [(Col.mk nm ki false (Val.mk dk dn df ds))]) ∧ (A' = none → c' = 0) ∧ Below w.heap.size w w' := by
  have hst := run_sf
  have h0 : Below w.heap.size w (w.alloc (.cells #[.string nm, .int .i64 ki, .bool false, .int .i64 dk, .int .i64 dn, .float .f64 df, .string ds] 53)) := (Below.refl _ _).alloc (Nat.le_refl _) _
  have hlt0 : w.heap.size < (w.alloc (.cells #[.string nm, .int .i64 ki, .bool false, .int .i64 dk, .int .i64 dn, .float .f64 df, .string ds] 53)).heap.size := by simp
  have HX0 := Lib.hid (RdC.uno w (Col.mk nm ki false (Val.mk dk dn df ds)))
  have HA0 := Lib.hid (ha.keep h0 (Nat.le_refl _))
  have HNA := Lib.hid hnA
  have hll := (goodC_len hgv).2
  have hg := goodc_any A c l _ HA0.out
  rw [hgv] at hg
  clear ha hnA hgv
  go_enter Try.func70, Try.ntmps70
  go_wp2_with fail
  refine hg.mono ?_
  rintro e w1 ⟨rfl, b1⟩
  have c1 := below_trans h0 b1
  have hlt1 : w.heap.size < w1.heap.size := Nat.lt_of_lt_of_le hlt0 b1.size
  have HX1 := Lib.hid (HX0.out.keep b1 (Nat.le_refl _))
  have HA1 := Lib.hid (HA0.out.keep b1 (Nat.le_refl _))
  obtain ⟨q0, q1, q2, q3, q4, q5, q6⟩ : w1.cell? ⟨w.heap.size, 0, none⟩ = some (.string nm) ∧ w1.cell? ⟨w.heap.size, 1, none⟩ = some (.int .i64 ki) ∧ w1.cell? ⟨w.heap.size, 2, none⟩ = some (.bool false) ∧ w1.cell? ⟨w.heap.size, 3, none⟩ = some (.int .i64 dk) ∧ w1.cell? ⟨w.heap.size, 4, none⟩ = some (.int .i64 dn) ∧ w1.cell? ⟨w.heap.size, 5, none⟩ = some (.float .f64 df) ∧ w1.cell? ⟨w.heap.size, 6, none⟩ = some (.string ds) := RdC.box HX1.out
  clear h0 b1 HX0 HA0 hlt0 hg
  have ho := one_any (Col.mk nm ki false (Val.mk dk dn df ds)) w1
  rw [hov] at ho
  clear hov
  go_wp2_with fail
  refine ho.mono ?_
  rintro e w2 ⟨rfl, b2⟩
  have c2 := below_trans c1 b2
  have hlt2 : w.heap.size < w2.heap.size := Nat.lt_of_lt_of_le hlt1 b2.size
  have HX2 := Lib.hid (HX1.out.keep b2 (Nat.le_refl _))
  have HA2 := Lib.hid (HA1.out.keep b2 (Nat.le_refl _))
  clear q0 q1 q2 q3 q4 q5 q6 ho c1 HX1 HA1 hlt1 b2
  obtain ⟨q0, q1, q2, q3, q4, q5, q6⟩ : w2.cell? ⟨w.heap.size, 0, none⟩ = some (.string nm) ∧ w2.cell? ⟨w.heap.size, 1, none⟩ = some (.int .i64 ki) ∧ w2.cell? ⟨w.heap.size, 2, none⟩ = some (.bool false) ∧ w2.cell? ⟨w.heap.size, 3, none⟩ = some (.int .i64 dk) ∧ w2.cell? ⟨w.heap.size, 4, none⟩ = some (.int .i64 dn) ∧ w2.cell? ⟨w.heap.size, 5, none⟩ = some (.float .f64 df) ∧ w2.cell? ⟨w.heap.size, 6, none⟩ = some (.string ds) := RdC.box HX2.out
  have hf := find_any A c l nm w2 HA2.out (by omega)
  generalize findV nm l 0 = z at *
  have tz : decide (0 ≤ z) = false := decide_eq_false (by omega)
  clear hz
  go_wp2_with fail
  refine hf.mono ?_
  rintro e w3 ⟨rfl, b3⟩
  have c3 := below_trans c2 b3
  have hlt3 : w.heap.size < w3.heap.size := Nat.lt_of_lt_of_le hlt2 b3.size
  have HX3 := Lib.hid (HX2.out.keep b3 (Nat.le_refl _))
  have HA3 := Lib.hid (HA2.out.keep b3 (Nat.le_refl _))
  clear b3
  clear q0 q1 q2 q3 q4 q5 q6 hf HX2 HA2
  have tl : ((l.length : Int) == 6) = false := by rw [beq_eq_false_iff_ne]; omega
  have tl2 : decide ((6 : Int) ≤ (l.length : Int)) = false := by rw [decide_eq_false]; omega
  obtain ⟨q0, q1, q2, q3, q4, q5, q6⟩ : w3.cell? ⟨w.heap.size, 0, none⟩ = some (.string nm) ∧ w3.cell? ⟨w.heap.size, 1, none⟩ = some (.int .i64 ki) ∧ w3.cell? ⟨w.heap.size, 2, none⟩ = some (.bool false) ∧ w3.cell? ⟨w.heap.size, 3, none⟩ = some (.int .i64 dk) ∧ w3.cell? ⟨w.heap.size, 4, none⟩ = some (.int .i64 dn) ∧ w3.cell? ⟨w.heap.size, 5, none⟩ = some (.float .f64 df) ∧ w3.cell? ⟨w.heap.size, 6, none⟩ = some (.string ds) := RdC.box HX3.out
  clear hl6
  go_wp2_with fail
  refine wp_region_held_drew (S := (fun w' => Below w3.heap.size w3 w' ∧ w'.cell? ⟨w.heap.size, 0, none⟩ = some (.string nm) ∧ w'.cell? ⟨w.heap.size, 1, none⟩ = some (.int .i64 ki) ∧ w'.cell? ⟨w.heap.size, 2, none⟩ = some (.bool false) ∧ w'.cell? ⟨w.heap.size, 3, none⟩ = some (.int .i64 dk) ∧ w'.cell? ⟨w.heap.size, 4, none⟩ = some (.int .i64 dn) ∧ w'.cell? ⟨w.heap.size, 5, none⟩ = some (.float .f64 df) ∧ w'.cell? ⟨w.heap.size, 6, none⟩ = some (.string ds))) (by kernel_rfl) (⟨(Below.refl _ _).drew, q0, q1, q2, q3, q4, q5, q6⟩) (fun hHeld => ?_)
  (refine wpAnyH_take (i := 0) (oi := { dst := some 34, op := Go.Op.move (Go.Operand.tmp 0), type := 49, pos := _, after := _, guard := none }) (v := ?_) rfl (by kernel_rfl) (by kernel_rfl) (by kernel_rfl) (fun _ _ _ h => h) (Or.inl ⟨by rfl, ?_⟩) (by assumption) ?_; rotate_left; (intro w hSw; (try dsimp only at hSw); go_simp; try with_reducible rfl); try simp only [Act.put, List.setIfInBounds_toArray, List.set_cons_zero, List.set_cons_succ])
  (refine wpAnyH_take (i := 2) (oi := { dst := some 36, op := Go.Op.load 53 (Go.Operand.tmp 3), type := 53, pos := _, after := _, guard := none }) (v := ?_) rfl (by kernel_rfl) (by kernel_rfl) (by kernel_rfl) (fun _ _ _ h => h) (Or.inl ⟨by rfl, ?_⟩) (by assumption) ?_; rotate_left; (intro w hSw; (try dsimp only at hSw); go_simp; try with_reducible rfl); try simp only [Act.put, List.setIfInBounds_toArray, List.set_cons_zero, List.set_cons_succ])
  refine wpAnyH_ready (rs := [1, 3]) (by kernel_rfl) (by simp) ?_
  refine (AllReadyH.cons (o := { dst := some 35, op := Go.Op.call { callee := Go.Callee.value (Go.Operand.func 110), args := #[Go.Operand.tmp 34], argTypes := #[49] }, type := 49, pos := _, after := _, guard := none }) rfl (fun K hK => ?_) (AllReadyH.cons (o := { dst := some 37, op := Go.Op.buildSlice 49 1 #[(0, Go.Operand.tmp 36)], type := 49, pos := _, after := _, guard := none }) rfl (fun K hK => ?_) AllReadyH.nil))
  · go_simp
    refine (clone_cols A c l _ (HA3.out.keep (And.left hHeld) (Nat.le_refl _)) HNA.out (by omega)).mono ?_
    rintro e w6 ⟨A', c', rfl, hF, hn', b6⟩
    go_wp2_with fail
    have hF' : Fresh w6 w3.heap.size 53 7 (.slice A' l.length c') l.length (l.flatMap Col.cells) := hF.imp (fun h => own_mono h (Below.size (And.left hHeld))) id
    refine hK.out _ _ ?_ (fun hHeld2 => ?_)
    · (go_split_ands; exact ⟨Below.trans (by assumption) (b6.mono (Below.size (by assumption))), kc b6 (by assumption), kc b6 (by assumption), kc b6 (by assumption), kc b6 (by assumption), kc b6 (by assumption), kc b6 (by assumption), kc b6 (by assumption)⟩)
    clear hK K hHeld
    have hHeld := hHeld2
    clear hHeld2
    try simp only [Act.put, List.setIfInBounds_toArray, List.set_cons_zero, List.set_cons_succ]
    refine wpAnyH_ready (rs := [3]) (by kernel_rfl) (by simp) ?_
    refine AllReadyH.cons (o := { dst := some 37, op := Go.Op.buildSlice 49 1 #[(0, Go.Operand.tmp 36)], type := 49, pos := _, after := _, guard := none }) rfl (fun K hK => ?_) AllReadyH.nil
    go_simp
    refine hK.out _ _ ?_ (fun hHeld2 => ?_)
    · (go_split_ands; exact ⟨Below.trans (by assumption) (((Below.refl _ _).alloc (Nat.le_refl _) _).mono (Below.size (by assumption))), kc ((Below.refl _ _).alloc (Nat.le_refl _) _) (by assumption), kc ((Below.refl _ _).alloc (Nat.le_refl _) _) (by assumption), kc ((Below.refl _ _).alloc (Nat.le_refl _) _) (by assumption), kc ((Below.refl _ _).alloc (Nat.le_refl _) _) (by assumption), kc ((Below.refl _ _).alloc (Nat.le_refl _) _) (by assumption), kc ((Below.refl _ _).alloc (Nat.le_refl _) _) (by assumption), kc ((Below.refl _ _).alloc (Nat.le_refl _) _) (by assumption)⟩)
    clear hK K hHeld
    have hHeld := hHeld2
    clear hHeld2
    try simp only [Act.put, List.setIfInBounds_toArray, List.set_cons_zero, List.set_cons_succ]
    refine wpAnyH_ready (rs := [4]) (by kernel_rfl) (by simp) ?_
    refine AllReadyH.cons (o := { dst := some 38, op := Go.Op.call { callee := Go.Callee.builtin Go.Builtin.append, args := #[Go.Operand.tmp 35, Go.Operand.tmp 37], argTypes := #[49, 49] }, type := 49, pos := _, after := _, guard := none }) rfl (fun K hK => ?_) AllReadyH.nil
    rw [if_pos (by rfl)]
    refine wp_app_cols _ _ rfl w3.heap.size _ l.length (l.flatMap Col.cells) rfl (by first | exact hF' | exact hF'.alloc _) (Below.size (And.left hHeld)) _ 1 [(Col.mk nm ki false (Val.mk dk dn df ds))] rfl (by simp) (by first | exact RdC.uno _ (Col.mk nm ki false (Val.mk dk dn df ds)) | exact (RdC.uno _ (Col.mk nm ki false (Val.mk dk dn df ds))).keep b6 (Nat.le_refl _) | exact (RdC.dro _ (Col.mk nm ki false (Val.mk dk dn df ds))).keep b6 (Nat.le_refl _) | exact (RdC.dro2 _ _ (Col.mk nm ki false (Val.mk dk dn df ds))).keep b6 (Nat.le_refl _) | exact (RdC.dro3 _ _ (Col.mk nm ki false (Val.mk dk dn df ds))).keep b6 (Nat.le_refl _) | exact ((RdC.uno _ (Col.mk nm ki false (Val.mk dk dn df ds))).keep ((Below.refl _ _).alloc (Nat.le_refl _) _) (Nat.le_refl _)).keep b6 (Nat.le_refl _)) (by simp; omega) ?_
    intro v7 w7 hF7 b7 _
    refine hK.out _ _ ?_ (fun hHeld2 => ?_)
    · (go_split_ands; exact ⟨Below.trans (by assumption) b7, kd b7 (by simp; omega) (by assumption), kd b7 (by simp; omega) (by assumption), kd b7 (by simp; omega) (by assumption), kd b7 (by simp; omega) (by assumption), kd b7 (by simp; omega) (by assumption), kd b7 (by simp; omega) (by assumption), kd b7 (by simp; omega) (by assumption)⟩)
    clear hK K hHeld
    have hHeld := hHeld2
    clear hHeld2
    try simp only [Act.put, List.setIfInBounds_toArray, List.set_cons_zero, List.set_cons_succ]
    (refine wpAnyH_take (i := 5) (oi := { dst := some 4, op := Go.Op.assign (Go.Operand.tmp 38), type := 49, pos := _, after := _, guard := none }) (v := ?_) rfl (by kernel_rfl) (by kernel_rfl) (by kernel_rfl) (fun _ _ _ h => h) (Or.inl ⟨by rfl, ?_⟩) (by assumption) ?_; rotate_left; (intro w hSw; (try dsimp only at hSw); go_simp; try with_reducible rfl); try simp only [Act.put, List.setIfInBounds_toArray, List.set_cons_zero, List.set_cons_succ])
    (refine wpAnyH_take (i := 6) (oi := { dst := some 5, op := Go.Op.assign (Go.Operand.const (Go.Value.int Go.IntKind.i64 0)), type := 27, pos := _, after := _, guard := none }) (v := ?_) rfl (by kernel_rfl) (by kernel_rfl) (by kernel_rfl) (fun _ _ _ h => h) (Or.inl ⟨by rfl, ?_⟩) (by assumption) ?_; rotate_left; (intro w hSw; (try dsimp only at hSw); go_simp; try with_reducible rfl); try simp only [Act.put, List.setIfInBounds_toArray, List.set_cons_zero, List.set_cons_succ])
    refine wpAnyH_done (by kernel_rfl) ?_ _
    obtain ⟨A8, c8, rfl, hn8⟩ := hF7.slice
    have hR := Fresh.rd (l := l ++ [(Col.mk nm ki false (Val.mk dk dn df ds))]) (c := c8) Col.cells_len (by decide) (by rw [List.length_append, List.flatMap_append]; exact hF7)
    have c9 := below_trans c3 (And.left hHeld)
    clear hF7 hF hF'
    go_wp2_with fail
    go_ret2
    exact ⟨A8, c8, rfl, hR, hn8, c9⟩
  · go_simp
    refine hK.out _ _ ?_ (fun hHeld2 => ?_)
    · (go_split_ands; exact ⟨Below.trans (by assumption) (((Below.refl _ _).alloc (Nat.le_refl _) _).mono (Below.size (by assumption))), kc ((Below.refl _ _).alloc (Nat.le_refl _) _) (by assumption), kc ((Below.refl _ _).alloc (Nat.le_refl _) _) (by assumption), kc ((Below.refl _ _).alloc (Nat.le_refl _) _) (by assumption), kc ((Below.refl _ _).alloc (Nat.le_refl _) _) (by assumption), kc ((Below.refl _ _).alloc (Nat.le_refl _) _) (by assumption), kc ((Below.refl _ _).alloc (Nat.le_refl _) _) (by assumption), kc ((Below.refl _ _).alloc (Nat.le_refl _) _) (by assumption)⟩)
    clear hK K hHeld
    have hHeld := hHeld2
    clear hHeld2
    try simp only [Act.put, List.setIfInBounds_toArray, List.set_cons_zero, List.set_cons_succ]
    refine wpAnyH_ready (rs := [1]) (by kernel_rfl) (by simp) ?_
    refine AllReadyH.cons (o := { dst := some 35, op := Go.Op.call { callee := Go.Callee.value (Go.Operand.func 110), args := #[Go.Operand.tmp 34], argTypes := #[49] }, type := 49, pos := _, after := _, guard := none }) rfl (fun K hK => ?_) AllReadyH.nil
    go_simp
    refine (clone_cols A c l _ (HA3.out.keep (And.left hHeld) (Nat.le_refl _)) HNA.out (by omega)).mono ?_
    rintro e w6 ⟨A', c', rfl, hF, hn', b6⟩
    go_wp2_with fail
    have hF' : Fresh w6 w3.heap.size 53 7 (.slice A' l.length c') l.length (l.flatMap Col.cells) := hF.imp (fun h => own_mono h (Below.size (And.left hHeld))) id
    refine hK.out _ _ ?_ (fun hHeld2 => ?_)
    · (go_split_ands; exact ⟨Below.trans (by assumption) (b6.mono (Below.size (by assumption))), kc b6 (by assumption), kc b6 (by assumption), kc b6 (by assumption), kc b6 (by assumption), kc b6 (by assumption), kc b6 (by assumption), kc b6 (by assumption)⟩)
    clear hK K hHeld
    have hHeld := hHeld2
    clear hHeld2
    try simp only [Act.put, List.setIfInBounds_toArray, List.set_cons_zero, List.set_cons_succ]
    refine wpAnyH_ready (rs := [4]) (by kernel_rfl) (by simp) ?_
    refine AllReadyH.cons (o := { dst := some 38, op := Go.Op.call { callee := Go.Callee.builtin Go.Builtin.append, args := #[Go.Operand.tmp 35, Go.Operand.tmp 37], argTypes := #[49, 49] }, type := 49, pos := _, after := _, guard := none }) rfl (fun K hK => ?_) AllReadyH.nil
    rw [if_pos (by rfl)]
    refine wp_app_cols _ _ rfl w3.heap.size _ l.length (l.flatMap Col.cells) rfl (by first | exact hF' | exact hF'.alloc _) (Below.size (And.left hHeld)) _ 1 [(Col.mk nm ki false (Val.mk dk dn df ds))] rfl (by simp) (by first | exact RdC.uno _ (Col.mk nm ki false (Val.mk dk dn df ds)) | exact (RdC.uno _ (Col.mk nm ki false (Val.mk dk dn df ds))).keep b6 (Nat.le_refl _) | exact (RdC.dro _ (Col.mk nm ki false (Val.mk dk dn df ds))).keep b6 (Nat.le_refl _) | exact (RdC.dro2 _ _ (Col.mk nm ki false (Val.mk dk dn df ds))).keep b6 (Nat.le_refl _) | exact (RdC.dro3 _ _ (Col.mk nm ki false (Val.mk dk dn df ds))).keep b6 (Nat.le_refl _) | exact ((RdC.uno _ (Col.mk nm ki false (Val.mk dk dn df ds))).keep ((Below.refl _ _).alloc (Nat.le_refl _) _) (Nat.le_refl _)).keep b6 (Nat.le_refl _)) (by simp; omega) ?_
    intro v7 w7 hF7 b7 _
    refine hK.out _ _ ?_ (fun hHeld2 => ?_)
    · (go_split_ands; exact ⟨Below.trans (by assumption) b7, kd b7 (by simp; omega) (by assumption), kd b7 (by simp; omega) (by assumption), kd b7 (by simp; omega) (by assumption), kd b7 (by simp; omega) (by assumption), kd b7 (by simp; omega) (by assumption), kd b7 (by simp; omega) (by assumption), kd b7 (by simp; omega) (by assumption)⟩)
    clear hK K hHeld
    have hHeld := hHeld2
    clear hHeld2
    try simp only [Act.put, List.setIfInBounds_toArray, List.set_cons_zero, List.set_cons_succ]
    (refine wpAnyH_take (i := 5) (oi := { dst := some 4, op := Go.Op.assign (Go.Operand.tmp 38), type := 49, pos := _, after := _, guard := none }) (v := ?_) rfl (by kernel_rfl) (by kernel_rfl) (by kernel_rfl) (fun _ _ _ h => h) (Or.inl ⟨by rfl, ?_⟩) (by assumption) ?_; rotate_left; (intro w hSw; (try dsimp only at hSw); go_simp; try with_reducible rfl); try simp only [Act.put, List.setIfInBounds_toArray, List.set_cons_zero, List.set_cons_succ])
    (refine wpAnyH_take (i := 6) (oi := { dst := some 5, op := Go.Op.assign (Go.Operand.const (Go.Value.int Go.IntKind.i64 0)), type := 27, pos := _, after := _, guard := none }) (v := ?_) rfl (by kernel_rfl) (by kernel_rfl) (by kernel_rfl) (fun _ _ _ h => h) (Or.inl ⟨by rfl, ?_⟩) (by assumption) ?_; rotate_left; (intro w hSw; (try dsimp only at hSw); go_simp; try with_reducible rfl); try simp only [Act.put, List.setIfInBounds_toArray, List.set_cons_zero, List.set_cons_succ])
    refine wpAnyH_done (by kernel_rfl) ?_ _
    obtain ⟨A8, c8, rfl, hn8⟩ := hF7.slice
    have hR := Fresh.rd (l := l ++ [(Col.mk nm ki false (Val.mk dk dn df ds))]) (c := c8) Col.cells_len (by decide) (by rw [List.length_append, List.flatMap_append]; exact hF7)
    have c9 := below_trans c3 (And.left hHeld)
    clear hF7 hF hF'
    go_wp2_with fail
    go_ret2
    exact ⟨A8, c8, rfl, hR, hn8, c9⟩
set_option maxRecDepth 100000 in
set_option maxHeartbeats 4000000 in
theorem add_7 (A : Option Addr) (c : Nat) (l : List Col) (nm : ByteArray) (ki : Int) (dk : Int) (dn : Int) (df : Nat) (ds : ByteArray) (w : World) (ha : RdC w A l) (hnA : A = none → c = 0) (hgv : goodC l = true) (hov : oneV (Col.mk nm ki true (Val.mk dk dn df ds)) = true) (hz : ¬ 0 ≤ findV nm l 0) (hl6 : l.length < 6) (hnn : dk ≠ 0) :
    Calls Try.prog 70 #[.slice A l.length c, cv nm ki true dk dn df ds] w fun e w' => ∃ A' c', e = .returned (.tuple #[.slice A' (l.length + 1) c', .int .i64 0]) ∧ RdC w' A' (l ++ [(Col.mk nm ki true (Val.mk dk dn df ds))]) ∧ (A' = none → c' = 0) ∧ Below w.heap.size w w' := by
  have hst := run_sf
  have h0 : Below w.heap.size w (w.alloc (.cells #[.string nm, .int .i64 ki, .bool true, .int .i64 dk, .int .i64 dn, .float .f64 df, .string ds] 53)) := (Below.refl _ _).alloc (Nat.le_refl _) _
  have hlt0 : w.heap.size < (w.alloc (.cells #[.string nm, .int .i64 ki, .bool true, .int .i64 dk, .int .i64 dn, .float .f64 df, .string ds] 53)).heap.size := by simp
  have HX0 := Lib.hid (RdC.uno w (Col.mk nm ki true (Val.mk dk dn df ds)))
  have HA0 := Lib.hid (ha.keep h0 (Nat.le_refl _))
  have HNA := Lib.hid hnA
  have hll := (goodC_len hgv).2
  have hg := goodc_any A c l _ HA0.out
  rw [hgv] at hg
  clear ha hnA hgv
  go_enter Try.func70, Try.ntmps70
  go_wp2_with fail
  refine hg.mono ?_
  rintro e w1 ⟨rfl, b1⟩
  have c1 := below_trans h0 b1
  have hlt1 : w.heap.size < w1.heap.size := Nat.lt_of_lt_of_le hlt0 b1.size
  have HX1 := Lib.hid (HX0.out.keep b1 (Nat.le_refl _))
  have HA1 := Lib.hid (HA0.out.keep b1 (Nat.le_refl _))
  obtain ⟨q0, q1, q2, q3, q4, q5, q6⟩ : w1.cell? ⟨w.heap.size, 0, none⟩ = some (.string nm) ∧ w1.cell? ⟨w.heap.size, 1, none⟩ = some (.int .i64 ki) ∧ w1.cell? ⟨w.heap.size, 2, none⟩ = some (.bool true) ∧ w1.cell? ⟨w.heap.size, 3, none⟩ = some (.int .i64 dk) ∧ w1.cell? ⟨w.heap.size, 4, none⟩ = some (.int .i64 dn) ∧ w1.cell? ⟨w.heap.size, 5, none⟩ = some (.float .f64 df) ∧ w1.cell? ⟨w.heap.size, 6, none⟩ = some (.string ds) := RdC.box HX1.out
  clear h0 b1 HX0 HA0 hlt0 hg
  have ho := one_any (Col.mk nm ki true (Val.mk dk dn df ds)) w1
  rw [hov] at ho
  clear hov
  go_wp2_with fail
  refine ho.mono ?_
  rintro e w2 ⟨rfl, b2⟩
  have c2 := below_trans c1 b2
  have hlt2 : w.heap.size < w2.heap.size := Nat.lt_of_lt_of_le hlt1 b2.size
  have HX2 := Lib.hid (HX1.out.keep b2 (Nat.le_refl _))
  have HA2 := Lib.hid (HA1.out.keep b2 (Nat.le_refl _))
  clear q0 q1 q2 q3 q4 q5 q6 ho c1 HX1 HA1 hlt1 b2
  obtain ⟨q0, q1, q2, q3, q4, q5, q6⟩ : w2.cell? ⟨w.heap.size, 0, none⟩ = some (.string nm) ∧ w2.cell? ⟨w.heap.size, 1, none⟩ = some (.int .i64 ki) ∧ w2.cell? ⟨w.heap.size, 2, none⟩ = some (.bool true) ∧ w2.cell? ⟨w.heap.size, 3, none⟩ = some (.int .i64 dk) ∧ w2.cell? ⟨w.heap.size, 4, none⟩ = some (.int .i64 dn) ∧ w2.cell? ⟨w.heap.size, 5, none⟩ = some (.float .f64 df) ∧ w2.cell? ⟨w.heap.size, 6, none⟩ = some (.string ds) := RdC.box HX2.out
  have hf := find_any A c l nm w2 HA2.out (by omega)
  generalize findV nm l 0 = z at *
  have tz : decide (0 ≤ z) = false := decide_eq_false (by omega)
  clear hz
  go_wp2_with fail
  refine hf.mono ?_
  rintro e w3 ⟨rfl, b3⟩
  have c3 := below_trans c2 b3
  have hlt3 : w.heap.size < w3.heap.size := Nat.lt_of_lt_of_le hlt2 b3.size
  have HX3 := Lib.hid (HX2.out.keep b3 (Nat.le_refl _))
  have HA3 := Lib.hid (HA2.out.keep b3 (Nat.le_refl _))
  clear b3
  clear q0 q1 q2 q3 q4 q5 q6 hf HX2 HA2
  have tl : ((l.length : Int) == 6) = false := by rw [beq_eq_false_iff_ne]; omega
  have tl2 : decide ((6 : Int) ≤ (l.length : Int)) = false := by rw [decide_eq_false]; omega
  obtain ⟨q0, q1, q2, q3, q4, q5, q6⟩ : w3.cell? ⟨w.heap.size, 0, none⟩ = some (.string nm) ∧ w3.cell? ⟨w.heap.size, 1, none⟩ = some (.int .i64 ki) ∧ w3.cell? ⟨w.heap.size, 2, none⟩ = some (.bool true) ∧ w3.cell? ⟨w.heap.size, 3, none⟩ = some (.int .i64 dk) ∧ w3.cell? ⟨w.heap.size, 4, none⟩ = some (.int .i64 dn) ∧ w3.cell? ⟨w.heap.size, 5, none⟩ = some (.float .f64 df) ∧ w3.cell? ⟨w.heap.size, 6, none⟩ = some (.string ds) := RdC.box HX3.out
  have tk : (dk == 0) = false := by rw [beq_eq_false_iff_ne]; exact hnn
  clear hnn
  clear hl6
  go_wp2_with fail
  refine wp_region_held_drew (S := (fun w' => Below w3.heap.size w3 w' ∧ w'.cell? ⟨w.heap.size, 0, none⟩ = some (.string nm) ∧ w'.cell? ⟨w.heap.size, 1, none⟩ = some (.int .i64 ki) ∧ w'.cell? ⟨w.heap.size, 2, none⟩ = some (.bool true) ∧ w'.cell? ⟨w.heap.size, 3, none⟩ = some (.int .i64 dk) ∧ w'.cell? ⟨w.heap.size, 4, none⟩ = some (.int .i64 dn) ∧ w'.cell? ⟨w.heap.size, 5, none⟩ = some (.float .f64 df) ∧ w'.cell? ⟨w.heap.size, 6, none⟩ = some (.string ds))) (by kernel_rfl) (⟨(Below.refl _ _).drew, q0, q1, q2, q3, q4, q5, q6⟩) (fun hHeld => ?_)
  (refine wpAnyH_take (i := 0) (oi := { dst := some 34, op := Go.Op.move (Go.Operand.tmp 0), type := 49, pos := _, after := _, guard := none }) (v := ?_) rfl (by kernel_rfl) (by kernel_rfl) (by kernel_rfl) (fun _ _ _ h => h) (Or.inl ⟨by rfl, ?_⟩) (by assumption) ?_; rotate_left; (intro w hSw; (try dsimp only at hSw); go_simp; try with_reducible rfl); try simp only [Act.put, List.setIfInBounds_toArray, List.set_cons_zero, List.set_cons_succ])
  (refine wpAnyH_take (i := 2) (oi := { dst := some 36, op := Go.Op.load 53 (Go.Operand.tmp 3), type := 53, pos := _, after := _, guard := none }) (v := ?_) rfl (by kernel_rfl) (by kernel_rfl) (by kernel_rfl) (fun _ _ _ h => h) (Or.inl ⟨by rfl, ?_⟩) (by assumption) ?_; rotate_left; (intro w hSw; (try dsimp only at hSw); go_simp; try with_reducible rfl); try simp only [Act.put, List.setIfInBounds_toArray, List.set_cons_zero, List.set_cons_succ])
  refine wpAnyH_ready (rs := [1, 3]) (by kernel_rfl) (by simp) ?_
  refine (AllReadyH.cons (o := { dst := some 35, op := Go.Op.call { callee := Go.Callee.value (Go.Operand.func 110), args := #[Go.Operand.tmp 34], argTypes := #[49] }, type := 49, pos := _, after := _, guard := none }) rfl (fun K hK => ?_) (AllReadyH.cons (o := { dst := some 37, op := Go.Op.buildSlice 49 1 #[(0, Go.Operand.tmp 36)], type := 49, pos := _, after := _, guard := none }) rfl (fun K hK => ?_) AllReadyH.nil))
  · go_simp
    refine (clone_cols A c l _ (HA3.out.keep (And.left hHeld) (Nat.le_refl _)) HNA.out (by omega)).mono ?_
    rintro e w6 ⟨A', c', rfl, hF, hn', b6⟩
    go_wp2_with fail
    have hF' : Fresh w6 w3.heap.size 53 7 (.slice A' l.length c') l.length (l.flatMap Col.cells) := hF.imp (fun h => own_mono h (Below.size (And.left hHeld))) id
    refine hK.out _ _ ?_ (fun hHeld2 => ?_)
    · (go_split_ands; exact ⟨Below.trans (by assumption) (b6.mono (Below.size (by assumption))), kc b6 (by assumption), kc b6 (by assumption), kc b6 (by assumption), kc b6 (by assumption), kc b6 (by assumption), kc b6 (by assumption), kc b6 (by assumption)⟩)
    clear hK K hHeld
    have hHeld := hHeld2
    clear hHeld2
    try simp only [Act.put, List.setIfInBounds_toArray, List.set_cons_zero, List.set_cons_succ]
    refine wpAnyH_ready (rs := [3]) (by kernel_rfl) (by simp) ?_
    refine AllReadyH.cons (o := { dst := some 37, op := Go.Op.buildSlice 49 1 #[(0, Go.Operand.tmp 36)], type := 49, pos := _, after := _, guard := none }) rfl (fun K hK => ?_) AllReadyH.nil
    go_simp
    refine hK.out _ _ ?_ (fun hHeld2 => ?_)
    · (go_split_ands; exact ⟨Below.trans (by assumption) (((Below.refl _ _).alloc (Nat.le_refl _) _).mono (Below.size (by assumption))), kc ((Below.refl _ _).alloc (Nat.le_refl _) _) (by assumption), kc ((Below.refl _ _).alloc (Nat.le_refl _) _) (by assumption), kc ((Below.refl _ _).alloc (Nat.le_refl _) _) (by assumption), kc ((Below.refl _ _).alloc (Nat.le_refl _) _) (by assumption), kc ((Below.refl _ _).alloc (Nat.le_refl _) _) (by assumption), kc ((Below.refl _ _).alloc (Nat.le_refl _) _) (by assumption), kc ((Below.refl _ _).alloc (Nat.le_refl _) _) (by assumption)⟩)
    clear hK K hHeld
    have hHeld := hHeld2
    clear hHeld2
    try simp only [Act.put, List.setIfInBounds_toArray, List.set_cons_zero, List.set_cons_succ]
    refine wpAnyH_ready (rs := [4]) (by kernel_rfl) (by simp) ?_
    refine AllReadyH.cons (o := { dst := some 38, op := Go.Op.call { callee := Go.Callee.builtin Go.Builtin.append, args := #[Go.Operand.tmp 35, Go.Operand.tmp 37], argTypes := #[49, 49] }, type := 49, pos := _, after := _, guard := none }) rfl (fun K hK => ?_) AllReadyH.nil
    rw [if_pos (by rfl)]
    refine wp_app_cols _ _ rfl w3.heap.size _ l.length (l.flatMap Col.cells) rfl (by first | exact hF' | exact hF'.alloc _) (Below.size (And.left hHeld)) _ 1 [(Col.mk nm ki true (Val.mk dk dn df ds))] rfl (by simp) (by first | exact RdC.uno _ (Col.mk nm ki true (Val.mk dk dn df ds)) | exact (RdC.uno _ (Col.mk nm ki true (Val.mk dk dn df ds))).keep b6 (Nat.le_refl _) | exact (RdC.dro _ (Col.mk nm ki true (Val.mk dk dn df ds))).keep b6 (Nat.le_refl _) | exact (RdC.dro2 _ _ (Col.mk nm ki true (Val.mk dk dn df ds))).keep b6 (Nat.le_refl _) | exact (RdC.dro3 _ _ (Col.mk nm ki true (Val.mk dk dn df ds))).keep b6 (Nat.le_refl _) | exact ((RdC.uno _ (Col.mk nm ki true (Val.mk dk dn df ds))).keep ((Below.refl _ _).alloc (Nat.le_refl _) _) (Nat.le_refl _)).keep b6 (Nat.le_refl _)) (by simp; omega) ?_
    intro v7 w7 hF7 b7 _
    refine hK.out _ _ ?_ (fun hHeld2 => ?_)
    · (go_split_ands; exact ⟨Below.trans (by assumption) b7, kd b7 (by simp; omega) (by assumption), kd b7 (by simp; omega) (by assumption), kd b7 (by simp; omega) (by assumption), kd b7 (by simp; omega) (by assumption), kd b7 (by simp; omega) (by assumption), kd b7 (by simp; omega) (by assumption), kd b7 (by simp; omega) (by assumption)⟩)
    clear hK K hHeld
    have hHeld := hHeld2
    clear hHeld2
    try simp only [Act.put, List.setIfInBounds_toArray, List.set_cons_zero, List.set_cons_succ]
    (refine wpAnyH_take (i := 5) (oi := { dst := some 4, op := Go.Op.assign (Go.Operand.tmp 38), type := 49, pos := _, after := _, guard := none }) (v := ?_) rfl (by kernel_rfl) (by kernel_rfl) (by kernel_rfl) (fun _ _ _ h => h) (Or.inl ⟨by rfl, ?_⟩) (by assumption) ?_; rotate_left; (intro w hSw; (try dsimp only at hSw); go_simp; try with_reducible rfl); try simp only [Act.put, List.setIfInBounds_toArray, List.set_cons_zero, List.set_cons_succ])
    (refine wpAnyH_take (i := 6) (oi := { dst := some 5, op := Go.Op.assign (Go.Operand.const (Go.Value.int Go.IntKind.i64 0)), type := 27, pos := _, after := _, guard := none }) (v := ?_) rfl (by kernel_rfl) (by kernel_rfl) (by kernel_rfl) (fun _ _ _ h => h) (Or.inl ⟨by rfl, ?_⟩) (by assumption) ?_; rotate_left; (intro w hSw; (try dsimp only at hSw); go_simp; try with_reducible rfl); try simp only [Act.put, List.setIfInBounds_toArray, List.set_cons_zero, List.set_cons_succ])
    refine wpAnyH_done (by kernel_rfl) ?_ _
    obtain ⟨A8, c8, rfl, hn8⟩ := hF7.slice
    have hR := Fresh.rd (l := l ++ [(Col.mk nm ki true (Val.mk dk dn df ds))]) (c := c8) Col.cells_len (by decide) (by rw [List.length_append, List.flatMap_append]; exact hF7)
    have c9 := below_trans c3 (And.left hHeld)
    clear hF7 hF hF'
    go_wp2_with fail
    go_ret2
    exact ⟨A8, c8, rfl, hR, hn8, c9⟩
  · go_simp
    refine hK.out _ _ ?_ (fun hHeld2 => ?_)
    · (go_split_ands; exact ⟨Below.trans (by assumption) (((Below.refl _ _).alloc (Nat.le_refl _) _).mono (Below.size (by assumption))), kc ((Below.refl _ _).alloc (Nat.le_refl _) _) (by assumption), kc ((Below.refl _ _).alloc (Nat.le_refl _) _) (by assumption), kc ((Below.refl _ _).alloc (Nat.le_refl _) _) (by assumption), kc ((Below.refl _ _).alloc (Nat.le_refl _) _) (by assumption), kc ((Below.refl _ _).alloc (Nat.le_refl _) _) (by assumption), kc ((Below.refl _ _).alloc (Nat.le_refl _) _) (by assumption), kc ((Below.refl _ _).alloc (Nat.le_refl _) _) (by assumption)⟩)
    clear hK K hHeld
    have hHeld := hHeld2
    clear hHeld2
    try simp only [Act.put, List.setIfInBounds_toArray, List.set_cons_zero, List.set_cons_succ]
    refine wpAnyH_ready (rs := [1]) (by kernel_rfl) (by simp) ?_
    refine AllReadyH.cons (o := { dst := some 35, op := Go.Op.call { callee := Go.Callee.value (Go.Operand.func 110), args := #[Go.Operand.tmp 34], argTypes := #[49] }, type := 49, pos := _, after := _, guard := none }) rfl (fun K hK => ?_) AllReadyH.nil
    go_simp
    refine (clone_cols A c l _ (HA3.out.keep (And.left hHeld) (Nat.le_refl _)) HNA.out (by omega)).mono ?_
    rintro e w6 ⟨A', c', rfl, hF, hn', b6⟩
    go_wp2_with fail
    have hF' : Fresh w6 w3.heap.size 53 7 (.slice A' l.length c') l.length (l.flatMap Col.cells) := hF.imp (fun h => own_mono h (Below.size (And.left hHeld))) id
    refine hK.out _ _ ?_ (fun hHeld2 => ?_)
    · (go_split_ands; exact ⟨Below.trans (by assumption) (b6.mono (Below.size (by assumption))), kc b6 (by assumption), kc b6 (by assumption), kc b6 (by assumption), kc b6 (by assumption), kc b6 (by assumption), kc b6 (by assumption), kc b6 (by assumption)⟩)
    clear hK K hHeld
    have hHeld := hHeld2
    clear hHeld2
    try simp only [Act.put, List.setIfInBounds_toArray, List.set_cons_zero, List.set_cons_succ]
    refine wpAnyH_ready (rs := [4]) (by kernel_rfl) (by simp) ?_
    refine AllReadyH.cons (o := { dst := some 38, op := Go.Op.call { callee := Go.Callee.builtin Go.Builtin.append, args := #[Go.Operand.tmp 35, Go.Operand.tmp 37], argTypes := #[49, 49] }, type := 49, pos := _, after := _, guard := none }) rfl (fun K hK => ?_) AllReadyH.nil
    rw [if_pos (by rfl)]
    refine wp_app_cols _ _ rfl w3.heap.size _ l.length (l.flatMap Col.cells) rfl (by first | exact hF' | exact hF'.alloc _) (Below.size (And.left hHeld)) _ 1 [(Col.mk nm ki true (Val.mk dk dn df ds))] rfl (by simp) (by first | exact RdC.uno _ (Col.mk nm ki true (Val.mk dk dn df ds)) | exact (RdC.uno _ (Col.mk nm ki true (Val.mk dk dn df ds))).keep b6 (Nat.le_refl _) | exact (RdC.dro _ (Col.mk nm ki true (Val.mk dk dn df ds))).keep b6 (Nat.le_refl _) | exact (RdC.dro2 _ _ (Col.mk nm ki true (Val.mk dk dn df ds))).keep b6 (Nat.le_refl _) | exact (RdC.dro3 _ _ (Col.mk nm ki true (Val.mk dk dn df ds))).keep b6 (Nat.le_refl _) | exact ((RdC.uno _ (Col.mk nm ki true (Val.mk dk dn df ds))).keep ((Below.refl _ _).alloc (Nat.le_refl _) _) (Nat.le_refl _)).keep b6 (Nat.le_refl _)) (by simp; omega) ?_
    intro v7 w7 hF7 b7 _
    refine hK.out _ _ ?_ (fun hHeld2 => ?_)
    · (go_split_ands; exact ⟨Below.trans (by assumption) b7, kd b7 (by simp; omega) (by assumption), kd b7 (by simp; omega) (by assumption), kd b7 (by simp; omega) (by assumption), kd b7 (by simp; omega) (by assumption), kd b7 (by simp; omega) (by assumption), kd b7 (by simp; omega) (by assumption), kd b7 (by simp; omega) (by assumption)⟩)
    clear hK K hHeld
    have hHeld := hHeld2
    clear hHeld2
    try simp only [Act.put, List.setIfInBounds_toArray, List.set_cons_zero, List.set_cons_succ]
    (refine wpAnyH_take (i := 5) (oi := { dst := some 4, op := Go.Op.assign (Go.Operand.tmp 38), type := 49, pos := _, after := _, guard := none }) (v := ?_) rfl (by kernel_rfl) (by kernel_rfl) (by kernel_rfl) (fun _ _ _ h => h) (Or.inl ⟨by rfl, ?_⟩) (by assumption) ?_; rotate_left; (intro w hSw; (try dsimp only at hSw); go_simp; try with_reducible rfl); try simp only [Act.put, List.setIfInBounds_toArray, List.set_cons_zero, List.set_cons_succ])
    (refine wpAnyH_take (i := 6) (oi := { dst := some 5, op := Go.Op.assign (Go.Operand.const (Go.Value.int Go.IntKind.i64 0)), type := 27, pos := _, after := _, guard := none }) (v := ?_) rfl (by kernel_rfl) (by kernel_rfl) (by kernel_rfl) (fun _ _ _ h => h) (Or.inl ⟨by rfl, ?_⟩) (by assumption) ?_; rotate_left; (intro w hSw; (try dsimp only at hSw); go_simp; try with_reducible rfl); try simp only [Act.put, List.setIfInBounds_toArray, List.set_cons_zero, List.set_cons_succ])
    refine wpAnyH_done (by kernel_rfl) ?_ _
    obtain ⟨A8, c8, rfl, hn8⟩ := hF7.slice
    have hR := Fresh.rd (l := l ++ [(Col.mk nm ki true (Val.mk dk dn df ds))]) (c := c8) Col.cells_len (by decide) (by rw [List.length_append, List.flatMap_append]; exact hF7)
    have c9 := below_trans c3 (And.left hHeld)
    clear hF7 hF hF'
    go_wp2_with fail
    go_ret2
    exact ⟨A8, c8, rfl, hR, hn8, c9⟩

theorem add_any (A : Option Addr) (c : Nat) (l : List Col) (x : Col) (w : World) (ha : RdC w A l) (hnA : A = none → c = 0) :
    Calls Try.prog 70 #[.slice A l.length c, cv x.name x.kind x.nn x.d.kind x.d.n x.d.f x.d.s] w fun e w' => ∃ A' c', e = .returned (.tuple #[.slice A' (addV l x).length c', .int .i64 (addE l x)]) ∧ RdC w' A' (addV l x) ∧ (A' = none → c' = 0) ∧ Below w.heap.size w w' := by
  have bad : ∀ E : Int, E ≠ 0 → addE l x = E → (Calls Try.prog 70 #[.slice A l.length c, cv x.name x.kind x.nn x.d.kind x.d.n x.d.f x.d.s] w fun e w' => e = .returned (.tuple #[.slice none 0 0, .int .i64 E]) ∧ Below w.heap.size w w') →
      Calls Try.prog 70 #[.slice A l.length c, cv x.name x.kind x.nn x.d.kind x.d.n x.d.f x.d.s] w fun e w' => ∃ A' c', e = .returned (.tuple #[.slice A' (addV l x).length c', .int .i64 (addE l x)]) ∧ RdC w' A' (addV l x) ∧ (A' = none → c' = 0) ∧ Below w.heap.size w w' := by
    intro E h0 hE h
    have hv : addV l x = [] := by unfold addV; rw [hE, if_neg h0]
    rw [hv, hE]
    refine h.mono ?_
    rintro e w1 ⟨rfl, b⟩
    exact ⟨none, 0, rfl, RdL.nil _ _ _ _, fun _ => rfl, b⟩
  by_cases hg : goodC l = false
  · exact bad 11 (by decide) (by unfold addE; rw [if_pos hg]) (add_1 A c l x w ha hnA hg)
  have hg' : goodC l = true := by simpa using hg
  by_cases ho : oneV x = false
  · exact bad 11 (by decide) (by unfold addE; rw [if_neg hg, if_pos ho]) (add_2 A c l x w ha hnA hg' ho)
  have ho' : oneV x = true := by simpa using ho
  by_cases hz : 0 ≤ findV x.name l 0
  · exact bad 62 (by decide) (by unfold addE; rw [if_neg hg, if_neg ho, if_pos hz]) (add_3 A c l x w ha hnA hg' ho' hz)
  by_cases hl : l.length = 6
  · exact bad 3 (by decide) (by unfold addE; rw [if_neg hg, if_neg ho, if_neg hz, if_pos hl]) (add_4 A c l x w ha hnA hg' ho' hz (by omega))
  have hl' : l.length < 6 := by have := (goodC_len hg').2; omega
  obtain ⟨nm, ki, nn, dk, dn, df, ds⟩ := x
  have fin : ∀ (h : ¬ (nn = true ∧ dk = 0)), (Calls Try.prog 70 #[.slice A l.length c, cv nm ki nn dk dn df ds] w fun e w' => ∃ A' c', e = .returned (.tuple #[.slice A' (l.length + 1) c', .int .i64 0]) ∧ RdC w' A' (l ++ [⟨nm, ki, nn, dk, dn, df, ds⟩]) ∧ (A' = none → c' = 0) ∧ Below w.heap.size w w') →
      Calls Try.prog 70 #[.slice A l.length c, cv nm ki nn dk dn df ds] w fun e w' => ∃ A' c', e = .returned (.tuple #[.slice A' (addV l ⟨nm, ki, nn, dk, dn, df, ds⟩).length c', .int .i64 (addE l ⟨nm, ki, nn, dk, dn, df, ds⟩)]) ∧ RdC w' A' (addV l ⟨nm, ki, nn, dk, dn, df, ds⟩) ∧ (A' = none → c' = 0) ∧ Below w.heap.size w w' := by
    intro hn h
    have e : addE l ⟨nm, ki, nn, dk, dn, df, ds⟩ = 0 := by unfold addE; rw [if_neg hg, if_neg ho, if_neg hz, if_neg hl, if_neg hn]
    have hv : addV l ⟨nm, ki, nn, dk, dn, df, ds⟩ = l ++ [⟨nm, ki, nn, dk, dn, df, ds⟩] := by unfold addV; rw [e]; rfl
    have hlen : (l ++ [(⟨nm, ki, nn, dk, dn, df, ds⟩ : Col)]).length = l.length + 1 := by simp
    rw [hv, e, hlen]
    exact h
  cases nn with
  | false => exact fin (by simp) (add_6 A c l nm ki dk dn df ds w ha hnA hg' ho' hz hl')
  | true =>
    by_cases hd : dk = 0
    · subst hd
      exact bad 21 (by decide) (by unfold addE; rw [if_neg hg, if_neg ho, if_neg hz, if_neg hl, if_pos ⟨rfl, rfl⟩]) (add_5 A c l nm ki dn df ds w ha hnA hg' ho' hz hl')
    · exact fin (fun h => hd h.2) (add_7 A c l nm ki dk dn df ds w ha hnA hg' ho' hz hl' hd)
end Go.Proofs.Ytmgpecomgffelaa
