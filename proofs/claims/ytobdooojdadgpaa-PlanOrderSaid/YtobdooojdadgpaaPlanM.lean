/- Contracts of the keep's functions on statements and indexes. -/
import Derived.Test.YtobdooojdadgpaaPlanK
import Derived.Deep.RegionHeld3
namespace Go.Proofs.Ytobdooojdadgpaa
open Go.RowKit Go.ChangeShapes Go.WideShapes Go.ChangeAt
set_option linter.unusedVariables false
/-- The lists in a statement lie in memory. -/
structure StmIn (w : World) (s : Stm) (rl : List Val) (cl : List Col) : Prop where
  rn : s.rn = rl.length
  cn : s.cn = cl.length
  rr : RdV w s.rA rl
  rc : RdC w s.cA cl
  nr : s.rA = none → s.rc = 0
  nc : s.cA = none → s.cc = 0
theorem StmIn.keep {w w' : World} {s : Stm} {rl : List Val} {cl : List Col} (h : StmIn w s rl cl) (hb : Below w.heap.size w w') : StmIn w' s rl cl :=
  ⟨h.rn, h.cn, h.rr.keep hb (Nat.le_refl _), h.rc.keep hb (Nat.le_refl _), h.nr, h.nc⟩
/-- A test's answer: if it says no, the bounds hold. -/
def TestS (w : World) (p : Prop) (e : Ending) (w' : World) : Prop := ∃ b : Bool, e = .returned (.bool b) ∧ (b = false → p) ∧ Below w.heap.size w w'
theorem largeC_len {l : List Col} (h : largeC l = false) : l.length ≤ 50 := by
  unfold largeC at h
  rw [Bool.or_eq_false_iff, decide_eq_false_iff_not] at h
  omega
theorem largeR_len {l : List Val} (h : largeR l = false) : l.length ≤ 50 := by
  unfold largeR at h
  rw [Bool.or_eq_false_iff, decide_eq_false_iff_not] at h
  omega
/-- The cells of a statement's box that the walks read behind a call. -/
def BoxS (w : World) (b : Nat) (wk wn : Int) (wf : Nat) (ws : ByteArray) (rA : Option Addr) (rn rc : Nat) (cA : Option Addr) (cn cc : Nat) : Prop :=
  w.cell? ⟨b, 9, none⟩ = some (.int .i64 wk) ∧ w.cell? ⟨b, 10, none⟩ = some (.int .i64 wn) ∧ w.cell? ⟨b, 11, none⟩ = some (.float .f64 wf) ∧ w.cell? ⟨b, 12, none⟩ = some (.string ws) ∧ w.cell? ⟨b, 13, none⟩ = some (.slice rA rn rc) ∧ w.cell? ⟨b, 14, none⟩ = some (.slice cA cn cc)
theorem BoxS.keep {w w' : World} {b : Nat} {wk wn : Int} {wf : Nat} {ws : ByteArray} {rA : Option Addr} {rn rc : Nat} {cA : Option Addr} {cn cc : Nat} (h : BoxS w b wk wn wf ws rA rn rc cA cn cc) (hb : Below w.heap.size w w') : BoxS w' b wk wn wf ws rA rn rc cA cn cc := by
  obtain ⟨a, b, c, d, e, f⟩ := h
  exact ⟨kc hb a, kc hb b, kc hb c, kc hb d, kc hb e, kc hb f⟩
set_option maxRecDepth 100000 in
set_option maxHeartbeats 2000000 in
theorem large_stmt0 (k : Int) (tb nm co se : ByteArray) (vk vn : Int) (vf : Nat) (vs : ByteArray) (wk wn : Int) (wf : Nat) (ws : ByteArray) (rA : Option Addr) (rc : Nat) (cA : Option Addr) (cc : Nat) (fl : Bool) (rl : List Val) (cl : List Col) (w : World) (hr : RdV w rA rl) (hc : RdC w cA cl) (e0 : decide (2000 < vs.size) = true) : Calls Try.prog 55 #[.agg #[.int .i64 k, .string tb, .string nm, .string co, .string se, .int .i64 vk, .int .i64 vn, .float .f64 vf, .string vs, .int .i64 wk, .int .i64 wn, .float .f64 wf, .string ws, .slice rA rl.length rc, .slice cA cl.length cc, .bool fl]] w (TestS w (rl.length ≤ 50 ∧ cl.length ≤ 50)) := by
  have hst := run_sf
  have b0 : Below w.heap.size w (w.alloc (.cells #[.int .i64 k, .string tb, .string nm, .string co, .string se, .int .i64 vk, .int .i64 vn, .float .f64 vf, .string vs, .int .i64 wk, .int .i64 wn, .float .f64 wf, .string ws, .slice rA rl.length rc, .slice cA cl.length cc, .bool fl] 45)) := (Below.refl _ _).alloc (Nat.le_refl _) _
  have hbox : BoxS (w.alloc (.cells #[.int .i64 k, .string tb, .string nm, .string co, .string se, .int .i64 vk, .int .i64 vn, .float .f64 vf, .string vs, .int .i64 wk, .int .i64 wn, .float .f64 wf, .string ws, .slice rA rl.length rc, .slice cA cl.length cc, .bool fl] 45)) w.heap.size wk wn wf ws rA rl.length rc cA cl.length cc := ⟨World.cell?_alloc_new _ _ _ _, World.cell?_alloc_new _ _ _ _, World.cell?_alloc_new _ _ _ _, World.cell?_alloc_new _ _ _ _, World.cell?_alloc_new _ _ _ _, World.cell?_alloc_new _ _ _ _⟩
  have HX0 := Lib.hid hbox
  have HR0 := Lib.hid (hr.keep b0 (Nat.le_refl _))
  have HC0 := Lib.hid (hc.keep b0 (Nat.le_refl _))
  have hp := 0
  have h1 := large_value vk vn vf vs
  rw [e0] at h1
  clear hr hc hbox e0
  go_enter Try.func55, Try.ntmps55
  go_wp2_with fail
  all_goals first
    | (go_ret; exact ⟨true, rfl, (fun h => by cases h), b0⟩)
    | (refine (h1 _).mono ?_
       rintro e w1 ⟨rfl, b1⟩
       have k1 := b0.trans (b1.mono b0.size)
       have HX1 := Lib.hid (HX0.out.keep b1)
       have HR1 := Lib.hid (HR0.out.keep b1 (Nat.le_refl _))
       have HC1 := Lib.hid (HC0.out.keep b1 (Nat.le_refl _))
       go_wp2_with fail
       go_ret; exact ⟨true, rfl, (fun h => by cases h), k1⟩)
set_option maxRecDepth 100000 in
set_option maxHeartbeats 2000000 in
theorem large_stmt1 (k : Int) (tb nm co se : ByteArray) (vk vn : Int) (vf : Nat) (vs : ByteArray) (wk wn : Int) (wf : Nat) (ws : ByteArray) (rA : Option Addr) (rc : Nat) (cA : Option Addr) (cc : Nat) (fl : Bool) (rl : List Val) (cl : List Col) (w : World) (hr : RdV w rA rl) (hc : RdC w cA cl) (e0 : decide (2000 < vs.size) = false) (e1 : decide (2000 < ws.size) = true) : Calls Try.prog 55 #[.agg #[.int .i64 k, .string tb, .string nm, .string co, .string se, .int .i64 vk, .int .i64 vn, .float .f64 vf, .string vs, .int .i64 wk, .int .i64 wn, .float .f64 wf, .string ws, .slice rA rl.length rc, .slice cA cl.length cc, .bool fl]] w (TestS w (rl.length ≤ 50 ∧ cl.length ≤ 50)) := by
  have hst := run_sf
  have b0 : Below w.heap.size w (w.alloc (.cells #[.int .i64 k, .string tb, .string nm, .string co, .string se, .int .i64 vk, .int .i64 vn, .float .f64 vf, .string vs, .int .i64 wk, .int .i64 wn, .float .f64 wf, .string ws, .slice rA rl.length rc, .slice cA cl.length cc, .bool fl] 45)) := (Below.refl _ _).alloc (Nat.le_refl _) _
  have hbox : BoxS (w.alloc (.cells #[.int .i64 k, .string tb, .string nm, .string co, .string se, .int .i64 vk, .int .i64 vn, .float .f64 vf, .string vs, .int .i64 wk, .int .i64 wn, .float .f64 wf, .string ws, .slice rA rl.length rc, .slice cA cl.length cc, .bool fl] 45)) w.heap.size wk wn wf ws rA rl.length rc cA cl.length cc := ⟨World.cell?_alloc_new _ _ _ _, World.cell?_alloc_new _ _ _ _, World.cell?_alloc_new _ _ _ _, World.cell?_alloc_new _ _ _ _, World.cell?_alloc_new _ _ _ _, World.cell?_alloc_new _ _ _ _⟩
  have HX0 := Lib.hid hbox
  have HR0 := Lib.hid (hr.keep b0 (Nat.le_refl _))
  have HC0 := Lib.hid (hc.keep b0 (Nat.le_refl _))
  have hp := 0
  have h1 := large_value vk vn vf vs
  rw [e0] at h1
  have h2 := large_value wk wn wf ws
  rw [e1] at h2
  clear hr hc hbox e0 e1
  go_enter Try.func55, Try.ntmps55
  go_wp2_with fail
  all_goals first
    | (go_ret; exact ⟨true, rfl, (fun h => by cases h), b0⟩)
    | (refine (h1 _).mono ?_
       rintro e w1 ⟨rfl, b1⟩
       have k1 := b0.trans (b1.mono b0.size)
       have HX1 := Lib.hid (HX0.out.keep b1)
       have HR1 := Lib.hid (HR0.out.keep b1 (Nat.le_refl _))
       have HC1 := Lib.hid (HC0.out.keep b1 (Nat.le_refl _))
       obtain ⟨f9, f10, f11, f12, f13, f14⟩ := HX1.out
       go_wp2_with fail
       refine (h2 _).mono ?_
       rintro e w2 ⟨rfl, b2⟩
       have k2 := k1.trans (b2.mono k1.size)
       have HX2 := Lib.hid (HX1.out.keep b2)
       have HR2 := Lib.hid (HR1.out.keep b2 (Nat.le_refl _))
       have HC2 := Lib.hid (HC1.out.keep b2 (Nat.le_refl _))
       go_wp2_with fail
       go_ret; exact ⟨true, rfl, (fun h => by cases h), k2⟩)
set_option maxRecDepth 100000 in
set_option maxHeartbeats 2000000 in
theorem large_stmt2 (k : Int) (tb nm co se : ByteArray) (vk vn : Int) (vf : Nat) (vs : ByteArray) (wk wn : Int) (wf : Nat) (ws : ByteArray) (rA : Option Addr) (rc : Nat) (cA : Option Addr) (cc : Nat) (fl : Bool) (rl : List Val) (cl : List Col) (w : World) (hr : RdV w rA rl) (hc : RdC w cA cl) (e0 : decide (2000 < vs.size) = false) (e1 : decide (2000 < ws.size) = false) (e2 : largeR rl = true) : Calls Try.prog 55 #[.agg #[.int .i64 k, .string tb, .string nm, .string co, .string se, .int .i64 vk, .int .i64 vn, .float .f64 vf, .string vs, .int .i64 wk, .int .i64 wn, .float .f64 wf, .string ws, .slice rA rl.length rc, .slice cA cl.length cc, .bool fl]] w (TestS w (rl.length ≤ 50 ∧ cl.length ≤ 50)) := by
  have hst := run_sf
  have b0 : Below w.heap.size w (w.alloc (.cells #[.int .i64 k, .string tb, .string nm, .string co, .string se, .int .i64 vk, .int .i64 vn, .float .f64 vf, .string vs, .int .i64 wk, .int .i64 wn, .float .f64 wf, .string ws, .slice rA rl.length rc, .slice cA cl.length cc, .bool fl] 45)) := (Below.refl _ _).alloc (Nat.le_refl _) _
  have hbox : BoxS (w.alloc (.cells #[.int .i64 k, .string tb, .string nm, .string co, .string se, .int .i64 vk, .int .i64 vn, .float .f64 vf, .string vs, .int .i64 wk, .int .i64 wn, .float .f64 wf, .string ws, .slice rA rl.length rc, .slice cA cl.length cc, .bool fl] 45)) w.heap.size wk wn wf ws rA rl.length rc cA cl.length cc := ⟨World.cell?_alloc_new _ _ _ _, World.cell?_alloc_new _ _ _ _, World.cell?_alloc_new _ _ _ _, World.cell?_alloc_new _ _ _ _, World.cell?_alloc_new _ _ _ _, World.cell?_alloc_new _ _ _ _⟩
  have HX0 := Lib.hid hbox
  have HR0 := Lib.hid (hr.keep b0 (Nat.le_refl _))
  have HC0 := Lib.hid (hc.keep b0 (Nat.le_refl _))
  have hp := 0
  have h1 := large_value vk vn vf vs
  rw [e0] at h1
  have h2 := large_value wk wn wf ws
  rw [e1] at h2
  have E2 := Lib.hid e2
  clear hr hc hbox e0 e1 e2
  go_enter Try.func55, Try.ntmps55
  go_wp2_with fail
  all_goals first
    | (go_ret; exact ⟨true, rfl, (fun h => by cases h), b0⟩)
    | (refine (h1 _).mono ?_
       rintro e w1 ⟨rfl, b1⟩
       have k1 := b0.trans (b1.mono b0.size)
       have HX1 := Lib.hid (HX0.out.keep b1)
       have HR1 := Lib.hid (HR0.out.keep b1 (Nat.le_refl _))
       have HC1 := Lib.hid (HC0.out.keep b1 (Nat.le_refl _))
       obtain ⟨f9, f10, f11, f12, f13, f14⟩ := HX1.out
       go_wp2_with fail
       refine (h2 _).mono ?_
       rintro e w2 ⟨rfl, b2⟩
       have k2 := k1.trans (b2.mono k1.size)
       have HX2 := Lib.hid (HX1.out.keep b2)
       have HR2 := Lib.hid (HR1.out.keep b2 (Nat.le_refl _))
       have HC2 := Lib.hid (HC1.out.keep b2 (Nat.le_refl _))
       clear f9 f10 f11 f12 f13 f14
       obtain ⟨f9, f10, f11, f12, f13, f14⟩ := HX2.out
       have h3 := large_row rA rc rl w2 HR2.out
       rw [E2.out] at h3
       go_wp2_with fail
       refine h3.mono ?_
       rintro e w3 ⟨rfl, b3⟩
       have k3 := k2.trans (b3.mono k2.size)
       have HX3 := Lib.hid (HX2.out.keep b3)
       have HR3 := Lib.hid (HR2.out.keep b3 (Nat.le_refl _))
       have HC3 := Lib.hid (HC2.out.keep b3 (Nat.le_refl _))
       go_wp2_with fail
       go_ret; exact ⟨true, rfl, (fun h => by cases h), k3⟩)
set_option maxRecDepth 100000 in
set_option maxHeartbeats 2000000 in
theorem large_stmt3 (k : Int) (tb nm co se : ByteArray) (vk vn : Int) (vf : Nat) (vs : ByteArray) (wk wn : Int) (wf : Nat) (ws : ByteArray) (rA : Option Addr) (rc : Nat) (cA : Option Addr) (cc : Nat) (fl : Bool) (rl : List Val) (cl : List Col) (w : World) (hr : RdV w rA rl) (hc : RdC w cA cl) (e0 : decide (2000 < vs.size) = false) (e1 : decide (2000 < ws.size) = false) (e2 : largeR rl = false) (e3 : largeC cl = true) : Calls Try.prog 55 #[.agg #[.int .i64 k, .string tb, .string nm, .string co, .string se, .int .i64 vk, .int .i64 vn, .float .f64 vf, .string vs, .int .i64 wk, .int .i64 wn, .float .f64 wf, .string ws, .slice rA rl.length rc, .slice cA cl.length cc, .bool fl]] w (TestS w (rl.length ≤ 50 ∧ cl.length ≤ 50)) := by
  have hst := run_sf
  have b0 : Below w.heap.size w (w.alloc (.cells #[.int .i64 k, .string tb, .string nm, .string co, .string se, .int .i64 vk, .int .i64 vn, .float .f64 vf, .string vs, .int .i64 wk, .int .i64 wn, .float .f64 wf, .string ws, .slice rA rl.length rc, .slice cA cl.length cc, .bool fl] 45)) := (Below.refl _ _).alloc (Nat.le_refl _) _
  have hbox : BoxS (w.alloc (.cells #[.int .i64 k, .string tb, .string nm, .string co, .string se, .int .i64 vk, .int .i64 vn, .float .f64 vf, .string vs, .int .i64 wk, .int .i64 wn, .float .f64 wf, .string ws, .slice rA rl.length rc, .slice cA cl.length cc, .bool fl] 45)) w.heap.size wk wn wf ws rA rl.length rc cA cl.length cc := ⟨World.cell?_alloc_new _ _ _ _, World.cell?_alloc_new _ _ _ _, World.cell?_alloc_new _ _ _ _, World.cell?_alloc_new _ _ _ _, World.cell?_alloc_new _ _ _ _, World.cell?_alloc_new _ _ _ _⟩
  have HX0 := Lib.hid hbox
  have HR0 := Lib.hid (hr.keep b0 (Nat.le_refl _))
  have HC0 := Lib.hid (hc.keep b0 (Nat.le_refl _))
  have hp := 0
  have h1 := large_value vk vn vf vs
  rw [e0] at h1
  have h2 := large_value wk wn wf ws
  rw [e1] at h2
  have E2 := Lib.hid e2
  have E3 := Lib.hid e3
  clear hr hc hbox e0 e1 e2 e3
  go_enter Try.func55, Try.ntmps55
  go_wp2_with fail
  all_goals first
    | (go_ret; exact ⟨true, rfl, (fun h => by cases h), b0⟩)
    | (refine (h1 _).mono ?_
       rintro e w1 ⟨rfl, b1⟩
       have k1 := b0.trans (b1.mono b0.size)
       have HX1 := Lib.hid (HX0.out.keep b1)
       have HR1 := Lib.hid (HR0.out.keep b1 (Nat.le_refl _))
       have HC1 := Lib.hid (HC0.out.keep b1 (Nat.le_refl _))
       obtain ⟨f9, f10, f11, f12, f13, f14⟩ := HX1.out
       go_wp2_with fail
       refine (h2 _).mono ?_
       rintro e w2 ⟨rfl, b2⟩
       have k2 := k1.trans (b2.mono k1.size)
       have HX2 := Lib.hid (HX1.out.keep b2)
       have HR2 := Lib.hid (HR1.out.keep b2 (Nat.le_refl _))
       have HC2 := Lib.hid (HC1.out.keep b2 (Nat.le_refl _))
       clear f9 f10 f11 f12 f13 f14
       obtain ⟨f9, f10, f11, f12, f13, f14⟩ := HX2.out
       have h3 := large_row rA rc rl w2 HR2.out
       rw [E2.out] at h3
       go_wp2_with fail
       refine h3.mono ?_
       rintro e w3 ⟨rfl, b3⟩
       have k3 := k2.trans (b3.mono k2.size)
       have HX3 := Lib.hid (HX2.out.keep b3)
       have HR3 := Lib.hid (HR2.out.keep b3 (Nat.le_refl _))
       have HC3 := Lib.hid (HC2.out.keep b3 (Nat.le_refl _))
       clear f9 f10 f11 f12 f13 f14 h3
       obtain ⟨f9, f10, f11, f12, f13, f14⟩ := HX3.out
       have h4 := large_cols cA cc cl w3 HC3.out
       rw [E3.out] at h4
       go_wp2_with fail
       refine h4.mono ?_
       rintro e w4 ⟨rfl, b4⟩
       have k4 := k3.trans (b4.mono k3.size)
       have HX4 := Lib.hid (HX3.out.keep b4)
       have HR4 := Lib.hid (HR3.out.keep b4 (Nat.le_refl _))
       have HC4 := Lib.hid (HC3.out.keep b4 (Nat.le_refl _))
       go_wp2_with fail
       go_ret; exact ⟨true, rfl, (fun h => by cases h), k4⟩)
set_option maxRecDepth 100000 in
set_option maxHeartbeats 2000000 in
theorem large_stmt4 (k : Int) (tb nm co se : ByteArray) (vk vn : Int) (vf : Nat) (vs : ByteArray) (wk wn : Int) (wf : Nat) (ws : ByteArray) (rA : Option Addr) (rc : Nat) (cA : Option Addr) (cc : Nat) (fl : Bool) (rl : List Val) (cl : List Col) (w : World) (hr : RdV w rA rl) (hc : RdC w cA cl) (e0 : decide (2000 < vs.size) = false) (e1 : decide (2000 < ws.size) = false) (e2 : largeR rl = false) (e3 : largeC cl = false) : Calls Try.prog 55 #[.agg #[.int .i64 k, .string tb, .string nm, .string co, .string se, .int .i64 vk, .int .i64 vn, .float .f64 vf, .string vs, .int .i64 wk, .int .i64 wn, .float .f64 wf, .string ws, .slice rA rl.length rc, .slice cA cl.length cc, .bool fl]] w (TestS w (rl.length ≤ 50 ∧ cl.length ≤ 50)) := by
  have hst := run_sf
  have b0 : Below w.heap.size w (w.alloc (.cells #[.int .i64 k, .string tb, .string nm, .string co, .string se, .int .i64 vk, .int .i64 vn, .float .f64 vf, .string vs, .int .i64 wk, .int .i64 wn, .float .f64 wf, .string ws, .slice rA rl.length rc, .slice cA cl.length cc, .bool fl] 45)) := (Below.refl _ _).alloc (Nat.le_refl _) _
  have hbox : BoxS (w.alloc (.cells #[.int .i64 k, .string tb, .string nm, .string co, .string se, .int .i64 vk, .int .i64 vn, .float .f64 vf, .string vs, .int .i64 wk, .int .i64 wn, .float .f64 wf, .string ws, .slice rA rl.length rc, .slice cA cl.length cc, .bool fl] 45)) w.heap.size wk wn wf ws rA rl.length rc cA cl.length cc := ⟨World.cell?_alloc_new _ _ _ _, World.cell?_alloc_new _ _ _ _, World.cell?_alloc_new _ _ _ _, World.cell?_alloc_new _ _ _ _, World.cell?_alloc_new _ _ _ _, World.cell?_alloc_new _ _ _ _⟩
  have HX0 := Lib.hid hbox
  have HR0 := Lib.hid (hr.keep b0 (Nat.le_refl _))
  have HC0 := Lib.hid (hc.keep b0 (Nat.le_refl _))
  have hp : rl.length ≤ 50 ∧ cl.length ≤ 50 := ⟨largeR_len e2, largeC_len e3⟩
  have h1 := large_value vk vn vf vs
  rw [e0] at h1
  have h2 := large_value wk wn wf ws
  rw [e1] at h2
  have E2 := Lib.hid e2
  have E3 := Lib.hid e3
  clear hr hc hbox e0 e1 e2 e3
  go_enter Try.func55, Try.ntmps55
  go_wp2_with fail
  all_goals first
    | (go_ret; exact ⟨true, rfl, (fun h => by cases h), b0⟩)
    | (refine (h1 _).mono ?_
       rintro e w1 ⟨rfl, b1⟩
       have k1 := b0.trans (b1.mono b0.size)
       have HX1 := Lib.hid (HX0.out.keep b1)
       have HR1 := Lib.hid (HR0.out.keep b1 (Nat.le_refl _))
       have HC1 := Lib.hid (HC0.out.keep b1 (Nat.le_refl _))
       obtain ⟨f9, f10, f11, f12, f13, f14⟩ := HX1.out
       go_wp2_with fail
       refine (h2 _).mono ?_
       rintro e w2 ⟨rfl, b2⟩
       have k2 := k1.trans (b2.mono k1.size)
       have HX2 := Lib.hid (HX1.out.keep b2)
       have HR2 := Lib.hid (HR1.out.keep b2 (Nat.le_refl _))
       have HC2 := Lib.hid (HC1.out.keep b2 (Nat.le_refl _))
       clear f9 f10 f11 f12 f13 f14
       obtain ⟨f9, f10, f11, f12, f13, f14⟩ := HX2.out
       have h3 := large_row rA rc rl w2 HR2.out
       rw [E2.out] at h3
       go_wp2_with fail
       refine h3.mono ?_
       rintro e w3 ⟨rfl, b3⟩
       have k3 := k2.trans (b3.mono k2.size)
       have HX3 := Lib.hid (HX2.out.keep b3)
       have HR3 := Lib.hid (HR2.out.keep b3 (Nat.le_refl _))
       have HC3 := Lib.hid (HC2.out.keep b3 (Nat.le_refl _))
       clear f9 f10 f11 f12 f13 f14 h3
       obtain ⟨f9, f10, f11, f12, f13, f14⟩ := HX3.out
       have h4 := large_cols cA cc cl w3 HC3.out
       rw [E3.out] at h4
       go_wp2_with fail
       refine h4.mono ?_
       rintro e w4 ⟨rfl, b4⟩
       have k4 := k3.trans (b4.mono k3.size)
       have HX4 := Lib.hid (HX3.out.keep b4)
       have HR4 := Lib.hid (HR3.out.keep b4 (Nat.le_refl _))
       have HC4 := Lib.hid (HC3.out.keep b4 (Nat.le_refl _))
       go_wp2_with fail
       go_ret; exact ⟨false, rfl, (fun _ => hp), k4⟩)
theorem large_stmt (s : Stm) (rl : List Val) (cl : List Col) (w : World) (h : StmIn w s rl cl) : Calls Try.prog 55 #[sv s] w (TestS w (rl.length ≤ 50 ∧ cl.length ≤ 50)) := by
  obtain ⟨k, tb, nm, co, se, ⟨vk, vn, vf, vs⟩, ⟨wk, wn, wf, ws⟩, rA, rn, rc, cA, cn, cc, fl⟩ := s
  have hrn : rn = rl.length := h.rn
  have hcn : cn = cl.length := h.cn
  subst hrn hcn
  have hr : RdV w rA rl := h.rr
  have hc : RdC w cA cl := h.rc
  cases e0 : decide (2000 < vs.size) with
  | true => exact large_stmt0 k tb nm co se vk vn vf vs wk wn wf ws rA rc cA cc fl rl cl w hr hc e0
  | false =>
  cases e1 : decide (2000 < ws.size) with
  | true => exact large_stmt1 k tb nm co se vk vn vf vs wk wn wf ws rA rc cA cc fl rl cl w hr hc e0 e1
  | false =>
  cases e2 : largeR rl with
  | true => exact large_stmt2 k tb nm co se vk vn vf vs wk wn wf ws rA rc cA cc fl rl cl w hr hc e0 e1 e2
  | false =>
  cases e3 : largeC cl with
  | true => exact large_stmt3 k tb nm co se vk vn vf vs wk wn wf ws rA rc cA cc fl rl cl w hr hc e0 e1 e2 e3
  | false => exact large_stmt4 k tb nm co se vk vn vf vs wk wn wf ws rA rc cA cc fl rl cl w hr hc e0 e1 e2 e3
end Go.Proofs.Ytobdooojdadgpaa
