/- Contracts of package value: what is good. -/
import Derived.Test.YtmgpecomgffelaaFloatG
import Derived.Deep.DeepCutAuto
import Derived.Deep.CutBlock
import Derived.Deep.LoopGhost
import Derived.Deep.QuietTactic
import Derived.BigQuiet
import Derived.MapKept
namespace Go.Proofs.Ytmgpecomgffelaa
open Go.RowKit
set_option linter.unusedVariables false
structure Val where
  kind : Int
  n : Int
  f : Nat
  s : ByteArray
abbrev Val.v (v : Val) : Value := .agg #[.int .i64 v.kind, .int .i64 v.n, .float .f64 v.f, .string v.s]
theorem bare_any (v : Val) (n f s : Bool) (w : World) : Calls Try.prog 147 #[v.v, .bool n, .bool f, .bool s] w fun e w' => e = .returned (.bool ((n || v.n == 0) && (f || v.f == 0) && (s || v.s.toList.isEmpty))) ∧ Below w.heap.size w w' := by
  have hst := run_sf
  have hb := run_bits
  go_enter Try.func147, Try.ntmps147
  go_wp2_with fail
  all_goals (go_ret; refine ⟨?_, (Below.refl _ _).alloc (Nat.le_refl _) _⟩; simp_all)

/-! ### A map of functions in new memory -/
def ent (k : Int) (F c : Nat) : MapEntry := { key := .int .i64 k, val := .func (.func F) #[] #[], born := c }
theorem upd (w : World) (r : Nat) (hr : r = w.heap.size) (es : Array MapEntry) (c : Nat) (k : Int) (F : Nat) (hf : Instr.findNow (.int .i64) (.int .i64 k) es.toList 0 = some none) :
    (Instr.mapUpdate 145 (.map (some r)) (.int .i64 k) (.func (.func F) #[] #[])).run Try.prog (w.alloc (.map es c)) = .ok () (w.alloc (.map (es.push (ent k F c)) (c + 1))) := by
  subst hr
  have hb : (w.alloc (.map es c)).heap[w.heap.size]? = some (.map es c) := Array.getElem?_push_size
  have hc : (Instr.checkKey false 10000 3 (.int .i64 k)).run Try.prog (w.alloc (.map es c)) = .ok () (w.alloc (.map es c)) := MapKept.run_checkKey (k := .int .i64 k) Try.underlying3 (by simp [MapKept.IsKey]) false 9999
  have e : { w.alloc (.map es c) with heap := (w.alloc (.map es c)).heap.setIfInBounds w.heap.size (.map (es.push (ent k F c)) (c + 1)) } = w.alloc (.map (es.push (ent k F c)) (c + 1)) := by
    have hh : (w.heap.push (.map es c)).setIfInBounds w.heap.size (.map (es.push (ent k F c)) (c + 1)) = w.heap.push (.map (es.push (ent k F c)) (c + 1)) := by
      rw [← Array.toList_inj, Array.toList_setIfInBounds, Array.toList_push, Array.toList_push, ← Array.length_toList, List.set_append_right _ _ (Nat.le_refl _), Nat.sub_self]
      rfl
    exact congrArg (fun h => { w with heap := h }) hh
  have h2 : (setObj w.heap.size (.map (es.push { key := .int .i64 k, val := .func (.func F) #[] #[], born := c }) (c + 1))).run Try.prog (w.alloc (.map es c)) = .ok () (w.alloc (.map (es.push (ent k F c)) (c + 1))) := (MapKept.run_setObj_map _ hb).trans (congrArg (Result.ok ()) e)
  simp [Instr.mapUpdate, run_underlying Try.underlying145, MapKept.run_getObj_map hb, hc, MapKept.run_findKey Try.underlying3 hf, h2, Result.andThen]
abbrev goodMap : Array MapEntry := #[ent 0 133 0, ent 1 134 1, ent 2 135 2, ent 3 136 3, ent 4 137 4]
theorem look (w : World) (r : Nat) (hr : r = w.heap.size) (n : Int) (i F : Nat) (hf : Instr.findNow (.int .i64) (.int .i64 n) goodMap.toList 0 = some (some (i, .func (.func F) #[] #[]))) :
    (Instr.lookup 145 (.map (some r)) (.int .i64 n) false).run Try.prog (w.alloc (.map goodMap 5)) = .ok (.func (.func F) #[] #[]) (w.alloc (.map goodMap 5)) := by
  subst hr
  have hb : (w.alloc (.map goodMap 5)).heap[w.heap.size]? = some (.map goodMap 5) := Array.getElem?_push_size
  have hc : (Instr.checkKey false 10000 3 (.int .i64 n)).run Try.prog (w.alloc (.map goodMap 5)) = .ok () (w.alloc (.map goodMap 5)) := MapKept.run_checkKey (k := .int .i64 n) Try.underlying3 (by simp [MapKept.IsKey]) false 9999
  have he : goodMap.isEmpty = false := rfl
  simp [Instr.lookup, run_underlying Try.underlying145, MapKept.run_getObj_map hb, he, hc, MapKept.run_findKey Try.underlying3 hf, Result.andThen]

/-! ### methods -/
abbrev vv (k n : Int) (f : Nat) (s : ByteArray) : Value := .agg #[.int .i64 k, .int .i64 n, .float .f64 f, .string s]
abbrev emp (s : ByteArray) : Bool := s.toList.isEmpty
theorem bare3 (k n : Int) (f : Nat) (s : ByteArray) (a b c : Bool) (w : World) : Calls Try.prog 147 #[vv k n f s, .bool a, .bool b, .bool c] w fun e w' => e = .returned (.bool ((a || n == 0) && (b || f == 0) && (c || emp s))) ∧ Below w.heap.size w w' := bare_any ⟨k, n, f, s⟩ a b c w
theorem m_null (k n : Int) (f : Nat) (s : ByteArray) (w : World) : Calls Try.prog 133 #[vv k n f s] w fun e w' => e = .returned (.bool ((n == 0) && (f == 0) && emp s)) ∧ Below w.heap.size w w' := by
  have hst := run_sf
  have hb := bare3 k n f s false false false
  simp only [Bool.false_or] at hb
  generalize ((n == 0) && (f == 0) && emp s) = r at *
  go_enter Try.func133, Try.ntmps133
  go_wp2_with fail
  refine (hb _).mono ?_
  rintro e w1 ⟨rfl, h1⟩
  go_wp2_with fail
  go_ret
  exact ⟨rfl, below_trans ((Below.refl _ _).alloc (Nat.le_refl _) _) h1⟩
theorem m_int (k n : Int) (f : Nat) (s : ByteArray) (w : World) : Calls Try.prog 135 #[vv k n f s] w fun e w' => e = .returned (.bool ((f == 0) && emp s)) ∧ Below w.heap.size w w' := by
  have hst := run_sf
  have hb := bare3 k n f s true false false
  simp only [Bool.false_or, Bool.true_or, Bool.true_and] at hb
  generalize ((f == 0) && emp s) = r at *
  go_enter Try.func135, Try.ntmps135
  go_wp2_with fail
  refine (hb _).mono ?_
  rintro e w1 ⟨rfl, h1⟩
  go_wp2_with fail
  go_ret
  exact ⟨rfl, below_trans ((Below.refl _ _).alloc (Nat.le_refl _) _) h1⟩
theorem m_bool (k n : Int) (f : Nat) (s : ByteArray) (w : World) : Calls Try.prog 134 #[vv k n f s] w fun e w' => e = .returned (.bool (((f == 0) && emp s) && (n == 0 || n == 1))) ∧ Below w.heap.size w w' := by
  have hst := run_sf
  have hb := bare3 k n f s true false false
  simp only [Bool.false_or, Bool.true_or, Bool.true_and] at hb
  cases hr : ((f == 0) && emp s) with
  | false =>
    rw [hr] at hb
    clear hr
    go_enter Try.func134, Try.ntmps134
    go_wp2_with fail
    refine (hb _).mono ?_
    rintro e w1 ⟨rfl, h1⟩
    go_wp2_with fail
    go_ret
    exact ⟨rfl, below_trans ((Below.refl _ _).alloc (Nat.le_refl _) _) h1⟩
  | true =>
    rw [hr] at hb
    clear hr
    go_enter Try.func134, Try.ntmps134
    go_wp2_with fail
    refine (hb _).mono ?_
    rintro e w1 ⟨rfl, h1⟩
    have hbb := below_trans ((Below.refl w.heap.size w).alloc (Nat.le_refl _) _) h1
    have q0 : w1.cell? ⟨w.heap.size, 0, none⟩ = some (.int .i64 k) := (h1.cell (p := ⟨w.heap.size, 0, none⟩) (by simp)).trans (by rw [World.cell?_alloc_new]; rfl)
    have q1 : w1.cell? ⟨w.heap.size, 1, none⟩ = some (.int .i64 n) := (h1.cell (p := ⟨w.heap.size, 1, none⟩) (by simp)).trans (by rw [World.cell?_alloc_new]; rfl)
    have q2 : w1.cell? ⟨w.heap.size, 2, none⟩ = some (.float .f64 f) := (h1.cell (p := ⟨w.heap.size, 2, none⟩) (by simp)).trans (by rw [World.cell?_alloc_new]; rfl)
    have q3 : w1.cell? ⟨w.heap.size, 3, none⟩ = some (.string s) := (h1.cell (p := ⟨w.heap.size, 3, none⟩) (by simp)).trans (by rw [World.cell?_alloc_new]; rfl)
    clear h1
    go_wp2_with fail
    all_goals (go_ret; exact ⟨by simp_all, hbb⟩)
theorem m_float (k n : Int) (f : Nat) (s : ByteArray) (w : World) : Calls Try.prog 136 #[vv k n f s] w fun e w' => e = .returned (.bool (((n == 0) && emp s) && decide (f = canonF f))) ∧ Below w.heap.size w w' := by
  have hst := run_sf
  have hb := bare3 k n f s false true false
  simp only [Bool.false_or, Bool.true_or, Bool.and_true] at hb
  have hi := is_any f
  cases hr : ((n == 0) && emp s) with
  | false =>
    rw [hr] at hb
    clear hr
    go_enter Try.func136, Try.ntmps136
    go_wp2_with fail
    refine (hb _).mono ?_
    rintro e w1 ⟨rfl, h1⟩
    go_wp2_with fail
    go_ret
    exact ⟨rfl, below_trans ((Below.refl _ _).alloc (Nat.le_refl _) _) h1⟩
  | true =>
    rw [hr] at hb
    clear hr
    go_enter Try.func136, Try.ntmps136
    go_wp2_with fail
    refine (hb _).mono ?_
    rintro e w1 ⟨rfl, h1⟩
    have hbb := below_trans ((Below.refl w.heap.size w).alloc (Nat.le_refl _) _) h1
    have q0 : w1.cell? ⟨w.heap.size, 0, none⟩ = some (.int .i64 k) := (h1.cell (p := ⟨w.heap.size, 0, none⟩) (by simp)).trans (by rw [World.cell?_alloc_new]; rfl)
    have q1 : w1.cell? ⟨w.heap.size, 1, none⟩ = some (.int .i64 n) := (h1.cell (p := ⟨w.heap.size, 1, none⟩) (by simp)).trans (by rw [World.cell?_alloc_new]; rfl)
    have q2 : w1.cell? ⟨w.heap.size, 2, none⟩ = some (.float .f64 f) := (h1.cell (p := ⟨w.heap.size, 2, none⟩) (by simp)).trans (by rw [World.cell?_alloc_new]; rfl)
    have q3 : w1.cell? ⟨w.heap.size, 3, none⟩ = some (.string s) := (h1.cell (p := ⟨w.heap.size, 3, none⟩) (by simp)).trans (by rw [World.cell?_alloc_new]; rfl)
    clear h1
    go_wp2_with fail
    refine (hi _).mono ?_
    rintro e w2 ⟨rfl, rfl⟩
    go_wp2_with fail
    go_ret
    exact ⟨rfl, hbb⟩
theorem m_text (k n : Int) (f : Nat) (s : ByteArray) (w : World) : Calls Try.prog 137 #[vv k n f s] w fun e w' => e = .returned (.bool (((n == 0) && (f == 0)) && decide (s.size ≤ 256))) ∧ Below w.heap.size w w' := by
  have hst := run_sf
  have hb := bare3 k n f s false false true
  simp only [Bool.false_or, Bool.true_or, Bool.and_true] at hb
  cases hr : ((n == 0) && (f == 0)) with
  | false =>
    rw [hr] at hb
    clear hr
    go_enter Try.func137, Try.ntmps137
    go_wp2_with fail
    refine (hb _).mono ?_
    rintro e w1 ⟨rfl, h1⟩
    go_wp2_with fail
    go_ret
    exact ⟨rfl, below_trans ((Below.refl _ _).alloc (Nat.le_refl _) _) h1⟩
  | true =>
    rw [hr] at hb
    clear hr
    go_enter Try.func137, Try.ntmps137
    go_wp2_with fail
    refine (hb _).mono ?_
    rintro e w1 ⟨rfl, h1⟩
    have hbb := below_trans ((Below.refl w.heap.size w).alloc (Nat.le_refl _) _) h1
    have q0 : w1.cell? ⟨w.heap.size, 0, none⟩ = some (.int .i64 k) := (h1.cell (p := ⟨w.heap.size, 0, none⟩) (by simp)).trans (by rw [World.cell?_alloc_new]; rfl)
    have q1 : w1.cell? ⟨w.heap.size, 1, none⟩ = some (.int .i64 n) := (h1.cell (p := ⟨w.heap.size, 1, none⟩) (by simp)).trans (by rw [World.cell?_alloc_new]; rfl)
    have q2 : w1.cell? ⟨w.heap.size, 2, none⟩ = some (.float .f64 f) := (h1.cell (p := ⟨w.heap.size, 2, none⟩) (by simp)).trans (by rw [World.cell?_alloc_new]; rfl)
    have q3 : w1.cell? ⟨w.heap.size, 3, none⟩ = some (.string s) := (h1.cell (p := ⟨w.heap.size, 3, none⟩) (by simp)).trans (by rw [World.cell?_alloc_new]; rfl)
    clear h1
    go_wp2_with fail
    go_ret
    exact ⟨by simp_all; omega, hbb⟩

def goodV (k n : Int) (f : Nat) (s : ByteArray) : Bool :=
  if k = 0 then (n == 0) && (f == 0) && emp s
  else if k = 1 then (f == 0) && emp s && (n == 0 || n == 1)
  else if k = 2 then (f == 0) && emp s
  else if k = 3 then (n == 0) && emp s && decide (f = canonF f)
  else if k = 4 then (n == 0) && (f == 0) && decide (s.size ≤ 256)
  else false
theorem neq_func (F : Nat) (w : World) : (binOp .neq 143 (.func (.func F) #[] #[]) .nilFunc).run Try.prog w = .ok (.bool true) w := by kernel_rfl
theorem neq_nil (w : World) : (binOp .neq 143 .nilFunc .nilFunc).run Try.prog w = .ok (.bool false) w := by kernel_rfl
theorem look_no (w : World) (r : Nat) (hr : r = w.heap.size) (n : Int) (hf : Instr.findNow (.int .i64) (.int .i64 n) goodMap.toList 0 = some none) :
    (Instr.lookup 145 (.map (some r)) (.int .i64 n) false).run Try.prog (w.alloc (.map goodMap 5)) = .ok .nilFunc (w.alloc (.map goodMap 5)) := by
  subst hr
  have hb : (w.alloc (.map goodMap 5)).heap[w.heap.size]? = some (.map goodMap 5) := Array.getElem?_push_size
  have hc : (Instr.checkKey false 10000 3 (.int .i64 n)).run Try.prog (w.alloc (.map goodMap 5)) = .ok () (w.alloc (.map goodMap 5)) := MapKept.run_checkKey (k := .int .i64 n) Try.underlying3 (by simp [MapKept.IsKey]) false 9999
  have he : goodMap.isEmpty = false := rfl
  have hz : (zeroValue 143).run Try.prog (w.alloc (.map goodMap 5)) = .ok .nilFunc (w.alloc (.map goodMap 5)) := by kernel_rfl
  simp [Instr.lookup, run_underlying Try.underlying145, MapKept.run_getObj_map hb, he, hc, MapKept.run_findKey Try.underlying3 hf, Result.andThen, hz]

set_option maxRecDepth 100000 in
theorem good_0 (n : Int) (f : Nat) (s : ByteArray) (w : World) : Calls Try.prog 90 #[vv 0 n f s] w fun e w' => e = .returned (.bool (goodV 0 n f s)) ∧ Below w.heap.size w w' := by
  have hst := run_sf
  have hmm := @run_makeMap Try.prog
  obtain ⟨W, hW⟩ : ∃ W, W = w.alloc (.cells #[.int .i64 0, .int .i64 n, .float .f64 f, .string s] 24) := ⟨_, rfl⟩
  have hs : w.heap.size + 1 = W.heap.size := by rw [hW]; simp
  have u0 := upd W (w.heap.size + 1) hs #[] 0 0 133 rfl
  have u1 := upd W (w.heap.size + 1) hs #[ent 0 133 0] 1 1 134 rfl
  have u2 := upd W (w.heap.size + 1) hs #[ent 0 133 0, ent 1 134 1] 2 2 135 rfl
  have u3 := upd W (w.heap.size + 1) hs #[ent 0 133 0, ent 1 134 1, ent 2 135 2] 3 3 136 rfl
  have u4 := upd W (w.heap.size + 1) hs #[ent 0 133 0, ent 1 134 1, ent 2 135 2, ent 3 136 3] 4 4 137 rfl
  simp only [List.push_toArray, List.nil_append, List.cons_append, Nat.zero_add, Nat.reduceAdd] at u0 u1 u2 u3 u4
  have hb2 : Below w.heap.size w ((w.alloc (.cells #[.int .i64 0, .int .i64 n, .float .f64 f, .string s] 24)).alloc (.map goodMap 5)) := ((Below.refl _ _).alloc (Nat.le_refl _) _).alloc (by simp) _
  have l0 := look W (w.heap.size + 1) hs 0 0 133 rfl
  have hq := neq_func 133
  have hm := m_null 0 n f s
  have hg : goodV 0 n f s = _ := rfl
  have Hr : ∀ w, Calls Try.prog 133 #[vv 0 n f s] w fun e w' => e = .returned (.bool (goodV 0 n f s)) ∧ Below w.heap.size w w' := hm
  subst hW
  clear hs hm hg
  generalize goodV 0 n f s = r at *
  go_enter Try.func90, Try.ntmps90
  go_wp2_with fail
  refine (Hr _).mono ?_
  rintro e w1 ⟨rfl, h1⟩
  go_wp2_with fail
  go_ret
  exact ⟨rfl, below_trans hb2 h1⟩

set_option maxRecDepth 100000 in
theorem good_1 (n : Int) (f : Nat) (s : ByteArray) (w : World) : Calls Try.prog 90 #[vv 1 n f s] w fun e w' => e = .returned (.bool (goodV 1 n f s)) ∧ Below w.heap.size w w' := by
  have hst := run_sf
  have hmm := @run_makeMap Try.prog
  obtain ⟨W, hW⟩ : ∃ W, W = w.alloc (.cells #[.int .i64 1, .int .i64 n, .float .f64 f, .string s] 24) := ⟨_, rfl⟩
  have hs : w.heap.size + 1 = W.heap.size := by rw [hW]; simp
  have u0 := upd W (w.heap.size + 1) hs #[] 0 0 133 rfl
  have u1 := upd W (w.heap.size + 1) hs #[ent 0 133 0] 1 1 134 rfl
  have u2 := upd W (w.heap.size + 1) hs #[ent 0 133 0, ent 1 134 1] 2 2 135 rfl
  have u3 := upd W (w.heap.size + 1) hs #[ent 0 133 0, ent 1 134 1, ent 2 135 2] 3 3 136 rfl
  have u4 := upd W (w.heap.size + 1) hs #[ent 0 133 0, ent 1 134 1, ent 2 135 2, ent 3 136 3] 4 4 137 rfl
  simp only [List.push_toArray, List.nil_append, List.cons_append, Nat.zero_add, Nat.reduceAdd] at u0 u1 u2 u3 u4
  have hb2 : Below w.heap.size w ((w.alloc (.cells #[.int .i64 1, .int .i64 n, .float .f64 f, .string s] 24)).alloc (.map goodMap 5)) := ((Below.refl _ _).alloc (Nat.le_refl _) _).alloc (by simp) _
  have l0 := look W (w.heap.size + 1) hs 1 1 134 rfl
  have hq := neq_func 134
  have hm := m_bool 1 n f s
  have hg : goodV 1 n f s = _ := rfl
  have Hr : ∀ w, Calls Try.prog 134 #[vv 1 n f s] w fun e w' => e = .returned (.bool (goodV 1 n f s)) ∧ Below w.heap.size w w' := hm
  subst hW
  clear hs hm hg
  generalize goodV 1 n f s = r at *
  go_enter Try.func90, Try.ntmps90
  go_wp2_with fail
  refine (Hr _).mono ?_
  rintro e w1 ⟨rfl, h1⟩
  go_wp2_with fail
  go_ret
  exact ⟨rfl, below_trans hb2 h1⟩

set_option maxRecDepth 100000 in
theorem good_2 (n : Int) (f : Nat) (s : ByteArray) (w : World) : Calls Try.prog 90 #[vv 2 n f s] w fun e w' => e = .returned (.bool (goodV 2 n f s)) ∧ Below w.heap.size w w' := by
  have hst := run_sf
  have hmm := @run_makeMap Try.prog
  obtain ⟨W, hW⟩ : ∃ W, W = w.alloc (.cells #[.int .i64 2, .int .i64 n, .float .f64 f, .string s] 24) := ⟨_, rfl⟩
  have hs : w.heap.size + 1 = W.heap.size := by rw [hW]; simp
  have u0 := upd W (w.heap.size + 1) hs #[] 0 0 133 rfl
  have u1 := upd W (w.heap.size + 1) hs #[ent 0 133 0] 1 1 134 rfl
  have u2 := upd W (w.heap.size + 1) hs #[ent 0 133 0, ent 1 134 1] 2 2 135 rfl
  have u3 := upd W (w.heap.size + 1) hs #[ent 0 133 0, ent 1 134 1, ent 2 135 2] 3 3 136 rfl
  have u4 := upd W (w.heap.size + 1) hs #[ent 0 133 0, ent 1 134 1, ent 2 135 2, ent 3 136 3] 4 4 137 rfl
  simp only [List.push_toArray, List.nil_append, List.cons_append, Nat.zero_add, Nat.reduceAdd] at u0 u1 u2 u3 u4
  have hb2 : Below w.heap.size w ((w.alloc (.cells #[.int .i64 2, .int .i64 n, .float .f64 f, .string s] 24)).alloc (.map goodMap 5)) := ((Below.refl _ _).alloc (Nat.le_refl _) _).alloc (by simp) _
  have l0 := look W (w.heap.size + 1) hs 2 2 135 rfl
  have hq := neq_func 135
  have hm := m_int 2 n f s
  have hg : goodV 2 n f s = _ := rfl
  have Hr : ∀ w, Calls Try.prog 135 #[vv 2 n f s] w fun e w' => e = .returned (.bool (goodV 2 n f s)) ∧ Below w.heap.size w w' := hm
  subst hW
  clear hs hm hg
  generalize goodV 2 n f s = r at *
  go_enter Try.func90, Try.ntmps90
  go_wp2_with fail
  refine (Hr _).mono ?_
  rintro e w1 ⟨rfl, h1⟩
  go_wp2_with fail
  go_ret
  exact ⟨rfl, below_trans hb2 h1⟩

set_option maxRecDepth 100000 in
theorem good_3 (n : Int) (f : Nat) (s : ByteArray) (w : World) : Calls Try.prog 90 #[vv 3 n f s] w fun e w' => e = .returned (.bool (goodV 3 n f s)) ∧ Below w.heap.size w w' := by
  have hst := run_sf
  have hmm := @run_makeMap Try.prog
  obtain ⟨W, hW⟩ : ∃ W, W = w.alloc (.cells #[.int .i64 3, .int .i64 n, .float .f64 f, .string s] 24) := ⟨_, rfl⟩
  have hs : w.heap.size + 1 = W.heap.size := by rw [hW]; simp
  have u0 := upd W (w.heap.size + 1) hs #[] 0 0 133 rfl
  have u1 := upd W (w.heap.size + 1) hs #[ent 0 133 0] 1 1 134 rfl
  have u2 := upd W (w.heap.size + 1) hs #[ent 0 133 0, ent 1 134 1] 2 2 135 rfl
  have u3 := upd W (w.heap.size + 1) hs #[ent 0 133 0, ent 1 134 1, ent 2 135 2] 3 3 136 rfl
  have u4 := upd W (w.heap.size + 1) hs #[ent 0 133 0, ent 1 134 1, ent 2 135 2, ent 3 136 3] 4 4 137 rfl
  simp only [List.push_toArray, List.nil_append, List.cons_append, Nat.zero_add, Nat.reduceAdd] at u0 u1 u2 u3 u4
  have hb2 : Below w.heap.size w ((w.alloc (.cells #[.int .i64 3, .int .i64 n, .float .f64 f, .string s] 24)).alloc (.map goodMap 5)) := ((Below.refl _ _).alloc (Nat.le_refl _) _).alloc (by simp) _
  have l0 := look W (w.heap.size + 1) hs 3 3 136 rfl
  have hq := neq_func 136
  have hm := m_float 3 n f s
  have hg : goodV 3 n f s = _ := rfl
  have Hr : ∀ w, Calls Try.prog 136 #[vv 3 n f s] w fun e w' => e = .returned (.bool (goodV 3 n f s)) ∧ Below w.heap.size w w' := hm
  subst hW
  clear hs hm hg
  generalize goodV 3 n f s = r at *
  go_enter Try.func90, Try.ntmps90
  go_wp2_with fail
  refine (Hr _).mono ?_
  rintro e w1 ⟨rfl, h1⟩
  go_wp2_with fail
  go_ret
  exact ⟨rfl, below_trans hb2 h1⟩

set_option maxRecDepth 100000 in
theorem good_4 (n : Int) (f : Nat) (s : ByteArray) (w : World) : Calls Try.prog 90 #[vv 4 n f s] w fun e w' => e = .returned (.bool (goodV 4 n f s)) ∧ Below w.heap.size w w' := by
  have hst := run_sf
  have hmm := @run_makeMap Try.prog
  obtain ⟨W, hW⟩ : ∃ W, W = w.alloc (.cells #[.int .i64 4, .int .i64 n, .float .f64 f, .string s] 24) := ⟨_, rfl⟩
  have hs : w.heap.size + 1 = W.heap.size := by rw [hW]; simp
  have u0 := upd W (w.heap.size + 1) hs #[] 0 0 133 rfl
  have u1 := upd W (w.heap.size + 1) hs #[ent 0 133 0] 1 1 134 rfl
  have u2 := upd W (w.heap.size + 1) hs #[ent 0 133 0, ent 1 134 1] 2 2 135 rfl
  have u3 := upd W (w.heap.size + 1) hs #[ent 0 133 0, ent 1 134 1, ent 2 135 2] 3 3 136 rfl
  have u4 := upd W (w.heap.size + 1) hs #[ent 0 133 0, ent 1 134 1, ent 2 135 2, ent 3 136 3] 4 4 137 rfl
  simp only [List.push_toArray, List.nil_append, List.cons_append, Nat.zero_add, Nat.reduceAdd] at u0 u1 u2 u3 u4
  have hb2 : Below w.heap.size w ((w.alloc (.cells #[.int .i64 4, .int .i64 n, .float .f64 f, .string s] 24)).alloc (.map goodMap 5)) := ((Below.refl _ _).alloc (Nat.le_refl _) _).alloc (by simp) _
  have l0 := look W (w.heap.size + 1) hs 4 4 137 rfl
  have hq := neq_func 137
  have hm := m_text 4 n f s
  have hg : goodV 4 n f s = _ := rfl
  have Hr : ∀ w, Calls Try.prog 137 #[vv 4 n f s] w fun e w' => e = .returned (.bool (goodV 4 n f s)) ∧ Below w.heap.size w w' := hm
  subst hW
  clear hs hm hg
  generalize goodV 4 n f s = r at *
  go_enter Try.func90, Try.ntmps90
  go_wp2_with fail
  refine (Hr _).mono ?_
  rintro e w1 ⟨rfl, h1⟩
  go_wp2_with fail
  go_ret
  exact ⟨rfl, below_trans hb2 h1⟩

set_option maxRecDepth 100000 in
theorem good_no (k : Int) (hk : k < 0 ∨ 4 < k) (n : Int) (f : Nat) (s : ByteArray) (w : World) : Calls Try.prog 90 #[vv k n f s] w fun e w' => e = .returned (.bool (goodV k n f s)) ∧ Below w.heap.size w w' := by
  have hst := run_sf
  have hmm := @run_makeMap Try.prog
  obtain ⟨W, hW⟩ : ∃ W, W = w.alloc (.cells #[.int .i64 k, .int .i64 n, .float .f64 f, .string s] 24) := ⟨_, rfl⟩
  have hs : w.heap.size + 1 = W.heap.size := by rw [hW]; simp
  have u0 := upd W (w.heap.size + 1) hs #[] 0 0 133 rfl
  have u1 := upd W (w.heap.size + 1) hs #[ent 0 133 0] 1 1 134 rfl
  have u2 := upd W (w.heap.size + 1) hs #[ent 0 133 0, ent 1 134 1] 2 2 135 rfl
  have u3 := upd W (w.heap.size + 1) hs #[ent 0 133 0, ent 1 134 1, ent 2 135 2] 3 3 136 rfl
  have u4 := upd W (w.heap.size + 1) hs #[ent 0 133 0, ent 1 134 1, ent 2 135 2, ent 3 136 3] 4 4 137 rfl
  simp only [List.push_toArray, List.nil_append, List.cons_append, Nat.zero_add, Nat.reduceAdd] at u0 u1 u2 u3 u4
  have hb2 : Below w.heap.size w ((w.alloc (.cells #[.int .i64 k, .int .i64 n, .float .f64 f, .string s] 24)).alloc (.map goodMap 5)) := ((Below.refl _ _).alloc (Nat.le_refl _) _).alloc (by simp) _
  have hf : Instr.findNow (.int .i64) (.int .i64 k) goodMap.toList 0 = some none := by
    have e0 : (k == 0) = false := by rw [beq_eq_false_iff_ne]; omega
    have e1 : (k == 1) = false := by rw [beq_eq_false_iff_ne]; omega
    have e2 : (k == 2) = false := by rw [beq_eq_false_iff_ne]; omega
    have e3 : (k == 3) = false := by rw [beq_eq_false_iff_ne]; omega
    have e4 : (k == 4) = false := by rw [beq_eq_false_iff_ne]; omega
    simp [Instr.findNow, Instr.sameNow, ent, e0, e1, e2, e3, e4]
  have l0 := look_no W (w.heap.size + 1) hs k hf
  have hq := neq_nil
  have hr : goodV k n f s = false := by
    unfold goodV
    rw [if_neg (by omega), if_neg (by omega), if_neg (by omega), if_neg (by omega), if_neg (by omega)]
  subst hW
  rw [hr]
  clear hs hr hk hf
  go_enter Try.func90, Try.ntmps90
  go_wp2_with fail
  go_ret
  exact ⟨rfl, hb2⟩
theorem good_any (k n : Int) (f : Nat) (s : ByteArray) (w : World) : Calls Try.prog 90 #[vv k n f s] w fun e w' => e = .returned (.bool (goodV k n f s)) ∧ Below w.heap.size w w' := by
  by_cases h : 0 ≤ k ∧ k ≤ 4
  · rcases (by omega : k = 0 ∨ k = 1 ∨ k = 2 ∨ k = 3 ∨ k = 4) with rfl | rfl | rfl | rfl | rfl
    · exact good_0 n f s w
    · exact good_1 n f s w
    · exact good_2 n f s w
    · exact good_3 n f s w
    · exact good_4 n f s w
  · exact good_no k (by omega) n f s w
end Go.Proofs.Ytmgpecomgffelaa
