/- Contracts: the value that bytes begin with (of the program). -/
import Derived.Test.YtmgpecomgffelaaCodC
import Derived.Deep.MidRow
namespace Go.Proofs.Ytmgpecomgffelaa
open Go.RowKit
set_option linter.unusedVariables false
structure Bod where
  v : Val
  n : Nat
  o : Bool
def bod (k : Nat) (t : ByteArray) : Bod :=
  if k = 0 then ⟨⟨0, 0, 0, ⟨#[]⟩⟩, 0, true⟩
  else if k = 1 then if 1 ≤ t.size then ⟨⟨1, sAt t 0, 0, ⟨#[]⟩⟩, 1, true⟩ else ⟨⟨1, 0, 0, ⟨#[]⟩⟩, 0, false⟩
  else if k = 2 then if 8 ≤ t.size then ⟨⟨2, sg (numB t 0 8), 0, ⟨#[]⟩⟩, 8, true⟩ else ⟨⟨2, 0, 0, ⟨#[]⟩⟩, 0, false⟩
  else if k = 3 then if 8 ≤ t.size then ⟨⟨3, 0, fromF (numB t 0 8), ⟨#[]⟩⟩, 8, fromOK (numB t 0 8)⟩ else ⟨⟨3, 0, 0, ⟨#[]⟩⟩, 0, false⟩
  else if k = 4 then if 2 ≤ t.size ∧ 2 + numB t 0 2 ≤ t.size then ⟨⟨4, 0, 0, t.extract 2 (2 + numB t 0 2)⟩, 2 + numB t 0 2, true⟩ else ⟨⟨4, 0, 0, ⟨#[]⟩⟩, 0, false⟩
  else ⟨⟨k, 0, 0, ⟨#[]⟩⟩, 0, false⟩
theorem num_pre (t : ByteArray) (m : Nat) (hm : m ≤ 8) (h : m ≤ t.size) (w : World) : Calls Try.prog 138 #[.string (t.extract 0 m)] w fun e w' => e = .returned (.int .u64 (numB t 0 m : Nat)) ∧ w = w' := by
  have hz : (t.extract 0 m).size = m := by rw [size_extract _ _ _ h]; omega
  have := number_any (t.extract 0 m) (by omega) w
  rw [hz, numB_extract t 0 m 0 m h (by omega)] at this
  exact this

set_option maxRecDepth 100000 in
theorem body_0 (t : ByteArray)  (w : World) : Calls Try.prog 93 #[.int .i64 0, .string t] w fun e w' => e = .returned (.tuple #[vv 0 0 0 ⟨#[]⟩, .int .i64 0, .bool true]) ∧ Below w.heap.size w w' := by
  have hst := run_sf
  go_enter Try.func93, Try.ntmps93
  go_wp2_with fail
  all_goals first | (exfalso; omega) | exact bodyPost_ret (v := .tuple #[vv 0 0 0 ⟨#[]⟩, .int .i64 0, .bool true]) (by simp [results, Try.results93, go_sem]) rfl ⟨rfl, by first | exact (Below.refl _ _).alloc (Nat.le_refl _) _ | exact ((Below.refl _ _).alloc (Nat.le_refl _) _).setCell (Nat.le_refl _) _⟩

set_option maxRecDepth 100000 in
theorem body_1y (t : ByteArray) (h : 1 ≤ t.size) (w : World) : Calls Try.prog 93 #[.int .i64 1, .string t] w fun e w' => e = .returned (.tuple #[vv 1 (sAt t 0) 0 ⟨#[]⟩, .int .i64 1, .bool true]) ∧ Below w.heap.size w w' := by
  have hst := run_sf
  have t1 : decide ((0 : Int) < (t.size : Int)) = true := by rw [decide_eq_true]; omega
  have t2 : decide (0 < t.size) = true := by rw [decide_eq_true]; omega
  have hb := sAt_eq t 0 (by omega)
  have hl := sAt_lt t 0
  generalize sAt t 0 = c at *
  go_enter Try.func93, Try.ntmps93
  go_wp2_with fail
  all_goals first | (exfalso; omega) | exact bodyPost_ret (v := .tuple #[vv 1 c 0 ⟨#[]⟩, .int .i64 1, .bool true]) (by simp [results, Try.results93, go_sem]) rfl ⟨rfl, by first | exact (Below.refl _ _).alloc (Nat.le_refl _) _ | exact ((Below.refl _ _).alloc (Nat.le_refl _) _).setCell (Nat.le_refl _) _⟩

set_option maxRecDepth 100000 in
theorem body_1n (t : ByteArray) (h : t.size = 0) (w : World) : Calls Try.prog 93 #[.int .i64 1, .string t] w fun e w' => e = .returned (.tuple #[vv 1 0 0 ⟨#[]⟩, .int .i64 0, .bool false]) ∧ Below w.heap.size w w' := by
  have hst := run_sf
  have t1 : decide ((0 : Int) < (t.size : Int)) = false := by rw [decide_eq_false]; omega
  have t2 : decide (0 < t.size) = false := by rw [decide_eq_false]; omega
  clear h
  go_enter Try.func93, Try.ntmps93
  go_wp2_with fail
  all_goals first | (exfalso; omega) | exact bodyPost_ret (v := .tuple #[vv 1 0 0 ⟨#[]⟩, .int .i64 0, .bool false]) (by simp [results, Try.results93, go_sem]) rfl ⟨rfl, by first | exact (Below.refl _ _).alloc (Nat.le_refl _) _ | exact ((Below.refl _ _).alloc (Nat.le_refl _) _).setCell (Nat.le_refl _) _⟩

set_option maxRecDepth 100000 in
theorem body_2y (t : ByteArray) (h : 8 ≤ t.size) (w : World) : Calls Try.prog 93 #[.int .i64 2, .string t] w fun e w' => e = .returned (.tuple #[vv 2 (sg (numB t 0 8)) 0 ⟨#[]⟩, .int .i64 8, .bool true]) ∧ Below w.heap.size w w' := by
  have hst := run_sf
  have t1 : decide ((8 : Int) ≤ (t.size : Int)) = true := by rw [decide_eq_true]; omega
  have t2 : decide (8 ≤ t.size) = true := by rw [decide_eq_true]; omega
  have HN := Lib.hid (num_pre t 8 (by decide) h)
  have hs : IntKind.i64.wrap ((numB t 0 8 : Nat) : Int) = sg (numB t 0 8) := rfl
  generalize sg (numB t 0 8) = z at *
  generalize numB t 0 8 = u at *
  go_enter Try.func93, Try.ntmps93
  go_wp2_with fail
  refine (HN.out _).mono ?_
  rintro e w1 ⟨rfl, rfl⟩
  go_wp2_with fail
  all_goals first | (exfalso; omega) | exact bodyPost_ret (v := .tuple #[vv 2 z 0 ⟨#[]⟩, .int .i64 8, .bool true]) (by simp [results, Try.results93, go_sem]) rfl ⟨rfl, by first | exact (Below.refl _ _).alloc (Nat.le_refl _) _ | exact ((Below.refl _ _).alloc (Nat.le_refl _) _).setCell (Nat.le_refl _) _⟩

set_option maxRecDepth 100000 in
theorem body_2n (t : ByteArray) (h : t.size < 8) (w : World) : Calls Try.prog 93 #[.int .i64 2, .string t] w fun e w' => e = .returned (.tuple #[vv 2 0 0 ⟨#[]⟩, .int .i64 0, .bool false]) ∧ Below w.heap.size w w' := by
  have hst := run_sf
  have t1 : decide ((8 : Int) ≤ (t.size : Int)) = false := by rw [decide_eq_false]; omega
  have t2 : decide (8 ≤ t.size) = false := by rw [decide_eq_false]; omega
  clear h
  go_enter Try.func93, Try.ntmps93
  go_wp2_with fail
  all_goals first | (exfalso; omega) | exact bodyPost_ret (v := .tuple #[vv 2 0 0 ⟨#[]⟩, .int .i64 0, .bool false]) (by simp [results, Try.results93, go_sem]) rfl ⟨rfl, by first | exact (Below.refl _ _).alloc (Nat.le_refl _) _ | exact ((Below.refl _ _).alloc (Nat.le_refl _) _).setCell (Nat.le_refl _) _⟩

set_option maxRecDepth 100000 in
theorem body_3y (t : ByteArray) (h : 8 ≤ t.size) (w : World) : Calls Try.prog 93 #[.int .i64 3, .string t] w fun e w' => e = .returned (.tuple #[vv 3 0 (fromF (numB t 0 8)) ⟨#[]⟩, .int .i64 8, .bool (fromOK (numB t 0 8))]) ∧ Below w.heap.size w w' := by
  have hst := run_sf
  have t1 : decide ((8 : Int) ≤ (t.size : Int)) = true := by rw [decide_eq_true]; omega
  have t2 : decide (8 ≤ t.size) = true := by rw [decide_eq_true]; omega
  have HN := Lib.hid (num_pre t 8 (by decide) h)
  have HF := Lib.hid (from_any (numB t 0 8) (numB_lt t 0 8))
  generalize fromF (numB t 0 8) = z at *
  generalize fromOK (numB t 0 8) = ok at *
  generalize numB t 0 8 = u at *
  go_enter Try.func93, Try.ntmps93
  go_wp2_with fail
  refine (HN.out _).mono ?_
  rintro e w1 ⟨rfl, rfl⟩
  go_wp2_with fail
  refine (HF.out _).mono ?_
  rintro e w1 ⟨rfl, rfl⟩
  go_wp2_with fail
  all_goals first | (exfalso; omega) | exact bodyPost_ret (v := .tuple #[vv 3 0 z ⟨#[]⟩, .int .i64 8, .bool ok]) (by simp [results, Try.results93, go_sem]) rfl ⟨rfl, by first | exact (Below.refl _ _).alloc (Nat.le_refl _) _ | exact ((Below.refl _ _).alloc (Nat.le_refl _) _).setCell (Nat.le_refl _) _⟩

set_option maxRecDepth 100000 in
theorem body_3n (t : ByteArray) (h : t.size < 8) (w : World) : Calls Try.prog 93 #[.int .i64 3, .string t] w fun e w' => e = .returned (.tuple #[vv 3 0 0 ⟨#[]⟩, .int .i64 0, .bool false]) ∧ Below w.heap.size w w' := by
  have hst := run_sf
  have t1 : decide ((8 : Int) ≤ (t.size : Int)) = false := by rw [decide_eq_false]; omega
  have t2 : decide (8 ≤ t.size) = false := by rw [decide_eq_false]; omega
  clear h
  go_enter Try.func93, Try.ntmps93
  go_wp2_with fail
  all_goals first | (exfalso; omega) | exact bodyPost_ret (v := .tuple #[vv 3 0 0 ⟨#[]⟩, .int .i64 0, .bool false]) (by simp [results, Try.results93, go_sem]) rfl ⟨rfl, by first | exact (Below.refl _ _).alloc (Nat.le_refl _) _ | exact ((Below.refl _ _).alloc (Nat.le_refl _) _).setCell (Nat.le_refl _) _⟩

set_option maxRecDepth 100000 in
theorem body_4y (t : ByteArray) (hsz : t.size ≤ 1000000) (h : 2 ≤ t.size) (h2 : 2 + numB t 0 2 ≤ t.size) (w : World) : Calls Try.prog 93 #[.int .i64 4, .string t] w fun e w' => e = .returned (.tuple #[vv 4 0 0 (t.extract 2 (2 + numB t 0 2)), .int .i64 (2 + numB t 0 2 : Nat), .bool true]) ∧ Below w.heap.size w w' := by
  have hst := run_sf
  have t1 : decide ((2 : Int) ≤ (t.size : Int)) = true := by rw [decide_eq_true]; omega
  have t2 : decide (2 ≤ t.size) = true := by rw [decide_eq_true]; omega
  have HN := Lib.hid (num_pre t 2 (by decide) h)
  have hu := numB_lt t 0 2
  have hw : IntKind.i64.wrap ((numB t 0 2 : Nat) : Int) = ((numB t 0 2 : Nat) : Int) := by rw [IntKind.wrap_i64]; omega
  generalize numB t 0 2 = u at *
  have t3 : decide ((u : Int) ≤ (t.size : Int) - 2) = true := by rw [decide_eq_true]; omega
  have hz : ((2 : Int) + (u : Int)).toNat = 2 + u := by omega
  go_enter Try.func93, Try.ntmps93
  go_wp2_with fail
  refine (HN.out _).mono ?_
  rintro e w1 ⟨rfl, rfl⟩
  go_wp2_with fail
  all_goals first | (exfalso; omega) | exact bodyPost_ret (v := .tuple #[vv 4 0 0 (t.extract 2 (2 + u)), .int .i64 (2 + u : Nat), .bool true]) (by simp [results, Try.results93, go_sem]) rfl ⟨rfl, by first | exact (Below.refl _ _).alloc (Nat.le_refl _) _ | exact ((Below.refl _ _).alloc (Nat.le_refl _) _).setCell (Nat.le_refl _) _⟩

set_option maxRecDepth 100000 in
theorem body_4m (t : ByteArray) (hsz : t.size ≤ 1000000) (h : 2 ≤ t.size) (h2 : t.size < 2 + numB t 0 2) (w : World) : Calls Try.prog 93 #[.int .i64 4, .string t] w fun e w' => e = .returned (.tuple #[vv 4 0 0 ⟨#[]⟩, .int .i64 0, .bool false]) ∧ Below w.heap.size w w' := by
  have hst := run_sf
  have t1 : decide ((2 : Int) ≤ (t.size : Int)) = true := by rw [decide_eq_true]; omega
  have t2 : decide (2 ≤ t.size) = true := by rw [decide_eq_true]; omega
  have HN := Lib.hid (num_pre t 2 (by decide) h)
  have hu := numB_lt t 0 2
  have hw : IntKind.i64.wrap ((numB t 0 2 : Nat) : Int) = ((numB t 0 2 : Nat) : Int) := by rw [IntKind.wrap_i64]; omega
  generalize numB t 0 2 = u at *
  have t3 : decide ((u : Int) ≤ (t.size : Int) - 2) = false := by rw [decide_eq_false]; omega
  go_enter Try.func93, Try.ntmps93
  go_wp2_with fail
  refine (HN.out _).mono ?_
  rintro e w1 ⟨rfl, rfl⟩
  go_wp2_with fail
  all_goals first | (exfalso; omega) | exact bodyPost_ret (v := .tuple #[vv 4 0 0 ⟨#[]⟩, .int .i64 0, .bool false]) (by simp [results, Try.results93, go_sem]) rfl ⟨rfl, by first | exact (Below.refl _ _).alloc (Nat.le_refl _) _ | exact ((Below.refl _ _).alloc (Nat.le_refl _) _).setCell (Nat.le_refl _) _⟩

set_option maxRecDepth 100000 in
theorem body_4n (t : ByteArray) (h : t.size < 2) (w : World) : Calls Try.prog 93 #[.int .i64 4, .string t] w fun e w' => e = .returned (.tuple #[vv 4 0 0 ⟨#[]⟩, .int .i64 0, .bool false]) ∧ Below w.heap.size w w' := by
  have hst := run_sf
  have t1 : decide ((2 : Int) ≤ (t.size : Int)) = false := by rw [decide_eq_false]; omega
  have t2 : decide (2 ≤ t.size) = false := by rw [decide_eq_false]; omega
  clear h
  go_enter Try.func93, Try.ntmps93
  go_wp2_with fail
  all_goals first | (exfalso; omega) | exact bodyPost_ret (v := .tuple #[vv 4 0 0 ⟨#[]⟩, .int .i64 0, .bool false]) (by simp [results, Try.results93, go_sem]) rfl ⟨rfl, by first | exact (Below.refl _ _).alloc (Nat.le_refl _) _ | exact ((Below.refl _ _).alloc (Nat.le_refl _) _).setCell (Nat.le_refl _) _⟩

set_option maxRecDepth 100000 in
theorem body_else (t : ByteArray) (k : Nat) (h : 4 < k) (w : World) : Calls Try.prog 93 #[.int .i64 (k : Nat), .string t] w fun e w' => e = .returned (.tuple #[vv k 0 0 ⟨#[]⟩, .int .i64 0, .bool false]) ∧ Below w.heap.size w w' := by
  have hst := run_sf
  have e0 : ((k : Int) == 0) = false := by rw [beq_eq_false_iff_ne]; omega
  have e1 : ((k : Int) == 1) = false := by rw [beq_eq_false_iff_ne]; omega
  have e2 : ((k : Int) == 2) = false := by rw [beq_eq_false_iff_ne]; omega
  have e3 : ((k : Int) == 3) = false := by rw [beq_eq_false_iff_ne]; omega
  have e4 : ((k : Int) == 4) = false := by rw [beq_eq_false_iff_ne]; omega
  clear h
  go_enter Try.func93, Try.ntmps93
  go_wp2_with fail
  all_goals first | (exfalso; omega) | exact bodyPost_ret (v := .tuple #[vv k 0 0 ⟨#[]⟩, .int .i64 0, .bool false]) (by simp [results, Try.results93, go_sem]) rfl ⟨rfl, by first | exact (Below.refl _ _).alloc (Nat.le_refl _) _ | exact ((Below.refl _ _).alloc (Nat.le_refl _) _).setCell (Nat.le_refl _) _⟩

theorem body_any (k : Nat) (t : ByteArray) (hsz : t.size ≤ 1000000) (w : World) : Calls Try.prog 93 #[.int .i64 (k : Nat), .string t] w fun e w' => e = .returned (.tuple #[(bod k t).v.v, .int .i64 ((bod k t).n : Nat), .bool (bod k t).o]) ∧ Below w.heap.size w w' := by
  unfold bod
  by_cases h0 : k = 0
  · rw [if_pos h0]; subst h0; exact body_0 t w
  rw [if_neg h0]
  by_cases h1 : k = 1
  · rw [if_pos h1]; subst h1
    by_cases hs : 1 ≤ t.size
    · rw [if_pos hs]; exact body_1y t hs w
    · rw [if_neg hs]; exact body_1n t (by omega) w
  rw [if_neg h1]
  by_cases h2 : k = 2
  · rw [if_pos h2]; subst h2
    by_cases hs : 8 ≤ t.size
    · rw [if_pos hs]; exact body_2y t hs w
    · rw [if_neg hs]; exact body_2n t (by omega) w
  rw [if_neg h2]
  by_cases h3 : k = 3
  · rw [if_pos h3]; subst h3
    by_cases hs : 8 ≤ t.size
    · rw [if_pos hs]; exact body_3y t hs w
    · rw [if_neg hs]; exact body_3n t (by omega) w
  rw [if_neg h3]
  by_cases h4 : k = 4
  · rw [if_pos h4]; subst h4
    by_cases hs : 2 ≤ t.size
    · by_cases hu : 2 + numB t 0 2 ≤ t.size
      · rw [if_pos ⟨hs, hu⟩]; exact body_4y t hsz hs hu w
      · rw [if_neg (fun h => hu h.2)]; exact body_4m t hsz hs (by omega) w
    · rw [if_neg (fun h => hs h.1)]; exact body_4n t (by omega) w
  rw [if_neg h4]
  exact body_else t k (by omega) w
end Go.Proofs.Ytmgpecomgffelaa
