/- The last contracts of package mode and its reference. -/
import Derived.Test.YtobdooojdadgpaaModeC
namespace Go.Proofs.Ytobdooojdadgpaa
open Go.RowKit

theorem shl_any (b a : Int) (h1 : 1 ≤ b) (h2 : b ≤ 8) : anyM (wrap64 (2 ^ b.toNat)) a = decide (b ∈ lst a) := by
  rw [any_eq]
  by_cases h : 1 ≤ a ∧ a ≤ 8
  · have hb : b = 1 ∨ b = 2 ∨ b = 3 ∨ b = 4 ∨ b = 5 ∨ b = 6 ∨ b = 7 ∨ b = 8 := by omega
    have ha : a = 1 ∨ a = 2 ∨ a = 3 ∨ a = 4 ∨ a = 5 ∨ a = 6 ∨ a = 7 ∨ a = 8 := by omega
    rcases ha with rfl | rfl | rfl | rfl | rfl | rfl | rfl | rfl <;> rcases hb with rfl | rfl | rfl | rfl | rfl | rfl | rfl | rfl <;> decide +kernel
  · unfold rAnyM
    rw [lst_no a (by omega)]
    simp

theorem lst_has (a b : Int) (h : ¬ (1 ≤ b ∧ b ≤ 8)) : decide (b ∈ lst a) = false :=
  decide_eq_false fun hm => h (lst_rng a b hm)

theorem Bars_any (a b : Int) (w : World) : Calls Try.prog 14 #[.int .i64 a, .int .i64 b] w fun e w' => e = .returned (.bool (decide (b ∈ lst a))) ∧ Below w.heap.size w w' := by
  by_cases h : 1 ≤ b ∧ b ≤ 8
  · have hs := Lib.hid (shl_any b a h.1 h.2)
    obtain ⟨h1, h2⟩ := h
    go_enter Try.func14, Try.ntmps14
    go_wp2_with (first | (go_at_call 51; refine (is_yes _ _ h1 h2).mono ?_; rintro e w' ⟨rfl, rfl⟩) | (go_at_call 18; refine (any_any _ _ _).mono ?_; rintro e w' ⟨rfl, hb⟩))
    go_ret
    exact ⟨by rw [← hs.out]; rfl, hb⟩
  · have hs := Lib.hid (lst_has a b h)
    have h' : b < 1 ∨ 8 < b := by omega
    clear h
    go_enter Try.func14, Try.ntmps14
    go_wp2_with (go_at_call 51; refine (is_no _ _ h').mono ?_; rintro e w' ⟨rfl, rfl⟩)
    go_ret
    exact ⟨by rw [hs.out]; rfl, Below.refl _ _⟩

theorem rWith_any' (m : Int) (w : World) : Calls Try.prog 17 #[.int .i64 m] w fun e w' => e = .returned (.int .i64 (withM m)) ∧ Below w.heap.size w w' := by
  rw [with_eq]; exact rWith_any m w
theorem rAny_any' (s m : Int) (w : World) : Calls Try.prog 19 #[.int .i64 s, .int .i64 m] w fun e w' => e = .returned (.bool (anyM s m)) ∧ Below w.heap.size w w' := by
  rw [any_eq]; exact rAny_any s m w

def nameM (m : Int) : ByteArray :=
  if m = 1 then ⟨#[97, 99, 99, 101, 115, 115, 95, 115, 104, 97, 114, 101]⟩ else if m = 2 then ⟨#[114, 111, 119, 95, 115, 104, 97, 114, 101]⟩
  else if m = 3 then ⟨#[114, 111, 119, 95, 101, 120, 99, 108, 117, 115, 105, 118, 101]⟩ else if m = 4 then ⟨#[115, 104, 97, 114, 101, 95, 117, 112, 100, 97, 116, 101]⟩
  else if m = 5 then ⟨#[115, 104, 97, 114, 101]⟩ else if m = 6 then ⟨#[115, 104, 97, 114, 101, 95, 114, 111, 119]⟩
  else if m = 7 then ⟨#[101, 120, 99, 108, 117, 115, 105, 118, 101]⟩ else if m = 8 then ⟨#[97, 99, 99, 101, 115, 115, 95, 101, 120, 99, 108, 117, 115, 105, 118, 101]⟩ else ⟨#[]⟩

theorem nameM_no (m : Int) (h : m < 1 ∨ 8 < m) : nameM m = ⟨#[]⟩ := by unfold nameM; repeat (rw [if_neg (by omega)])

abbrev nameAt (m : Int) (v : ByteArray) : Prop := ∀ w : World, (Instr.index 84 (.agg #[.string ⟨#[]⟩, .string (nameM 1), .string (nameM 2), .string (nameM 3), .string (nameM 4), .string (nameM 5), .string (nameM 6), .string (nameM 7), .string (nameM 8)]) (.int .i64 m)).run Try.prog w = .ok (.string v) w
theorem name_at1 : nameAt 1 (nameM 1) := fun _ => by kernel_rfl
theorem name_at2 : nameAt 2 (nameM 2) := fun _ => by kernel_rfl
theorem name_at3 : nameAt 3 (nameM 3) := fun _ => by kernel_rfl
theorem name_at4 : nameAt 4 (nameM 4) := fun _ => by kernel_rfl
theorem name_at5 : nameAt 5 (nameM 5) := fun _ => by kernel_rfl
theorem name_at6 : nameAt 6 (nameM 6) := fun _ => by kernel_rfl
theorem name_at7 : nameAt 7 (nameM 7) := fun _ => by kernel_rfl
theorem name_at8 : nameAt 8 (nameM 8) := fun _ => by kernel_rfl
theorem name_at (m : Int) (h1 : 1 ≤ m) (h2 : m ≤ 8) : nameAt m (nameM m) := by
  have hm : m = 1 ∨ m = 2 ∨ m = 3 ∨ m = 4 ∨ m = 5 ∨ m = 6 ∨ m = 7 ∨ m = 8 := by omega
  rcases hm with rfl | rfl | rfl | rfl | rfl | rfl | rfl | rfl
  · exact name_at1
  · exact name_at2
  · exact name_at3
  · exact name_at4
  · exact name_at5
  · exact name_at6
  · exact name_at7
  · exact name_at8

theorem name_any (m : Int) (w : World) : Calls Try.prog 20 #[.int .i64 m] w fun e w' => e = .returned (.string (nameM m)) ∧ w = w' := by
  by_cases h : 1 ≤ m ∧ m ≤ 8
  · obtain ⟨h1, h2⟩ := h
    have hx := name_at m h1 h2
    unfold nameAt at hx
    have e1 : nameM 1 = ⟨#[97, 99, 99, 101, 115, 115, 95, 115, 104, 97, 114, 101]⟩ := rfl
    have e2 : nameM 2 = ⟨#[114, 111, 119, 95, 115, 104, 97, 114, 101]⟩ := rfl
    have e3 : nameM 3 = ⟨#[114, 111, 119, 95, 101, 120, 99, 108, 117, 115, 105, 118, 101]⟩ := rfl
    have e4 : nameM 4 = ⟨#[115, 104, 97, 114, 101, 95, 117, 112, 100, 97, 116, 101]⟩ := rfl
    have e5 : nameM 5 = ⟨#[115, 104, 97, 114, 101]⟩ := rfl
    have e6 : nameM 6 = ⟨#[115, 104, 97, 114, 101, 95, 114, 111, 119]⟩ := rfl
    have e7 : nameM 7 = ⟨#[101, 120, 99, 108, 117, 115, 105, 118, 101]⟩ := rfl
    have e8 : nameM 8 = ⟨#[97, 99, 99, 101, 115, 115, 95, 101, 120, 99, 108, 117, 115, 105, 118, 101]⟩ := rfl
    rw [e1, e2, e3, e4, e5, e6, e7, e8] at hx
    clear e1 e2 e3 e4 e5 e6 e7 e8
    go_enter Try.func20, Try.ntmps20
    go_wp2_with (go_at_call 51; refine (is_yes _ _ h1 h2).mono ?_; rintro e w' ⟨rfl, rfl⟩)
    go_ret
    exact ⟨rfl, rfl⟩
  · rw [nameM_no m (by omega)]
    have h' : m < 1 ∨ 8 < m := by omega
    clear h
    go_enter Try.func20, Try.ntmps20
    go_wp2_with (go_at_call 51; refine (is_no _ _ h').mono ?_; rintro e w' ⟨rfl, rfl⟩)
    go_ret
    exact ⟨rfl, rfl⟩

theorem rName_any (m : Int) (w : World) : Calls Try.prog 21 #[.int .i64 m] w fun e w' => e = .returned (.string (nameM m)) ∧ Below w.heap.size w w' := by
  by_cases h : 1 ≤ m ∧ m ≤ 8
  · have hm : m = 1 ∨ m = 2 ∨ m = 3 ∨ m = 4 ∨ m = 5 ∨ m = 6 ∨ m = 7 ∨ m = 8 := by omega
    rcases hm with rfl | rfl | rfl | rfl | rfl | rfl | rfl | rfl
    all_goals
      go_enter Try.func21, Try.ntmps21
      go_wp2
      go_ret
      exact ⟨rfl, (Below.refl _ _).alloc (Nat.le_refl _) _⟩
  · rw [nameM_no m (by omega)]
    by_cases h1 : m < 1
    · clear h
      go_enter Try.func21, Try.ntmps21
      go_wp2
      go_ret
      exact ⟨rfl, Below.refl _ _⟩
    · have h2 : decide (8 < m) = true := by simp; omega
      clear h
      go_enter Try.func21, Try.ntmps21
      go_wp2
      go_ret
      exact ⟨rfl, Below.refl _ _⟩

def ofM (k : Int) : Int :=
  if k = 7 ∨ k = 8 ∨ k = 9 then 1 else if k = 4 ∨ k = 5 ∨ k = 6 then 3 else if k = 17 then 4 else if k = 13 then 5
  else if k = 10 ∨ k = 11 ∨ k = 12 ∨ k = 14 ∨ k = 15 ∨ k = 16 then 8 else 0

theorem of_any (k : Int) (w : World) : Calls Try.prog 22 #[.int .i64 k] w fun e w' => e = .returned (.int .i64 (ofM k)) ∧ w = w' := by
  by_cases h : 4 ≤ k ∧ k ≤ 17
  · have hk : k = 4 ∨ k = 5 ∨ k = 6 ∨ k = 7 ∨ k = 8 ∨ k = 9 ∨ k = 10 ∨ k = 11 ∨ k = 12 ∨ k = 13 ∨ k = 14 ∨ k = 15 ∨ k = 16 ∨ k = 17 := by omega
    rcases hk with rfl | rfl | rfl | rfl | rfl | rfl | rfl | rfl | rfl | rfl | rfl | rfl | rfl | rfl
    all_goals
      go_enter Try.func22, Try.ntmps22
      go_wp2
      go_ret
      exact ⟨rfl, rfl⟩
  · have e : ofM k = 0 := by unfold ofM; repeat (rw [if_neg (by omega)])
    rw [e]
    have n4 : (k == 4) = false := by simp; omega
    have n5 : (k == 5) = false := by simp; omega
    have n6 : (k == 6) = false := by simp; omega
    have n7 : (k == 7) = false := by simp; omega
    have n8 : (k == 8) = false := by simp; omega
    have n9 : (k == 9) = false := by simp; omega
    have n10 : (k == 10) = false := by simp; omega
    have n11 : (k == 11) = false := by simp; omega
    have n12 : (k == 12) = false := by simp; omega
    have n13 : (k == 13) = false := by simp; omega
    have n14 : (k == 14) = false := by simp; omega
    have n15 : (k == 15) = false := by simp; omega
    have n16 : (k == 16) = false := by simp; omega
    have n17 : (k == 17) = false := by simp; omega
    clear h e
    go_enter Try.func22, Try.ntmps22
    go_wp2
    go_ret
    exact ⟨rfl, rfl⟩
theorem rOf_any (k : Int) (w : World) : Calls Try.prog 23 #[.int .i64 k] w fun e w' => e = .returned (.int .i64 (ofM k)) ∧ w = w' := by
  by_cases h : 4 ≤ k ∧ k ≤ 17
  · have hk : k = 4 ∨ k = 5 ∨ k = 6 ∨ k = 7 ∨ k = 8 ∨ k = 9 ∨ k = 10 ∨ k = 11 ∨ k = 12 ∨ k = 13 ∨ k = 14 ∨ k = 15 ∨ k = 16 ∨ k = 17 := by omega
    rcases hk with rfl | rfl | rfl | rfl | rfl | rfl | rfl | rfl | rfl | rfl | rfl | rfl | rfl | rfl
    all_goals
      go_enter Try.func23, Try.ntmps23
      go_wp2
      go_ret
      exact ⟨rfl, rfl⟩
  · have e : ofM k = 0 := by unfold ofM; repeat (rw [if_neg (by omega)])
    rw [e]
    have n4 : (k == 4) = false := by simp; omega
    have n5 : (k == 5) = false := by simp; omega
    have n6 : (k == 6) = false := by simp; omega
    have n7 : (k == 7) = false := by simp; omega
    have n8 : (k == 8) = false := by simp; omega
    have n9 : (k == 9) = false := by simp; omega
    have n10 : (k == 10) = false := by simp; omega
    have n11 : (k == 11) = false := by simp; omega
    have n12 : (k == 12) = false := by simp; omega
    have n13 : (k == 13) = false := by simp; omega
    have n14 : (k == 14) = false := by simp; omega
    have n15 : (k == 15) = false := by simp; omega
    have n16 : (k == 16) = false := by simp; omega
    have n17 : (k == 17) = false := by simp; omega
    clear h e
    go_enter Try.func23, Try.ntmps23
    go_wp2
    go_ret
    exact ⟨rfl, rfl⟩
end Go.Proofs.Ytobdooojdadgpaa
