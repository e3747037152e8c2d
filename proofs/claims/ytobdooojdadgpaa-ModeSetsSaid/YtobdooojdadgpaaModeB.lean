/- The contracts of package mode's reference. -/
import Derived.Test.YtobdooojdadgpaaMode
import Derived.Test.YtobdooojdadgpaaWords
namespace Go.Proofs.Ytobdooojdadgpaa
open Go.RowKit

def lst (m : Int) : List Int :=
  if m = 1 then [8] else if m = 2 then [7, 8] else if m = 3 then [5, 6, 7, 8] else if m = 4 then [4, 5, 6, 7, 8] else if m = 5 then [3, 4, 6, 7, 8]
  else if m = 6 then [3, 4, 5, 6, 7, 8] else if m = 7 then [2, 3, 4, 5, 6, 7, 8] else if m = 8 then [1, 2, 3, 4, 5, 6, 7, 8] else []

def RB (l : List Int) (w : World) (e : Ending) (w' : World) : Prop :=
  ∃ A, e = .returned (.slice A l.length l.length) ∧ Rd w' A (l.map (.int .i64)) ∧ Below w.heap.size w w'

theorem rbars_no (m : Int) (w : World) (h : m < 1 ∨ 8 < m) : Calls Try.prog 52 #[.int .i64 m] w (RB [] w) := by
  have h1 : (m == 1) = false := by simp; omega
  have h2 : (m == 2) = false := by simp; omega
  have h3 : (m == 3) = false := by simp; omega
  have h4 : (m == 4) = false := by simp; omega
  have h5 : (m == 5) = false := by simp; omega
  have h6 : (m == 6) = false := by simp; omega
  have h7 : (m == 7) = false := by simp; omega
  have h8 : (m == 8) = false := by simp; omega
  clear h
  go_enter Try.func52, Try.ntmps52
  go_wp2
  go_ret
  exact ⟨none, rfl, Rd.nil _ _, Below.refl _ _⟩

theorem rbars_yes (m : Int) (w : World) (h1 : 1 ≤ m) (h2 : m ≤ 8) : Calls Try.prog 52 #[.int .i64 m] w (RB (lst m) w) := by
  have hm : m = 1 ∨ m = 2 ∨ m = 3 ∨ m = 4 ∨ m = 5 ∨ m = 6 ∨ m = 7 ∨ m = 8 := by omega
  rcases hm with rfl | rfl | rfl | rfl | rfl | rfl | rfl | rfl
  all_goals
    go_enter Try.func52, Try.ntmps52
    go_wp2
    go_ret
    exact ⟨some ⟨w.heap.size, 0, none⟩, rfl, Rd.new w _ _, (Below.refl _ _).alloc (Nat.le_refl _) _⟩

theorem lst_no (m : Int) (h : m < 1 ∨ 8 < m) : lst m = [] := by unfold lst; repeat (rw [if_neg (by omega)])

theorem rbars_any (m : Int) (w : World) : Calls Try.prog 52 #[.int .i64 m] w (RB (lst m) w) := by
  by_cases h : 1 ≤ m ∧ m ≤ 8
  · exact rbars_yes m w h.1 h.2
  · rw [lst_no m (by omega)]
    exact rbars_no m w (by omega)

theorem lst_le (m : Int) : (lst m).length ≤ 8 := by unfold lst; repeat' (first | (simp; done) | split)

theorem has_yes {l : List Int} {b : Int} {k : Nat} (hk : k < l.length) (h : l[k] = b) : Ending.returned (.bool true) = .returned (.bool (decide (b ∈ l))) := by
  have : decide (b ∈ l) = true := decide_eq_true (h ▸ List.getElem_mem hk)
  rw [this]
theorem has_no {l : List Int} {b : Int} (h : ∀ j (hj : j < l.length), l[j] ≠ b) : Ending.returned (.bool false) = .returned (.bool (decide (b ∈ l))) := by
  have : decide (b ∈ l) = false := decide_eq_false fun hm => by
    obtain ⟨j, hj, e⟩ := List.getElem_of_mem hm
    exact h j hj e
  rw [this]

theorem rBars_any (a b : Int) (w : World) : Calls Try.prog 15 #[.int .i64 a, .int .i64 b] w fun e w' => e = .returned (.bool (decide (b ∈ lst a))) ∧ Below w.heap.size w w' := by
  have hl := lst_le a
  have hc := Lib.hid (rbars_any a w)
  generalize lst a = l at *
  go_enter Try.func15, Try.ntmps15
  go_wp2_with (go_at_call 52; refine hc.out.mono ?_; rintro e w' ⟨A, rfl, hrd, hb⟩)
  go_loop [6] (fun i => ∃ k : Nat, k ≤ l.length ∧ i = .int .i64 k ∧ ∀ j (h : j < l.length), j < k → l[j] ≠ b) (fun i => l.length - (intOf i).toNat)
  case atStart => exact ⟨0, Nat.zero_le _, rfl, fun j _ h => absurd h (by omega)⟩
  case round =>
    obtain ⟨k, hk, rfl, hj⟩ := hrel
    have Hj := Lib.hid hj
    clear hj
    by_cases hlt : k < l.length
    · obtain ⟨ad, rfl, hc⟩ := hrd k (by simpa using hlt)
      simp only [List.getElem_map] at hc
      by_cases hx : l[k] = b
      · have hx' : (l[k] == b) = true := by simpa using hx
        have Hx := Lib.hid hx
        clear hx
        go_wp2
        go_ret
        exact ⟨has_yes hlt Hx.out, hb⟩
      · have hx' : (l[k] == b) = false := by simpa using hx
        have Hx := Lib.hid hx
        clear hx
        go_wp2
        go_round
        case rel => exact ⟨k + 1, by omega, by go_num, fun j h1 h2 => by
          by_cases e : j = k
          · subst e; exact Hx.out
          · exact Hj.out j h1 (by omega)⟩
        case measure => simp [intOf]; omega
    · go_wp2
      go_ret
      exact ⟨has_no fun j h => Hj.out j h (by omega), hb⟩

def sumBits (l : List Int) : Int := (l.map fun x => 2 ^ x.toNat).sum

theorem lst_rng (m : Int) : ∀ x ∈ lst m, 1 ≤ x ∧ x ≤ 8 := by
  unfold lst
  repeat' (first | (simp; done) | split)

theorem sumBits_take (l : List Int) (k : Nat) (h : k < l.length) : sumBits (l.take (k + 1)) = sumBits (l.take k) + 2 ^ l[k].toNat := by
  unfold sumBits
  rw [List.take_succ_eq_append_getElem h, List.map_append, List.sum_append]
  simp

theorem pow_le8 (x : Int) (h1 : 1 ≤ x) (h2 : x ≤ 8) : (0 : Int) ≤ 2 ^ x.toNat ∧ (2 : Int) ^ x.toNat ≤ 256 := by
  have hx : x = 1 ∨ x = 2 ∨ x = 3 ∨ x = 4 ∨ x = 5 ∨ x = 6 ∨ x = 7 ∨ x = 8 := by omega
  rcases hx with rfl | rfl | rfl | rfl | rfl | rfl | rfl | rfl <;> decide

theorem sumBits_le (l : List Int) (h : ∀ x ∈ l, 1 ≤ x ∧ x ≤ 8) : 0 ≤ sumBits l ∧ sumBits l ≤ 256 * l.length := by
  induction l with
  | nil => simp [sumBits]
  | cons a l ih =>
    have h1 := h a (by simp)
    have h2 := pow_le8 a h1.1 h1.2
    have h3 := ih fun x hx => h x (by simp [hx])
    unfold sumBits at h3 ⊢
    simp only [List.map_cons, List.sum_cons, List.length_cons]
    omega

theorem rWith_any (m : Int) (w : World) : Calls Try.prog 17 #[.int .i64 m] w fun e w' => e = .returned (.int .i64 (sumBits (lst m))) ∧ Below w.heap.size w w' := by
  have hl := lst_le m
  have hr := lst_rng m
  have hc := Lib.hid (rbars_any m w)
  generalize lst m = l at *
  go_enter Try.func17, Try.ntmps17
  go_wp2_with (go_at_call 52; refine hc.out.mono ?_; rintro e w' ⟨A, rfl, hrd, hb⟩)
  have Hr := Lib.hid hr
  clear hr
  go_loop [3, 5] (fun t i => ∃ k : Nat, k ≤ l.length ∧ i = .int .i64 k ∧ t = .int .i64 (sumBits (l.take k))) (fun _ i => l.length - (intOf i).toNat)
  case atStart => exact ⟨0, Nat.zero_le _, rfl, rfl⟩
  case round =>
    obtain ⟨k, hk, rfl, rfl⟩ := hrel
    by_cases hlt : k < l.length
    · obtain ⟨ad, rfl, hc⟩ := hrd k (by simpa using hlt)
      simp only [List.getElem_map] at hc
      obtain ⟨g1, g2⟩ := Hr.out l[k] (List.getElem_mem hlt)
      have g3 := pow_le8 _ g1 g2
      have g4 := sumBits_le (l.take k) fun x hx => Hr.out x (List.mem_of_mem_take hx)
      have g5 : (l.take k).length ≤ 8 := by simp; omega
      have Hs := Lib.hid (sumBits_take l k hlt)
      generalize hx : l[k] = x at *
      have Hx := Lib.hid hx
      clear hx
      go_wp2
      go_round
      case rel => exact ⟨k + 1, by omega, by go_num, by rw [Hs.out]⟩
      case measure => simp [intOf]; omega
    · go_wp2
      go_ret
      refine ⟨?_, hb⟩
      rw [List.take_of_length_le (by omega)]
      rfl
end Go.Proofs.Ytobdooojdadgpaa
