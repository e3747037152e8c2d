/- Contracts: the order of values, of the program and of the reference. -/
import Derived.Test.YtmgpecomgffelaaCodI
import Derived.Lib.Bytealg
import Derived.Lib.Strings
import Derived.Lib.Slices
import Derived.Lib.Walk
namespace Go.Proofs.Ytmgpecomgffelaa
open Go.RowKit
set_option linter.unusedVariables false
abbrev ltS (a b : ByteArray) : Bool := Op.bytesLess a.toList b.toList
theorem less_cmp : ∀ (a b : List UInt8), Op.bytesLess a b = decide (Lib.compareBytes a b < 0)
  | [], [] => rfl
  | a :: x, [] => by simp [Op.bytesLess, Lib.compareBytes]
  | [], b :: y => rfl
  | a :: x, b :: y => by
    unfold Op.bytesLess Lib.compareBytes
    rw [less_cmp x y]
    by_cases h1 : a < b
    · simp [h1]
    · by_cases h2 : b < a
      · have h3 : ¬ a = b := fun e => by subst e; exact h1 h2
        simp [h1, h2, h3]
      · have h3 : a = b := by
          have h1' : ¬ a.toNat < b.toNat := h1
          have h2' : ¬ b.toNat < a.toNat := h2
          exact UInt8.toNat_inj.1 (by omega)
        subst h3
        simp [h1]
theorem cb_neg : ∀ (a b : List UInt8), Lib.compareBytes b a = - Lib.compareBytes a b
  | [], [] => rfl
  | a :: x, [] => rfl
  | [], b :: y => rfl
  | a :: x, b :: y => by
    unfold Lib.compareBytes
    rw [cb_neg x y]
    by_cases h1 : a < b
    · have h2 : ¬ b < a := fun h => UInt8.lt_irrefl a (UInt8.lt_trans h1 h)
      simp [h1, h2]
    · by_cases h2 : b < a
      · simp [h1, h2]
      · simp [h1, h2]
theorem cb_three : ∀ (a b : List UInt8), Lib.compareBytes a b = -1 ∨ Lib.compareBytes a b = 0 ∨ Lib.compareBytes a b = 1
  | [], [] => Or.inr (Or.inl rfl)
  | a :: x, [] => Or.inr (Or.inr rfl)
  | [], b :: y => Or.inl rfl
  | a :: x, b :: y => by
    unfold Lib.compareBytes
    by_cases h1 : a < b
    · rw [if_pos h1]; exact Or.inl rfl
    · rw [if_neg h1]
      by_cases h2 : b < a
      · rw [if_pos h2]; exact Or.inr (Or.inr rfl)
      · rw [if_neg h2]; exact cb_three x y
def cmpS (a b : ByteArray) : Int := if ltS a b then -1 else if ltS b a then 1 else 0
theorem cmpS_eq (a b : ByteArray) : Lib.compareBytes a.data.toList b.data.toList = cmpS a b := by
  have h1 : ltS a b = decide (Lib.compareBytes a.data.toList b.data.toList < 0) := by
    unfold ltS
    rw [ByteArray.toList_eq, ByteArray.toList_eq]
    exact less_cmp _ _
  have h2 : ltS b a = decide (Lib.compareBytes b.data.toList a.data.toList < 0) := by
    unfold ltS
    rw [ByteArray.toList_eq, ByteArray.toList_eq]
    exact less_cmp _ _
  rw [cb_neg] at h2
  unfold cmpS
  rw [h1, h2]
  rcases cb_three a.data.toList b.data.toList with h | h | h <;> rw [h] <;> rfl
set_option maxRecDepth 100000 in
theorem cmpstr (a b : ByteArray) (w : World) :
    Calls Try.prog 153 #[.string a, .string b] w fun e w' => e = .returned (.int .i64 (cmpS a b)) ∧ w = w' := by
  rw [← cmpS_eq]
  go_enter Try.func153, Try.ntmps153
  go_wp2
  rw [run_callFunc_extern Try.func155 (by kernel_rfl) (by kernel_rfl) (by kernel_rfl) (e := Extern.BytealgCompare.compare) (by kernel_rfl), Lib.run_compareString]
  simp only [Result.andThen]
  rw [Oper.upon_value]
  go_wp2
  go_ret
  exact ⟨rfl, rfl⟩
theorem strcmp_any (a b : ByteArray) (w : World) :
    Calls Try.prog 146 #[.string a, .string b] w fun e w' => e = .returned (.int .i64 (cmpS a b)) ∧ w = w' := by
  go_enter Try.func146, Try.ntmps146
  go_wp2_with (go_at_call 153; refine (cmpstr _ _ _).mono ?_; rintro e w' ⟨rfl, rfl⟩)
  go_ret
  exact ⟨rfl, rfl⟩
theorem isnan_i (n : Int) (w : World) : Calls Try.prog 151 #[.int .i64 n] w fun e w' => e = .returned (.bool false) ∧ w = w' := by
  have h1 : (n == n) = true := beq_self_eq_true n
  go_enter Try.func151, Try.ntmps151
  go_wp2_with fail
  go_ret
  exact ⟨rfl, rfl⟩
theorem isnan_l (n : Int) (w : World) : Calls Try.prog 152 #[.int .i64 n] w fun e w' => e = .returned (.bool false) ∧ w = w' := by
  have h1 : (n == n) = true := beq_self_eq_true n
  go_enter Try.func152, Try.ntmps152
  go_wp2_with fail
  go_ret
  exact ⟨rfl, rfl⟩
def cmpI (a b : Int) : Int := if a < b then -1 else if b < a then 1 else 0
theorem cmpi0 (a b : Int) (h : a < b) (w : World) : Calls Try.prog 144 #[.int .i64 a, .int .i64 b] w fun e w' => e = .returned (.int .i64 (-1)) ∧ w = w' := by
  have t1 : decide (a < b) = true := decide_eq_true h
  clear h
  go_enter Try.func144, Try.ntmps144
  go_wp2_with fail
  refine (isnan_i _ _).mono ?_
  rintro e w1 ⟨rfl, rfl⟩
  go_wp2_with fail
  refine (isnan_i _ _).mono ?_
  rintro e w1 ⟨rfl, rfl⟩
  go_wp2_with fail
  go_ret
  exact ⟨rfl, rfl⟩
theorem cmpi1 (a b : Int) (h : b < a) (w : World) : Calls Try.prog 144 #[.int .i64 a, .int .i64 b] w fun e w' => e = .returned (.int .i64 (1)) ∧ w = w' := by
  have t1 : decide (a < b) = false := by rw [decide_eq_false]; omega
  have t2 : decide (b < a) = true := decide_eq_true h
  clear h
  go_enter Try.func144, Try.ntmps144
  go_wp2_with fail
  refine (isnan_i _ _).mono ?_
  rintro e w1 ⟨rfl, rfl⟩
  go_wp2_with fail
  refine (isnan_i _ _).mono ?_
  rintro e w1 ⟨rfl, rfl⟩
  go_wp2_with fail
  go_ret
  exact ⟨rfl, rfl⟩
theorem cmpi2 (a b : Int) (h : a = b) (w : World) : Calls Try.prog 144 #[.int .i64 a, .int .i64 b] w fun e w' => e = .returned (.int .i64 (0)) ∧ w = w' := by
  have t1 : decide (a < b) = false := by rw [decide_eq_false]; omega
  have t2 : decide (b < a) = false := by rw [decide_eq_false]; omega
  clear h
  go_enter Try.func144, Try.ntmps144
  go_wp2_with fail
  refine (isnan_i _ _).mono ?_
  rintro e w1 ⟨rfl, rfl⟩
  go_wp2_with fail
  refine (isnan_i _ _).mono ?_
  rintro e w1 ⟨rfl, rfl⟩
  go_wp2_with fail
  go_ret
  exact ⟨rfl, rfl⟩
theorem cmpi_any (a b : Int) (w : World) : Calls Try.prog 144 #[.int .i64 a, .int .i64 b] w fun e w' => e = .returned (.int .i64 (cmpI a b)) ∧ w = w' := by
  unfold cmpI
  by_cases h1 : a < b
  · rw [if_pos h1]; exact cmpi0 a b h1 w
  · rw [if_neg h1]
    by_cases h2 : b < a
    · rw [if_pos h2]; exact cmpi1 a b h2 w
    · rw [if_neg h2]; exact cmpi2 a b (by omega) w
theorem cmpl0 (a b : Int) (h : a < b) (w : World) : Calls Try.prog 145 #[.int .i64 a, .int .i64 b] w fun e w' => e = .returned (.int .i64 (-1)) ∧ w = w' := by
  have t1 : decide (a < b) = true := decide_eq_true h
  clear h
  go_enter Try.func145, Try.ntmps145
  go_wp2_with fail
  refine (isnan_l _ _).mono ?_
  rintro e w1 ⟨rfl, rfl⟩
  go_wp2_with fail
  refine (isnan_l _ _).mono ?_
  rintro e w1 ⟨rfl, rfl⟩
  go_wp2_with fail
  go_ret
  exact ⟨rfl, rfl⟩
theorem cmpl1 (a b : Int) (h : b < a) (w : World) : Calls Try.prog 145 #[.int .i64 a, .int .i64 b] w fun e w' => e = .returned (.int .i64 (1)) ∧ w = w' := by
  have t1 : decide (a < b) = false := by rw [decide_eq_false]; omega
  have t2 : decide (b < a) = true := decide_eq_true h
  clear h
  go_enter Try.func145, Try.ntmps145
  go_wp2_with fail
  refine (isnan_l _ _).mono ?_
  rintro e w1 ⟨rfl, rfl⟩
  go_wp2_with fail
  refine (isnan_l _ _).mono ?_
  rintro e w1 ⟨rfl, rfl⟩
  go_wp2_with fail
  go_ret
  exact ⟨rfl, rfl⟩
theorem cmpl2 (a b : Int) (h : a = b) (w : World) : Calls Try.prog 145 #[.int .i64 a, .int .i64 b] w fun e w' => e = .returned (.int .i64 (0)) ∧ w = w' := by
  have t1 : decide (a < b) = false := by rw [decide_eq_false]; omega
  have t2 : decide (b < a) = false := by rw [decide_eq_false]; omega
  clear h
  go_enter Try.func145, Try.ntmps145
  go_wp2_with fail
  refine (isnan_l _ _).mono ?_
  rintro e w1 ⟨rfl, rfl⟩
  go_wp2_with fail
  refine (isnan_l _ _).mono ?_
  rintro e w1 ⟨rfl, rfl⟩
  go_wp2_with fail
  go_ret
  exact ⟨rfl, rfl⟩
theorem cmpl_any (a b : Int) (w : World) : Calls Try.prog 145 #[.int .i64 a, .int .i64 b] w fun e w' => e = .returned (.int .i64 (cmpI a b)) ∧ w = w' := by
  unfold cmpI
  by_cases h1 : a < b
  · rw [if_pos h1]; exact cmpl0 a b h1 w
  · rw [if_neg h1]
    by_cases h2 : b < a
    · rw [if_pos h2]; exact cmpl1 a b h2 w
    · rw [if_neg h2]; exact cmpl2 a b (by omega) w

/-- The first one that is not zero. -/
def orL : List Int → Int
  | [] => 0
  | z :: l => if z = 0 then orL l else z
theorem orL_zero (l : List Int) (k : Nat) (hk : k < l.length) (h : orL (l.take k) = 0) (ha : ∀ j (hj : j < k), l[j]'(by omega) = 0) (hz : l[k] ≠ 0) : orL l = l[k] := by
  induction l generalizing k with
  | nil => exact absurd hk (by simp)
  | cons z l ih =>
    cases k with
    | zero => exact if_neg hz
    | succ k =>
      have h0 : z = 0 := ha 0 (by omega)
      unfold orL
      rw [if_pos h0]
      refine ih k (by simpa using hk) ?_ (fun j hj => ha (j + 1) (by omega)) hz
      have : orL ((z :: l).take (k + 1)) = orL (l.take k) := by
        rw [List.take_succ_cons]
        exact if_pos h0
      rw [← this]
      exact h
theorem orL_all (l : List Int) (h : ∀ j (hj : j < l.length), l[j] = 0) : orL l = 0 := by
  induction l with
  | nil => rfl
  | cons z l ih =>
    have h0 : z = 0 := h 0 (by simp)
    unfold orL
    rw [if_pos h0]
    exact ih fun j hj => h (j + 1) (by simpa using hj)
abbrev il (l : List Int) : List Value := l.map (.int .i64)
set_option maxRecDepth 100000 in
theorem or_any (A : Option Addr) (c : Nat) (l : List Int) (w : World) (h : Rd w A (il l)) (hl : l.length ≤ 1000) : Calls Try.prog 143 #[.slice A l.length c] w fun e w' => e = .returned (.int .i64 (orL l)) ∧ w = w' := by
  have H := Lib.hid h
  clear h
  go_enter Try.func143, Try.ntmps143
  go_wp2_with fail
  go_loop [8] (fun i => ∃ k : Nat, k ≤ l.length ∧ i = .int .i64 k ∧ (∀ j (hj : j < k) (hj' : j < l.length), l[j] = 0)) (fun i => l.length - (intOf i).toNat)
  case atStart => exact ⟨0, by omega, rfl, fun j hj => absurd hj (by omega)⟩
  case round =>
    obtain ⟨k, hk, rfl, ha⟩ := hrel
    by_cases hlt : k < l.length
    · obtain ⟨ad, rfl, hc⟩ := H.out k (by simpa using hlt)
      rw [List.getElem_map] at hc
      have Ha := Lib.hid ha
      clear ha
      by_cases hz : l[k] = 0
      · have Hz := Lib.hid hz
        rw [hz] at hc
        clear hz
        go_wp2_with fail
        refine ⟨⟨k + 1, by omega, by go_num, fun j hj hj' => ?_⟩, by simp [intOf]; omega⟩
        rcases Nat.lt_or_ge j k with h1 | h1
        · exact Ha.out j h1 hj'
        · obtain rfl : j = k := by omega
          exact Hz.out
      · have Hr := Lib.hid (show orL l = l[k] from orL_zero l k hlt (orL_all _ fun j hj => by rw [List.getElem_take]; exact Ha.out j (by rw [List.length_take] at hj; omega) _) (fun j hj => Ha.out j hj _) hz)
        have t1 : (l[k] == 0) = false := by rw [beq_eq_false_iff_ne]; exact hz
        have t2 : (l[k] != 0) = true := by rw [bne, t1]; rfl
        clear hz
        generalize l[k] = z at *
        go_wp2_with fail
        go_ret
        exact ⟨by rw [Hr.out]; rfl, rfl⟩
    · obtain rfl : k = l.length := by omega
      have Hr := Lib.hid (show orL l = 0 from orL_all l fun j hj => ha j hj hj)
      clear ha
      go_wp2_with fail
      go_ret
      exact ⟨by rw [Hr.out]; rfl, rfl⟩
/-- The order of two values. -/
def cmpV (a b : Val) : Int := orL [cmpI a.kind b.kind, cmpI a.n b.n, cmpF a.f b.f, cmpS a.s b.s]
section
variable {w : World} {o : Oper} {a : Act} {K : Act → World → Prop} {Q : Exit → Act → World → Prop}
theorem wp_build154 (x y z u : Operand) (ho : o.op = .buildSlice 154 4 #[(0, x), (1, y), (2, z), (3, u)]) (i j k l : Int) (hx : a.eval x = .int .i64 i) (hy : a.eval y = .int .i64 j) (hz : a.eval z = .int .i64 k) (hu : a.eval u = .int .i64 l)
    (h : ∀ w' b, Rd w' (some b) (il [i, j, k, l]) → Below w.heap.size w w' → K (a.put o.dst (.slice (some b) 4 4)) w') : o.wp Try.prog a w K Q := by
  have hg : ∀ ρ : Operand → Value, ρ x = .int .i64 i → ρ y = .int .i64 j → ρ z = .int .i64 k → ρ u = .int .i64 l → (execOp ρ o).run Try.prog w = .ok (.value (.slice (some ⟨w.heap.size, 0, none⟩) 4 4)) (w.alloc (.cells #[.int .i64 i, .int .i64 j, .int .i64 k, .int .i64 l] 3)) := by
    intro ρ e1 e2 e3 e4
    unfold execOp
    rw [ho]
    simp only [List.map_toArray, List.map_cons, List.map_nil, e1, e2, e3, e4]
    go_simp
  have hr := hg a.eval hx hy hz hu
  unfold Oper.wp
  rw [hr, Oper.upon_value]
  refine h _ _ (fun m hm => ⟨_, rfl, ?_⟩) ((Below.refl _ _).alloc (Nat.le_refl _) _)
  rw [cell_new_at rfl]
  have hm' : m < 4 := by simpa using hm
  rcases (by omega : m = 0 ∨ m = 1 ∨ m = 2 ∨ m = 3) with rfl | rfl | rfl | rfl <;> rfl
end

set_option maxRecDepth 100000 in
set_option maxHeartbeats 4000000 in
theorem cmpv0 (ak an : Int) (af : Nat) (a_s : ByteArray) (bk bn : Int) (bf : Nat) (b_s : ByteArray) (w : World) : Calls Try.prog 132 #[vv ak an af a_s, vv bk bn bf b_s] w fun e w' => e = .returned (.int .i64 (orL [cmpI ak bk, cmpI an bn, cmpF af bf, cmpS a_s b_s])) ∧ Below w.heap.size w w' := by
  have hst := run_sf
  have HI := Lib.hid cmpi_any
  have HL := Lib.hid cmpl_any
  have HF := Lib.hid cmp_any
  have HS := Lib.hid strcmp_any
  go_enter Try.func132, Try.ntmps132
  go_wp2_with fail
  refine wp_region_held_drew (S := (fun w' => Below w.heap.size w w' ∧ w'.cell? ⟨w.heap.size, 0, none⟩ = some (.int .i64 ak) ∧ w'.cell? ⟨w.heap.size, 1, none⟩ = some (.int .i64 an) ∧ w'.cell? ⟨w.heap.size, 2, none⟩ = some (.float .f64 af) ∧ w'.cell? ⟨w.heap.size, 3, none⟩ = some (.string a_s) ∧ w'.cell? ⟨w.heap.size + 1, 0, none⟩ = some (.int .i64 bk) ∧ w'.cell? ⟨w.heap.size + 1, 1, none⟩ = some (.int .i64 bn) ∧ w'.cell? ⟨w.heap.size + 1, 2, none⟩ = some (.float .f64 bf) ∧ w'.cell? ⟨w.heap.size + 1, 3, none⟩ = some (.string b_s))) (by kernel_rfl) (⟨(((Below.refl _ _).alloc (Nat.le_refl _) _).alloc (by simp) _).drew, by go_simp, by go_simp, by go_simp, by go_simp, by go_simp, by go_simp, by go_simp, by go_simp⟩) (fun hHeld => ?_)
  (refine wpAnyH_take (i := 0) (oi := { dst := some 5, op := Go.Op.fieldAddr 24 (Go.Operand.tmp 2) 0, type := 0, pos := _, after := _, guard := none }) (v := ?_) rfl (by kernel_rfl) (by kernel_rfl) (by kernel_rfl) (fun _ _ _ h => h) (Or.inl ⟨by rfl, ?_⟩) (by assumption) ?_; rotate_left; (intro w hSw; (try dsimp only at hSw); go_simp; try with_reducible rfl); try simp only [Act.put, List.setIfInBounds_toArray, List.set_cons_zero, List.set_cons_succ])
  (refine wpAnyH_take (i := 1) (oi := { dst := some 6, op := Go.Op.load 3 (Go.Operand.tmp 5), type := 3, pos := _, after := _, guard := none }) (v := ?_) rfl (by kernel_rfl) (by kernel_rfl) (by kernel_rfl) (fun _ _ _ h => h) (Or.inl ⟨by rfl, ?_⟩) (by assumption) ?_; rotate_left; (intro w hSw; (try dsimp only at hSw); go_simp; try with_reducible rfl); try simp only [Act.put, List.setIfInBounds_toArray, List.set_cons_zero, List.set_cons_succ])
  (refine wpAnyH_take (i := 2) (oi := { dst := some 7, op := Go.Op.fieldAddr 24 (Go.Operand.tmp 3) 0, type := 0, pos := _, after := _, guard := none }) (v := ?_) rfl (by kernel_rfl) (by kernel_rfl) (by kernel_rfl) (fun _ _ _ h => h) (Or.inl ⟨by rfl, ?_⟩) (by assumption) ?_; rotate_left; (intro w hSw; (try dsimp only at hSw); go_simp; try with_reducible rfl); try simp only [Act.put, List.setIfInBounds_toArray, List.set_cons_zero, List.set_cons_succ])
  (refine wpAnyH_take (i := 3) (oi := { dst := some 8, op := Go.Op.load 3 (Go.Operand.tmp 7), type := 3, pos := _, after := _, guard := none }) (v := ?_) rfl (by kernel_rfl) (by kernel_rfl) (by kernel_rfl) (fun _ _ _ h => h) (Or.inl ⟨by rfl, ?_⟩) (by assumption) ?_; rotate_left; (intro w hSw; (try dsimp only at hSw); go_simp; try with_reducible rfl); try simp only [Act.put, List.setIfInBounds_toArray, List.set_cons_zero, List.set_cons_succ])
  (refine wpAnyH_take (i := 5) (oi := { dst := some 10, op := Go.Op.fieldAddr 24 (Go.Operand.tmp 2) 1, type := 0, pos := _, after := _, guard := none }) (v := ?_) rfl (by kernel_rfl) (by kernel_rfl) (by kernel_rfl) (fun _ _ _ h => h) (Or.inl ⟨by rfl, ?_⟩) (by assumption) ?_; rotate_left; (intro w hSw; (try dsimp only at hSw); go_simp; try with_reducible rfl); try simp only [Act.put, List.setIfInBounds_toArray, List.set_cons_zero, List.set_cons_succ])
  (refine wpAnyH_take (i := 6) (oi := { dst := some 11, op := Go.Op.load 2 (Go.Operand.tmp 10), type := 2, pos := _, after := _, guard := none }) (v := ?_) rfl (by kernel_rfl) (by kernel_rfl) (by kernel_rfl) (fun _ _ _ h => h) (Or.inl ⟨by rfl, ?_⟩) (by assumption) ?_; rotate_left; (intro w hSw; (try dsimp only at hSw); go_simp; try with_reducible rfl); try simp only [Act.put, List.setIfInBounds_toArray, List.set_cons_zero, List.set_cons_succ])
  (refine wpAnyH_take (i := 7) (oi := { dst := some 12, op := Go.Op.fieldAddr 24 (Go.Operand.tmp 3) 1, type := 0, pos := _, after := _, guard := none }) (v := ?_) rfl (by kernel_rfl) (by kernel_rfl) (by kernel_rfl) (fun _ _ _ h => h) (Or.inl ⟨by rfl, ?_⟩) (by assumption) ?_; rotate_left; (intro w hSw; (try dsimp only at hSw); go_simp; try with_reducible rfl); try simp only [Act.put, List.setIfInBounds_toArray, List.set_cons_zero, List.set_cons_succ])
  (refine wpAnyH_take (i := 8) (oi := { dst := some 13, op := Go.Op.load 2 (Go.Operand.tmp 12), type := 2, pos := _, after := _, guard := none }) (v := ?_) rfl (by kernel_rfl) (by kernel_rfl) (by kernel_rfl) (fun _ _ _ h => h) (Or.inl ⟨by rfl, ?_⟩) (by assumption) ?_; rotate_left; (intro w hSw; (try dsimp only at hSw); go_simp; try with_reducible rfl); try simp only [Act.put, List.setIfInBounds_toArray, List.set_cons_zero, List.set_cons_succ])
  (refine wpAnyH_take (i := 10) (oi := { dst := some 15, op := Go.Op.fieldAddr 24 (Go.Operand.tmp 2) 2, type := 0, pos := _, after := _, guard := none }) (v := ?_) rfl (by kernel_rfl) (by kernel_rfl) (by kernel_rfl) (fun _ _ _ h => h) (Or.inl ⟨by rfl, ?_⟩) (by assumption) ?_; rotate_left; (intro w hSw; (try dsimp only at hSw); go_simp; try with_reducible rfl); try simp only [Act.put, List.setIfInBounds_toArray, List.set_cons_zero, List.set_cons_succ])
  (refine wpAnyH_take (i := 11) (oi := { dst := some 16, op := Go.Op.load 22 (Go.Operand.tmp 15), type := 22, pos := _, after := _, guard := none }) (v := ?_) rfl (by kernel_rfl) (by kernel_rfl) (by kernel_rfl) (fun _ _ _ h => h) (Or.inl ⟨by rfl, ?_⟩) (by assumption) ?_; rotate_left; (intro w hSw; (try dsimp only at hSw); go_simp; try with_reducible rfl); try simp only [Act.put, List.setIfInBounds_toArray, List.set_cons_zero, List.set_cons_succ])
  (refine wpAnyH_take (i := 12) (oi := { dst := some 17, op := Go.Op.fieldAddr 24 (Go.Operand.tmp 3) 2, type := 0, pos := _, after := _, guard := none }) (v := ?_) rfl (by kernel_rfl) (by kernel_rfl) (by kernel_rfl) (fun _ _ _ h => h) (Or.inl ⟨by rfl, ?_⟩) (by assumption) ?_; rotate_left; (intro w hSw; (try dsimp only at hSw); go_simp; try with_reducible rfl); try simp only [Act.put, List.setIfInBounds_toArray, List.set_cons_zero, List.set_cons_succ])
  (refine wpAnyH_take (i := 13) (oi := { dst := some 18, op := Go.Op.load 22 (Go.Operand.tmp 17), type := 22, pos := _, after := _, guard := none }) (v := ?_) rfl (by kernel_rfl) (by kernel_rfl) (by kernel_rfl) (fun _ _ _ h => h) (Or.inl ⟨by rfl, ?_⟩) (by assumption) ?_; rotate_left; (intro w hSw; (try dsimp only at hSw); go_simp; try with_reducible rfl); try simp only [Act.put, List.setIfInBounds_toArray, List.set_cons_zero, List.set_cons_succ])
  (refine wpAnyH_take (i := 15) (oi := { dst := some 20, op := Go.Op.fieldAddr 24 (Go.Operand.tmp 2) 3, type := 0, pos := _, after := _, guard := none }) (v := ?_) rfl (by kernel_rfl) (by kernel_rfl) (by kernel_rfl) (fun _ _ _ h => h) (Or.inl ⟨by rfl, ?_⟩) (by assumption) ?_; rotate_left; (intro w hSw; (try dsimp only at hSw); go_simp; try with_reducible rfl); try simp only [Act.put, List.setIfInBounds_toArray, List.set_cons_zero, List.set_cons_succ])
  (refine wpAnyH_take (i := 16) (oi := { dst := some 21, op := Go.Op.load 9 (Go.Operand.tmp 20), type := 9, pos := _, after := _, guard := none }) (v := ?_) rfl (by kernel_rfl) (by kernel_rfl) (by kernel_rfl) (fun _ _ _ h => h) (Or.inl ⟨by rfl, ?_⟩) (by assumption) ?_; rotate_left; (intro w hSw; (try dsimp only at hSw); go_simp; try with_reducible rfl); try simp only [Act.put, List.setIfInBounds_toArray, List.set_cons_zero, List.set_cons_succ])
  (refine wpAnyH_take (i := 17) (oi := { dst := some 22, op := Go.Op.fieldAddr 24 (Go.Operand.tmp 3) 3, type := 0, pos := _, after := _, guard := none }) (v := ?_) rfl (by kernel_rfl) (by kernel_rfl) (by kernel_rfl) (fun _ _ _ h => h) (Or.inl ⟨by rfl, ?_⟩) (by assumption) ?_; rotate_left; (intro w hSw; (try dsimp only at hSw); go_simp; try with_reducible rfl); try simp only [Act.put, List.setIfInBounds_toArray, List.set_cons_zero, List.set_cons_succ])
  (refine wpAnyH_take (i := 18) (oi := { dst := some 23, op := Go.Op.load 9 (Go.Operand.tmp 22), type := 9, pos := _, after := _, guard := none }) (v := ?_) rfl (by kernel_rfl) (by kernel_rfl) (by kernel_rfl) (fun _ _ _ h => h) (Or.inl ⟨by rfl, ?_⟩) (by assumption) ?_; rotate_left; (intro w hSw; (try dsimp only at hSw); go_simp; try with_reducible rfl); try simp only [Act.put, List.setIfInBounds_toArray, List.set_cons_zero, List.set_cons_succ])
  refine wpAnyH_ready (rs := [4]) (by kernel_rfl) (by simp) ?_
  refine AllReadyH.cons (o := { dst := some 9, op := Go.Op.call { callee := Go.Callee.value (Go.Operand.func 144), args := #[Go.Operand.tmp 6, Go.Operand.tmp 8], argTypes := #[3, 3] }, type := 3, pos := _, after := _, guard := none }) rfl (fun K hK => ?_) AllReadyH.nil
  go_simp
  refine (HI.out _ _ _).mono ?_
  rintro e w5 ⟨rfl, rfl⟩
  go_wp2_with fail
  refine hK.out _ _ ?_ (fun hHeld2 => ?_)
  · (exact hHeld)
  clear hK K hHeld
  have hHeld := hHeld2
  clear hHeld2
  try simp only [Act.put, List.setIfInBounds_toArray, List.set_cons_zero, List.set_cons_succ]
  refine wpAnyH_ready (rs := [9]) (by kernel_rfl) (by simp) ?_
  refine AllReadyH.cons (o := { dst := some 14, op := Go.Op.call { callee := Go.Callee.value (Go.Operand.func 145), args := #[Go.Operand.tmp 11, Go.Operand.tmp 13], argTypes := #[2, 2] }, type := 3, pos := _, after := _, guard := none }) rfl (fun K hK => ?_) AllReadyH.nil
  go_simp
  refine (HL.out _ _ _).mono ?_
  rintro e w5 ⟨rfl, rfl⟩
  go_wp2_with fail
  refine hK.out _ _ ?_ (fun hHeld2 => ?_)
  · (exact hHeld)
  clear hK K hHeld
  have hHeld := hHeld2
  clear hHeld2
  try simp only [Act.put, List.setIfInBounds_toArray, List.set_cons_zero, List.set_cons_succ]
  refine wpAnyH_ready (rs := [14]) (by kernel_rfl) (by simp) ?_
  refine AllReadyH.cons (o := { dst := some 19, op := Go.Op.call { callee := Go.Callee.value (Go.Operand.func 39), args := #[Go.Operand.tmp 16, Go.Operand.tmp 18], argTypes := #[22, 22] }, type := 3, pos := _, after := _, guard := none }) rfl (fun K hK => ?_) AllReadyH.nil
  go_simp
  refine (HF.out _ _ _).mono ?_
  rintro e w5 ⟨rfl, rfl⟩
  go_wp2_with fail
  refine hK.out _ _ ?_ (fun hHeld2 => ?_)
  · (exact hHeld)
  clear hK K hHeld
  have hHeld := hHeld2
  clear hHeld2
  try simp only [Act.put, List.setIfInBounds_toArray, List.set_cons_zero, List.set_cons_succ]
  refine wpAnyH_ready (rs := [19]) (by kernel_rfl) (by simp) ?_
  refine AllReadyH.cons (o := { dst := some 24, op := Go.Op.call { callee := Go.Callee.value (Go.Operand.func 146), args := #[Go.Operand.tmp 21, Go.Operand.tmp 23], argTypes := #[9, 9] }, type := 3, pos := _, after := _, guard := none }) rfl (fun K hK => ?_) AllReadyH.nil
  go_simp
  refine (HS.out _ _ _).mono ?_
  rintro e w5 ⟨rfl, rfl⟩
  go_wp2_with fail
  refine hK.out _ _ ?_ (fun hHeld2 => ?_)
  · (exact hHeld)
  clear hK K hHeld
  have hHeld := hHeld2
  clear hHeld2
  try simp only [Act.put, List.setIfInBounds_toArray, List.set_cons_zero, List.set_cons_succ]
  refine wpAnyH_ready (rs := [20]) (by kernel_rfl) (by simp) ?_
  refine AllReadyH.cons (o := { dst := some 25, op := Go.Op.buildSlice 154 4 #[(0, Go.Operand.tmp 9), (1, Go.Operand.tmp 14), (2, Go.Operand.tmp 19), (3, Go.Operand.tmp 24)], type := 154, pos := _, after := _, guard := none }) rfl (fun K hK => ?_) AllReadyH.nil
  rw [if_pos (by rfl)]
  refine wp_build154 _ _ _ _ rfl (cmpI ak bk) (cmpI an bn) (cmpF af bf) (cmpS a_s b_s) rfl rfl rfl rfl ?_
  intro w7 b7 hr7 b70
  refine hK.out _ _ ?_ (fun hHeld2 => ?_)
  · (go_split_ands; exact ⟨Below.trans (by assumption) (b70.mono (Below.size (by assumption))), kc b70 (by assumption), kc b70 (by assumption), kc b70 (by assumption), kc b70 (by assumption), kc b70 (by assumption), kc b70 (by assumption), kc b70 (by assumption), kc b70 (by assumption)⟩)
  clear hK K hHeld
  have hHeld := hHeld2
  clear hHeld2
  try simp only [Act.put, List.setIfInBounds_toArray, List.set_cons_zero, List.set_cons_succ]
  refine wpAnyH_ready (rs := [21]) (by kernel_rfl) (by simp) ?_
  refine AllReadyH.cons (o := { dst := some 26, op := Go.Op.call { callee := Go.Callee.value (Go.Operand.func 143), args := #[Go.Operand.tmp 25], argTypes := #[154] }, type := 3, pos := _, after := _, guard := none }) rfl (fun K hK => ?_) AllReadyH.nil
  go_simp
  refine (or_any _ _ [cmpI ak bk, cmpI an bn, cmpF af bf, cmpS a_s b_s] _ hr7 (by simp)).mono ?_
  rintro e w8 ⟨rfl, rfl⟩
  go_wp2_with fail
  refine hK.out _ _ ?_ (fun hHeld2 => ?_)
  · (exact hHeld)
  clear hK K hHeld
  have hHeld := hHeld2
  clear hHeld2
  try simp only [Act.put, List.setIfInBounds_toArray, List.set_cons_zero, List.set_cons_succ]
  (refine wpAnyH_take (i := 22) (oi := { dst := some 4, op := Go.Op.assign (Go.Operand.tmp 26), type := 3, pos := _, after := _, guard := none }) (v := ?_) rfl (by kernel_rfl) (by kernel_rfl) (by kernel_rfl) (fun _ _ _ h => h) (Or.inl ⟨by rfl, ?_⟩) (by assumption) ?_; rotate_left; (intro w hSw; (try dsimp only at hSw); go_simp; try with_reducible rfl); try simp only [Act.put, List.setIfInBounds_toArray, List.set_cons_zero, List.set_cons_succ])
  refine wpAnyH_done (by kernel_rfl) ?_ _
  have hbf := And.left hHeld
  go_wp2_with fail
  go_ret
  exact ⟨rfl, hbf⟩

theorem cmpv_any (a b : Val) (w : World) : Calls Try.prog 132 #[a.v, b.v] w fun e w' => e = .returned (.int .i64 (cmpV a b)) ∧ Below w.heap.size w w' := cmpv0 _ _ _ _ _ _ _ _ w
theorem samev_any (a b : Val) (w : World) : Calls Try.prog 123 #[a.v, b.v] w fun e w' => e = .returned (.bool (cmpV a b == 0)) ∧ Below w.heap.size w w' := by
  obtain ⟨ak, an, af, a_s⟩ := a
  obtain ⟨bk, bn, bf, b_s⟩ := b
  have hc := cmpv_any ⟨ak, an, af, a_s⟩ ⟨bk, bn, bf, b_s⟩
  generalize cmpV ⟨ak, an, af, a_s⟩ ⟨bk, bn, bf, b_s⟩ = z at *
  go_enter Try.func123, Try.ntmps123
  go_wp2_with fail
  refine (hc _).mono ?_
  rintro e w1 ⟨rfl, h1⟩
  go_wp2_with fail
  go_ret
  exact ⟨rfl, (((Below.refl w.heap.size w).alloc (Nat.le_refl _) _).alloc (by simp) _).trans (h1.mono (by simp; omega))⟩
end Go.Proofs.Ytmgpecomgffelaa
