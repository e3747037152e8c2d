/- The law FloatTexts. -/
import Derived.Test.YtmgpecomgffelaaFloatN
import Derived.Test.YtmgpecomgffelaaOpenB
import Derived.Test.YtmgpecomgffelaaFrame
import Derived.ChangeMaps5
namespace Go.Proofs.Ytmgpecomgffelaa
open Go.RowKit Go.ChangeShapes Go.WideShapes Go.ChangeAt
set_option linter.unusedVariables false
theorem parse_all (s : ByteArray) : ∃ (v : Nat) (b : Bool), (∀ w, Calls Try.prog 67 #[.string s] w fun e w' => e = .returned (.tuple #[.float .f64 v, .bool b]) ∧ w = w') ∧ (∀ w, Calls Try.prog 68 #[.string s] w fun e w' => e = .returned (.agg #[.float .f64 v, .bool b]) ∧ Below w.heap.size w w') := by
  by_cases h : s.size = 16
  · by_cases ho : okTo s 16
    · exact ⟨_, _, fun w => parse_ok s w h ho, fun w => rparse_ok s w h ho⟩
    · exact ⟨_, _, fun w => parse_no s w h ho, fun w => rparse_no s w h ho⟩
  · exact ⟨_, _, fun w => parse_short s w h, fun w => rparse_short s w h⟩
theorem textF_size (u : Nat) : (textF u).size = 16 := by
  unfold textF ByteArray.size
  simp [digs_len]
theorem hexv_dig (d : Nat) (h : d < 16) : isHex (dig d) ∧ hexv (dig d) = d := (dig_eq (dig d) d h).1 rfl
theorem textF_at (u j : Nat) (h : j < 16) : sAt (textF u) j = dig (u / 16 ^ (15 - j) % 16) := by
  unfold sAt
  rw [dif_pos (by rw [textF_size]; exact h)]
  have e : (textF u)[j]'(by rw [textF_size]; exact h) = UInt8.ofNat (dig (u / 16 ^ (15 - j) % 16)) := by
    show (textF u).data[j]'_ = _
    unfold textF digs
    simp
  rw [e]
  have := dig_lt (u / 16 ^ (15 - j) % 16) (Nat.mod_lt _ (by decide))
  simp
  omega
theorem textF_ok (u : Nat) : okTo (textF u) 16 := fun j hj => by
  rw [textF_at u j hj]
  exact (hexv_dig _ (Nat.mod_lt _ (by decide))).1
theorem textF_num (u : Nat) (h : u < two64) : ∀ k, k ≤ 16 → num (textF u) k = u / 16 ^ (16 - k)
  | 0, _ => by
    have : u < 16 ^ 16 := h
    rw [num, Nat.sub_zero, Nat.div_eq_of_lt this]
  | k + 1, hk => by
    rw [num, textF_num u h k (by omega), textF_at u k (by omega), (hexv_dig _ (Nat.mod_lt _ (by decide))).2]
    have e : 16 - k = (15 - k) + 1 := by omega
    have e2 : 16 - (k + 1) = 15 - k := by omega
    rw [e, e2, Nat.pow_succ, ← Nat.div_div_eq_div_mul]
    omega
theorem parse_text (a : Nat) (h : a < two64) (w : World) : Calls Try.prog 67 #[.string (textF (canonF a))] w fun e w' => e = .returned (.tuple #[.float .f64 (canonF a), .bool true]) ∧ w = w' := by
  have hl := canon_lt a h
  have hn := textF_num (canonF a) hl 16 (Nat.le_refl _)
  rw [Nat.sub_self, Nat.pow_zero, Nat.div_one] at hn
  have hp := parse_ok (textF (canonF a)) w (textF_size _) (textF_ok _)
  have e1 : parseV (textF (canonF a)) = canonF a := by
    unfold parseV
    rw [hn, canon_canon, if_pos rfl]
  have e2 : parseOK (textF (canonF a)) = true := by
    unfold parseOK
    rw [hn, canon_canon, decide_eq_true rfl]
  rw [e1, e2] at hp
  exact hp

theorem texts_long (a : Nat) (s : ByteArray) (w : World) (h : 2000 < s.size) : Tells Try.prog 15 #[.float .f64 a, .string s] w := by
  unfold Tells
  go_enter Try.func15, Try.ntmps15
  go_wp2_with fail
  refine (wakes_any _).mono ?_
  rintro e w99 ⟨rfl, h99⟩
  go_wp2_with fail
  go_ret
  exact ⟨rfl, h99⟩
set_option maxHeartbeats 2000000 in
set_option maxRecDepth 100000 in
theorem float_texts (a : Nat) (ha : a < two64) (s : ByteArray) (h : ¬ 2000 < s.size) (w : World) : Tells Try.prog 15 #[.float .f64 a, .string s] w := by
  unfold Tells
  have hst := run_sf
  have c1 := text_any a ha
  have c2 := rtext_any a ha
  have c3 := parse_text a ha
  obtain ⟨v, b, c4, c5⟩ := parse_all s
  have c6 := canon_any a
  have hself : (b == b) = true := beq_self_eq_true _
  generalize textF (canonF a) = t at *
  generalize canonF a = r at *
  have Hs := Lib.hid (fun a w => by have h := same_any a a w; rw [decide_eq_true (show a = a from rfl)] at h; exact h : ∀ (a : Nat) (w : World), Calls Try.prog 46 #[.float .f64 a, .float .f64 a] w fun e w' => e = .returned (.bool true) ∧ w = w')
  go_enter Try.func15, Try.ntmps15
  go_wp2_with fail
  refine (c1 _).mono ?_
  rintro e w1 ⟨rfl, h1⟩
  go_wp2_with fail
  refine (c4 _).mono ?_
  rintro e w2 ⟨rfl, rfl⟩
  go_wp2_with fail
  refine (c5 _).mono ?_
  rintro e w2 ⟨rfl, h2⟩
  go_wp2_with fail
  refine (c3 _).mono ?_
  rintro e w3 ⟨rfl, rfl⟩
  go_wp2_with fail
  refine (c2 _).mono ?_
  rintro e w4 ⟨rfl, h4⟩
  have hb2 := below_trans h1 h2
  have hb4 := below_trans (hb2.alloc hb2.size _) h4
  have q0 : w4.cell? ⟨w2.heap.size, 0, none⟩ = some (.float .f64 v) := (h4.cell (p := ⟨w2.heap.size, 0, none⟩) (by simp)).trans (by rw [World.cell?_alloc_new]; rfl)
  have q1 : w4.cell? ⟨w2.heap.size, 1, none⟩ = some (.bool b) := (h4.cell (p := ⟨w2.heap.size, 1, none⟩) (by simp)).trans (by rw [World.cell?_alloc_new]; rfl)
  go_wp2_with fail
  refine (Hs.out _ _).mono ?_
  rintro e w5 ⟨rfl, rfl⟩
  go_wp2_with fail
  refine (c6 _).mono ?_
  rintro e w6 ⟨rfl, rfl⟩
  go_wp2_with fail
  refine (Hs.out _ _).mono ?_
  rintro e w5 ⟨rfl, rfl⟩
  go_wp2_with fail
  refine (wakes_any _).mono ?_
  rintro e w99 ⟨rfl, h99⟩
  go_wp2_with fail
  go_ret
  exact ⟨rfl, below_trans hb4 h99⟩

set_option maxRecDepth 100000 in
theorem floatTexts_lifted (os : Os) (started : os.Started) (H : Type) (enc : TypeId × Value → H) :
    ReturnsInHanded {} Try.checked os 15 .any (Rows.floatTextsSpec.pre6 enc Try.prog Try.f15 [] false) (Rows.floatTextsSpec.post enc Try.prog Try.f15 false true false false) := by
  refine law_lifted (C := Try.checked) own started (by kernel_rfl) Try.func15
    (ChangeSpec.witness6 (enc := enc) (C := Try.checked) false ⟨#[], #[.float .f64 0, .string ⟨#[]⟩], []⟩ 8 (by kernel_rfl) (by kernel_rfl) (by kernel_rfl) (by kernel_rfl))
    rfl (fun ds h => by match ds, h with | [_, _], _ => rfl) laid (by kernel_rfl) (tb := 4) rfl Try.underlying4 ?_
  intro W base args ds ps hval hA hsz
  rw [Try.params15] at hA hval hsz
  obtain ⟨v0, v1, d0, d1, p0, p1, rfl, rfl, rfl, h0, h1⟩ := trodAll_two hA
  obtain ⟨a, rfl, rfl, rfl, k0⟩ := open_float Try.underlying22 (hval 0 22 v0 rfl rfl) h0
  obtain ⟨s, rfl, _⟩ := Go.ChangeMaps.open_string Try.underlying9 (hval 1 9 v1 rfl rfl) h1
  have ha : a < two64 := by simpa [Lit.wf, two64] using k0
  by_cases h : 2000 < s.size
  · exact texts_long a s W h
  exact float_texts a ha s h W

theorem floatTexts_holds : Rows.FloatTextsSaid :=
  OpenClaim.holds_of_wide 15 Try.f15 rfl rfl rfl rfl rfl rfl rfl ⟨rfl, rfl, rfl, rfl, rfl⟩ rfl rfl rfl rfl rfl (by kernel_rfl) Try.func15 (by kernel_rfl)
    (of_decide_eq_true (by kernel_rfl)) (by unfold Func.isWrapper; first | (rw [if_pos (by decide +kernel)]; kernel_rfl) | (rw [if_neg (by decide +kernel)]; exact ⟨rfl, rfl⟩))
    (fun os started H enc _ => floatTexts_lifted os started H enc)
#print axioms floatTexts_holds
end Go.Proofs.Ytmgpecomgffelaa
