/- The law PlanOrder: in whatever order the indexes stand, the plan is one; an index more makes none dearer. No condition. -/
import Derived.Test.YtobdooojdadgpaaPlanR
import Derived.Deep.DeepCutAuto
import Derived.Outline
namespace Go.Proofs.Ytobdooojdadgpaa
open Go.RowKit Go.ChangeShapes Go.WideShapes Go.ChangeAt
set_option linter.unusedVariables false
theorem rev_take (l : List Idx) (t j : Nat) (h : l.length = j + 1 + t) (hj : j < l.length) : (l.reverse.take (t + 1)).flatMap Idx.cells = (l.reverse.take t).flatMap Idx.cells ++ (l[j]'hj).cells := by
  rw [List.take_succ_eq_append_getElem (by simp; omega), List.flatMap_append]
  have e : l.length - 1 - t = j := by omega
  simp [List.getElem_reverse, e]
theorem RdI.take {w : World} {A : Option Addr} {l : List Idx} (h : RdI w A l) (i : Nat) : RdI w A (l.take i) := fun k hk => by
  obtain ⟨ad, e, hc⟩ := h k (by rw [List.length_take] at hk; omega)
  refine ⟨ad, e, ?_⟩
  have e2 : (l.take i)[k] = l[k]'(by rw [List.length_take] at hk; omega) := by simp
  rw [e2]
  exact hc
set_option maxRecDepth 100000 in
set_option maxHeartbeats 8000000 in
theorem order_main (s : Stm) (rl : List Val) (cl : List Col) (C : Option Addr) (c : Nat) (cols : List Col) (A : Option Addr) (a : Nat) (l : List Idx) (w : World) (hs : StmIn w s rl cl) (hc : RdC w C cols) (ha : RdI w A l) (hnA : A = none → a = 0) (hla : l.length ≤ a) :
    Tells Try.prog 8 #[sv s, .slice C cols.length c, .slice A l.length a] w := by
  unfold Tells
  have hst := run_sf
  have b0 : Below w.heap.size w (w.alloc (.cells s.a 45)) := (Below.refl _ _).alloc (Nat.le_refl _) _
  have HB0 := Lib.hid (BoxA.new w s)
  have HS0 := Lib.hid (hs.keep b0)
  have HC0 := Lib.hid (hc.keep b0 (Nat.le_refl _))
  have HA0 := Lib.hid (ha.keep b0 (Nat.le_refl _))
  have HNA := Lib.hid hnA
  have HL := Lib.hid (large_any s rl cl C c cols A a l _ HS0.out HC0.out HA0.out)
  clear hs hc ha hnA
  go_enter Try.func8, Try.ntmps8
  go_wp2_with fail
  refine HL.out.mono ?_
  rintro e w1 ⟨b, rfl, hp, b1⟩
  have k1 := b0.trans (b1.mono b0.size)
  have HP := Lib.hid hp
  have HB1 := Lib.hid (HB0.out.keep b1)
  have HC1 := Lib.hid (HC0.out.keep b1 (Nat.le_refl _))
  have HA1 := Lib.hid (HA0.out.keep b1 (Nat.le_refl _))
  clear hp b0 b1 HL HB0 HS0 HC0 HA0
  cases b with
  | true =>
    go_wp2_with fail
    refine (plan_wakes _).mono ?_
    rintro e w9 ⟨rfl, b9⟩
    go_wp2_with fail
    go_ret
    exact ⟨rfl, k1.trans (b9.mono k1.size)⟩
  | false =>
  by_cases h20 : 20 < l.length
  · have t20 : decide ((20 : Int) < (l.length : Int)) = true := by rw [decide_eq_true]; omega
    go_wp2_with fail
    refine (plan_wakes _).mono ?_
    rintro e w9 ⟨rfl, b9⟩
    go_wp2_with fail
    go_ret
    exact ⟨rfl, k1.trans (b9.mono k1.size)⟩
  have t20 : decide ((20 : Int) < (l.length : Int)) = false := by rw [decide_eq_false]; omega
  obtain ⟨hcl, _, _, _⟩ := HP.out (by first | rfl | trivial)
  clear HP
  go_wp2_with fail
  go_loopw [7, 8] (fun kv i wr => ∃ (t : Nat) (z : Int), t ≤ l.length ∧ z = (l.length : Int) - 1 - t ∧ i = .int .i64 z ∧ Fresh wr w1.heap.size 60 4 kv t ((l.reverse.take t).flatMap Idx.cells) ∧ Below w1.heap.size w1 wr) (fun _ i _ => (intOf i + 1).toNat)
  case atStart => exact ⟨0, _, by omega, by omega, rfl, Or.inl (World.ownsRow_nil _ _ _ _), Below.refl _ _⟩
  case round =>
    obtain ⟨t, z, ht, hz, rfl, hF, hb⟩ := hrel
    obtain ⟨A7, c7, rfl, hn7⟩ := hF.slice
    by_cases hlt : t < l.length
    · obtain ⟨j, rfl⟩ : ∃ j : Nat, z = (j : Int) := ⟨z.toNat, by omega⟩
      have hjt : l.length = j + 1 + t := by omega
      have hjlt : j < l.length := by omega
      obtain ⟨ad, rfl, q0, q1, q2, q3⟩ := RdI.at (HA1.out.keep hb (Nat.le_refl _)) j hjlt
      have hp := rev_take l t j hjt hjlt
      have hjl : (j : Int) < (l.length : Int) := by omega
      have Hp := Lib.hid hp
      have Hz := Lib.hid hz
      clear hp hz
      clear hjt
      generalize l[j]'hjlt = x at *
      go_wp2_with (at_builtin; refine wl_app_idxs rfl _ _ rfl w1.heap.size _ t _ rfl (hF.alloc _) (by have := hb.size; simp; omega) _ 1 [x] rfl (by simp) (RdI.one _ _) (by simp; omega) ?_; intro v' w3' hF3 b3 _)
      rw [List.flatMap_cons, List.flatMap_nil, List.append_nil, ← Hp.out] at hF3
      have hb1 : Below w1.heap.size w1 w3' := (hb.alloc hb.size _).trans b3
      go_wp2_with fail
      exact ⟨⟨t + 1, _, by omega, by have := Hz.out; omega, rfl, hF3, hb1⟩, by have := Hz.out; first | (simp [intOf]; done) | (simp [intOf]; omega)⟩
    · obtain rfl : t = l.length := by omega
      obtain rfl : z = -1 := by omega
      have hall : l.reverse.take l.length = l.reverse := List.take_of_length_le (by simp)
      rw [hall] at hF
      have hlr : l.reverse.length = l.length := List.length_reverse
      have HK := Lib.hid (Fresh.rd (l := l.reverse) (c := c7) Idx.cells_len (by decide) (by rw [hlr]; exact hF))
      have HN7 := Lib.hid hn7
      have kr := k1.trans (hb.mono k1.size)
      have HBr := Lib.hid (HB1.out.keep hb)
      have HCr := Lib.hid (HC1.out.keep hb (Nat.le_refl _))
      have HAr := Lib.hid (HA1.out.keep hb (Nat.le_refl _))
      obtain ⟨wl, hwl⟩ : ∃ wl : World, wl = wr := ⟨_, rfl⟩
      subst hwl
      clear hF hn7 hb k1 HB1 HC1 HA1 hall hlr hz hlt
      have f0 := (HBr.out 0 _ rfl).1
      have f1 := (HBr.out 1 _ rfl).1
      have f2 := (HBr.out 2 _ rfl).1
      have f3 := (HBr.out 3 _ rfl).1
      have f4 := (HBr.out 4 _ rfl).1
      have f5 := (HBr.out 5 _ rfl).1
      have f6 := (HBr.out 6 _ rfl).1
      have f7 := (HBr.out 7 _ rfl).1
      have f8 := (HBr.out 8 _ rfl).1
      have f9 := (HBr.out 9 _ rfl).1
      have f10 := (HBr.out 10 _ rfl).1
      have f11 := (HBr.out 11 _ rfl).1
      have f12 := (HBr.out 12 _ rfl).1
      have f13 := (HBr.out 13 _ rfl).1
      have f14 := (HBr.out 14 _ rfl).1
      have f15 := (HBr.out 15 _ rfl).1
      have hltW : w.heap.size < wl.heap.size := World.block_lt_of_cell? _ _ f0
      have HOF : Hid (∀ A' c' w', RdC w' C cols → RdI w' A' l → (A' = none → c' = 0) → _) := Lib.hid (fun A' c' w' h1 h2 h3 => of_any s C c cols A' c' l w' h1 h2 h3 (by omega) (by omega))
      have HOR := Lib.hid (fun w' h1 h2 h3 => of_any s C c cols A7 c7 l.reverse w' h1 h2 h3 (by omega) (by simp; omega))
      have HOT := Lib.hid (fun (i : Nat) A' c' w' h1 h2 h3 => of_any s C c cols A' c' (l.take i) w' h1 h2 h3 (by omega) (by simp; omega))
      have HCL := Lib.hid (fun i => cost_less s cols l i)
      rw [ofW_rev, ofI_rev, List.length_reverse] at HOR
      generalize ofW s cols l = W at *
      generalize ofI s cols l = I at *
      generalize hE : ofE s cols = E at *
      go_upto_region 8 with (fail)
      go_cut [9, 10] (fun p e wx => ∃ P9 : Nat, p = .pointer (some ⟨P9, 0, none⟩) ∧ e = .int .i64 E ∧ RdP wx P9 W I ∧ Below wl.heap.size wl wx)
      case first => as_aux_lemma =>
        refine wp_region_held_drew (S := (fun w' => Below wl.heap.size wl w' ∧ w'.cell? ⟨w.heap.size, 0, none⟩ = some (.int .i64 s.kind) ∧ w'.cell? ⟨w.heap.size, 1, none⟩ = some (.string s.tab) ∧ w'.cell? ⟨w.heap.size, 2, none⟩ = some (.string s.nam) ∧ w'.cell? ⟨w.heap.size, 3, none⟩ = some (.string s.col) ∧ w'.cell? ⟨w.heap.size, 4, none⟩ = some (.string s.set) ∧ w'.cell? ⟨w.heap.size, 5, none⟩ = some (.int .i64 s.v.kind) ∧ w'.cell? ⟨w.heap.size, 6, none⟩ = some (.int .i64 s.v.n) ∧ w'.cell? ⟨w.heap.size, 7, none⟩ = some (.float .f64 s.v.f) ∧ w'.cell? ⟨w.heap.size, 8, none⟩ = some (.string s.v.s) ∧ w'.cell? ⟨w.heap.size, 9, none⟩ = some (.int .i64 s.w.kind) ∧ w'.cell? ⟨w.heap.size, 10, none⟩ = some (.int .i64 s.w.n) ∧ w'.cell? ⟨w.heap.size, 11, none⟩ = some (.float .f64 s.w.f) ∧ w'.cell? ⟨w.heap.size, 12, none⟩ = some (.string s.w.s) ∧ w'.cell? ⟨w.heap.size, 13, none⟩ = some (.slice s.rA s.rn s.rc) ∧ w'.cell? ⟨w.heap.size, 14, none⟩ = some (.slice s.cA s.cn s.cc) ∧ w'.cell? ⟨w.heap.size, 15, none⟩ = some (.bool s.flag))) (by kernel_rfl) (⟨(Below.refl _ _).drew, f0, f1, f2, f3, f4, f5, f6, f7, f8, f9, f10, f11, f12, f13, f14, f15⟩) (fun hHeld => ?_)
        (refine wpAnyH_take (i := 0) (oi := { dst := some 41, op := Go.Op.load 45 (Go.Operand.tmp 3), type := 45, pos := _, after := _, guard := none }) (v := ?_) rfl (by kernel_rfl) (by kernel_rfl) (by kernel_rfl) (fun _ _ _ h => h) (Or.inl ⟨by rfl, ?_⟩) (by assumption) ?_; rotate_left; (intro w hSw; (try dsimp only at hSw); go_simp; try with_reducible rfl); try simp only [Act.put, List.setIfInBounds_toArray, List.set_cons_zero, List.set_cons_succ])
        (refine wpAnyH_take (i := 1) (oi := { dst := some 42, op := Go.Op.move (Go.Operand.tmp 1), type := 43, pos := _, after := _, guard := none }) (v := ?_) rfl (by kernel_rfl) (by kernel_rfl) (by kernel_rfl) (fun _ _ _ h => h) (Or.inl ⟨by rfl, ?_⟩) (by assumption) ?_; rotate_left; (intro w hSw; (try dsimp only at hSw); go_simp; try with_reducible rfl); try simp only [Act.put, List.setIfInBounds_toArray, List.set_cons_zero, List.set_cons_succ])
        (refine wpAnyH_take (i := 3) (oi := { dst := some 44, op := Go.Op.move (Go.Operand.tmp 2), type := 46, pos := _, after := _, guard := none }) (v := ?_) rfl (by kernel_rfl) (by kernel_rfl) (by kernel_rfl) (fun _ _ _ h => h) (Or.inl ⟨by rfl, ?_⟩) (by assumption) ?_; rotate_left; (intro w hSw; (try dsimp only at hSw); go_simp; try with_reducible rfl); try simp only [Act.put, List.setIfInBounds_toArray, List.set_cons_zero, List.set_cons_succ])
        refine wpAnyH_ready (rs := [2, 9]) (by kernel_rfl) (by simp) ?_
        refine (AllReadyH.cons (o := { dst := some 43, op := Go.Op.buildSlice 46 0 #[], type := 46, pos := _, after := _, guard := none }) rfl (fun K hK => ?_) (AllReadyH.cons (o := { dst := some 9, op := Go.Op.alloc 49, type := 0, pos := _, after := _, guard := none }) rfl (fun K hK => ?_) AllReadyH.nil))
        · rw [if_pos (by rfl)]
          refine wp_build46 rfl ?_
          intro w2x bE b2x
          refine hK.out _ _ ?_ (fun hHeld2 => ?_)
          · (go_split_ands; exact ⟨Below.trans (by assumption) (b2x.mono (Below.size (by assumption))), kc b2x (by assumption), kc b2x (by assumption), kc b2x (by assumption), kc b2x (by assumption), kc b2x (by assumption), kc b2x (by assumption), kc b2x (by assumption), kc b2x (by assumption), kc b2x (by assumption), kc b2x (by assumption), kc b2x (by assumption), kc b2x (by assumption), kc b2x (by assumption), kc b2x (by assumption), kc b2x (by assumption), kc b2x (by assumption)⟩)
          clear hK K hHeld
          have hHeld := hHeld2
          clear hHeld2
          try simp only [Act.put, List.setIfInBounds_toArray, List.set_cons_zero, List.set_cons_succ]
          refine wpAnyH_ready (rs := [4, 9]) (by kernel_rfl) (by simp) ?_
          refine (AllReadyH.cons (o := { dst := some 45, op := Go.Op.call { callee := Go.Callee.builtin Go.Builtin.append, args := #[Go.Operand.tmp 43, Go.Operand.tmp 44], argTypes := #[46, 46] }, type := 46, pos := _, after := _, guard := none }) rfl (fun K hK => ?_) (AllReadyH.cons (o := { dst := some 9, op := Go.Op.alloc 49, type := 0, pos := _, after := _, guard := none }) rfl (fun K hK => ?_) AllReadyH.nil))
          · rw [if_pos (by rfl)]
            refine wp_app_idxs _ _ rfl _ _ 0 [] rfl (Fresh.empty _ _ _ _ _) (Nat.le_refl _) A a l rfl HNA.out (HAr.out.keep (And.left hHeld) (Nat.le_refl _)) (by omega) ?_
            intro v4x w4x hF4 b4x _
            rw [Nat.zero_add, List.nil_append] at hF4
            obtain ⟨A4x, c4x, rfl, hn4x⟩ := hF4.slice
            have hI4 := Fresh.rd (l := l) (c := c4x) Idx.cells_len (by decide) hF4
            refine hK.out _ _ ?_ (fun hHeld2 => ?_)
            · (go_split_ands; exact ⟨Below.trans (by assumption) (b4x.mono (Below.size (by assumption))), kc b4x (by assumption), kc b4x (by assumption), kc b4x (by assumption), kc b4x (by assumption), kc b4x (by assumption), kc b4x (by assumption), kc b4x (by assumption), kc b4x (by assumption), kc b4x (by assumption), kc b4x (by assumption), kc b4x (by assumption), kc b4x (by assumption), kc b4x (by assumption), kc b4x (by assumption), kc b4x (by assumption), kc b4x (by assumption)⟩)
            clear hK K hHeld
            have hHeld := hHeld2
            clear hHeld2
            try simp only [Act.put, List.setIfInBounds_toArray, List.set_cons_zero, List.set_cons_succ]
            refine wpAnyH_ready (rs := [5, 9]) (by kernel_rfl) (by simp) ?_
            refine (AllReadyH.cons (o := { dst := some 46, op := Go.Op.call { callee := Go.Callee.value (Go.Operand.func 31), args := #[Go.Operand.tmp 41, Go.Operand.tmp 42, Go.Operand.tmp 45], argTypes := #[45, 43, 46] }, type := 50, pos := _, after := _, guard := none }) rfl (fun K hK => ?_) (AllReadyH.cons (o := { dst := some 9, op := Go.Op.alloc 49, type := 0, pos := _, after := _, guard := none }) rfl (fun K hK => ?_) AllReadyH.nil))
            · go_simp
              refine (HOF.out A4x c4x _ (HCr.out.keep (And.left hHeld) (Nat.le_refl _)) hI4 hn4x).mono ?_
              rintro e w5x ⟨rfl, b5x⟩
              go_wp2_with fail
              refine hK.out _ _ ?_ (fun hHeld2 => ?_)
              · (go_split_ands; exact ⟨Below.trans (by assumption) (b5x.mono (Below.size (by assumption))), kc b5x (by assumption), kc b5x (by assumption), kc b5x (by assumption), kc b5x (by assumption), kc b5x (by assumption), kc b5x (by assumption), kc b5x (by assumption), kc b5x (by assumption), kc b5x (by assumption), kc b5x (by assumption), kc b5x (by assumption), kc b5x (by assumption), kc b5x (by assumption), kc b5x (by assumption), kc b5x (by assumption), kc b5x (by assumption)⟩)
              clear hK K hHeld
              have hHeld := hHeld2
              clear hHeld2
              try simp only [Act.put, List.setIfInBounds_toArray, List.set_cons_zero, List.set_cons_succ]
              (refine wpAnyH_take (i := 6) (oi := { dst := some 40, op := Go.Op.move (Go.Operand.tmp 46), type := 50, pos := _, after := _, guard := none }) (v := ?_) rfl (by kernel_rfl) (by kernel_rfl) (by kernel_rfl) (fun _ _ _ h => h) (Or.inl ⟨by rfl, ?_⟩) (by assumption) ?_; rotate_left; (intro w hSw; (try dsimp only at hSw); go_simp; try with_reducible rfl); try simp only [Act.put, List.setIfInBounds_toArray, List.set_cons_zero, List.set_cons_succ])
              (refine wpAnyH_take (i := 7) (oi := { dst := some 47, op := Go.Op.extract (Go.Operand.tmp 40) 0, type := 49, pos := _, after := _, guard := none }) (v := ?_) rfl (by kernel_rfl) (by kernel_rfl) (by kernel_rfl) (fun _ _ _ h => h) (Or.inl ⟨by rfl, ?_⟩) (by assumption) ?_; rotate_left; (intro w hSw; (try dsimp only at hSw); go_simp; try with_reducible rfl); try simp only [Act.put, List.setIfInBounds_toArray, List.set_cons_zero, List.set_cons_succ])
              (refine wpAnyH_take (i := 8) (oi := { dst := some 48, op := Go.Op.extract (Go.Operand.tmp 40) 1, type := 33, pos := _, after := _, guard := none }) (v := ?_) rfl (by kernel_rfl) (by kernel_rfl) (by kernel_rfl) (fun _ _ _ h => h) (Or.inl ⟨by rfl, ?_⟩) (by assumption) ?_; rotate_left; (intro w hSw; (try dsimp only at hSw); go_simp; try with_reducible rfl); try simp only [Act.put, List.setIfInBounds_toArray, List.set_cons_zero, List.set_cons_succ])
              refine wpAnyH_ready (rs := [9]) (by kernel_rfl) (by simp) ?_
              refine AllReadyH.cons (o := { dst := some 9, op := Go.Op.alloc 49, type := 0, pos := _, after := _, guard := none }) rfl (fun K hK => ?_) AllReadyH.nil
              rw [if_pos (by rfl)]
              refine wp_alloc49 rfl ?_
              intro w9x P9 hP9 hP9b b9x
              have hP9w : wl.heap.size ≤ P9 := Nat.le_trans (Below.size (And.left hHeld)) hP9b
              refine hK.out _ _ ?_ (fun hHeld2 => ?_)
              · (go_split_ands; exact ⟨Below.trans (by assumption) (b9x.mono (Below.size (by assumption))), kc b9x (by assumption), kc b9x (by assumption), kc b9x (by assumption), kc b9x (by assumption), kc b9x (by assumption), kc b9x (by assumption), kc b9x (by assumption), kc b9x (by assumption), kc b9x (by assumption), kc b9x (by assumption), kc b9x (by assumption), kc b9x (by assumption), kc b9x (by assumption), kc b9x (by assumption), kc b9x (by assumption), kc b9x (by assumption)⟩)
              clear hK K hHeld
              have hHeld := hHeld2
              clear hHeld2
              try simp only [Act.put, List.setIfInBounds_toArray, List.set_cons_zero, List.set_cons_succ]
              refine wpAnyH_ready (rs := [10]) (by kernel_rfl) (by simp) ?_
              refine AllReadyH.cons (o := { dst := none, op := Go.Op.store 49 (Go.Operand.tmp 9) (Go.Operand.tmp 47), type := 0, pos := _, after := _, guard := none }) rfl (fun K hK => ?_) AllReadyH.nil
              rw [if_pos (by rfl)]
              refine wp_store49 _ _ rfl P9 0 ⟨#[]⟩ W I rfl rfl hP9 ?_
              intro w10x hP10 b10x
              refine hK.out _ _ ?_ (fun hHeld2 => ?_)
              · (go_split_ands; exact ⟨Below.trans (by assumption) (b10x _ hP9w), kd (b10x _ hP9w) hltW (by assumption), kd (b10x _ hP9w) hltW (by assumption), kd (b10x _ hP9w) hltW (by assumption), kd (b10x _ hP9w) hltW (by assumption), kd (b10x _ hP9w) hltW (by assumption), kd (b10x _ hP9w) hltW (by assumption), kd (b10x _ hP9w) hltW (by assumption), kd (b10x _ hP9w) hltW (by assumption), kd (b10x _ hP9w) hltW (by assumption), kd (b10x _ hP9w) hltW (by assumption), kd (b10x _ hP9w) hltW (by assumption), kd (b10x _ hP9w) hltW (by assumption), kd (b10x _ hP9w) hltW (by assumption), kd (b10x _ hP9w) hltW (by assumption), kd (b10x _ hP9w) hltW (by assumption), kd (b10x _ hP9w) hltW (by assumption)⟩)
              clear hK K hHeld
              have hHeld := hHeld2
              clear hHeld2
              try simp only [Act.put]
              (refine wpAnyH_take (i := 11) (oi := { dst := some 10, op := Go.Op.assign (Go.Operand.tmp 48), type := 33, pos := _, after := _, guard := none }) (v := ?_) rfl (by kernel_rfl) (by kernel_rfl) (by kernel_rfl) (fun _ _ _ h => h) (Or.inl ⟨by rfl, ?_⟩) (by assumption) ?_; rotate_left; (intro w hSw; (try dsimp only at hSw); go_simp; try with_reducible rfl); try simp only [Act.put, List.setIfInBounds_toArray, List.set_cons_zero, List.set_cons_succ])
              refine wpAnyH_done (by kernel_rfl) ?_ _
              go_wp2_with fail
              go_meet
              exact ⟨P9, rfl, rfl, hP10, And.left hHeld⟩
            · rw [if_pos (by rfl)]
              refine wp_alloc49 rfl ?_
              intro w9x P9 hP9 hP9b b9x
              have hP9w : wl.heap.size ≤ P9 := Nat.le_trans (Below.size (And.left hHeld)) hP9b
              have hI4 := hI4.keep b9x (Nat.le_refl _)
              refine hK.out _ _ ?_ (fun hHeld2 => ?_)
              · (go_split_ands; exact ⟨Below.trans (by assumption) (b9x.mono (Below.size (by assumption))), kc b9x (by assumption), kc b9x (by assumption), kc b9x (by assumption), kc b9x (by assumption), kc b9x (by assumption), kc b9x (by assumption), kc b9x (by assumption), kc b9x (by assumption), kc b9x (by assumption), kc b9x (by assumption), kc b9x (by assumption), kc b9x (by assumption), kc b9x (by assumption), kc b9x (by assumption), kc b9x (by assumption), kc b9x (by assumption)⟩)
              clear hK K hHeld
              have hHeld := hHeld2
              clear hHeld2
              try simp only [Act.put, List.setIfInBounds_toArray, List.set_cons_zero, List.set_cons_succ]
              refine wpAnyH_ready (rs := [5]) (by kernel_rfl) (by simp) ?_
              refine AllReadyH.cons (o := { dst := some 46, op := Go.Op.call { callee := Go.Callee.value (Go.Operand.func 31), args := #[Go.Operand.tmp 41, Go.Operand.tmp 42, Go.Operand.tmp 45], argTypes := #[45, 43, 46] }, type := 50, pos := _, after := _, guard := none }) rfl (fun K hK => ?_) AllReadyH.nil
              go_simp
              refine (HOF.out A4x c4x _ (HCr.out.keep (And.left hHeld) (Nat.le_refl _)) hI4 hn4x).mono ?_
              rintro e w5x ⟨rfl, b5x⟩
              go_wp2_with fail
              have hP9 := hP9.keep b5x
              refine hK.out _ _ ?_ (fun hHeld2 => ?_)
              · (go_split_ands; exact ⟨Below.trans (by assumption) (b5x.mono (Below.size (by assumption))), kc b5x (by assumption), kc b5x (by assumption), kc b5x (by assumption), kc b5x (by assumption), kc b5x (by assumption), kc b5x (by assumption), kc b5x (by assumption), kc b5x (by assumption), kc b5x (by assumption), kc b5x (by assumption), kc b5x (by assumption), kc b5x (by assumption), kc b5x (by assumption), kc b5x (by assumption), kc b5x (by assumption), kc b5x (by assumption)⟩)
              clear hK K hHeld
              have hHeld := hHeld2
              clear hHeld2
              try simp only [Act.put, List.setIfInBounds_toArray, List.set_cons_zero, List.set_cons_succ]
              (refine wpAnyH_take (i := 6) (oi := { dst := some 40, op := Go.Op.move (Go.Operand.tmp 46), type := 50, pos := _, after := _, guard := none }) (v := ?_) rfl (by kernel_rfl) (by kernel_rfl) (by kernel_rfl) (fun _ _ _ h => h) (Or.inl ⟨by rfl, ?_⟩) (by assumption) ?_; rotate_left; (intro w hSw; (try dsimp only at hSw); go_simp; try with_reducible rfl); try simp only [Act.put, List.setIfInBounds_toArray, List.set_cons_zero, List.set_cons_succ])
              (refine wpAnyH_take (i := 7) (oi := { dst := some 47, op := Go.Op.extract (Go.Operand.tmp 40) 0, type := 49, pos := _, after := _, guard := none }) (v := ?_) rfl (by kernel_rfl) (by kernel_rfl) (by kernel_rfl) (fun _ _ _ h => h) (Or.inl ⟨by rfl, ?_⟩) (by assumption) ?_; rotate_left; (intro w hSw; (try dsimp only at hSw); go_simp; try with_reducible rfl); try simp only [Act.put, List.setIfInBounds_toArray, List.set_cons_zero, List.set_cons_succ])
              (refine wpAnyH_take (i := 8) (oi := { dst := some 48, op := Go.Op.extract (Go.Operand.tmp 40) 1, type := 33, pos := _, after := _, guard := none }) (v := ?_) rfl (by kernel_rfl) (by kernel_rfl) (by kernel_rfl) (fun _ _ _ h => h) (Or.inl ⟨by rfl, ?_⟩) (by assumption) ?_; rotate_left; (intro w hSw; (try dsimp only at hSw); go_simp; try with_reducible rfl); try simp only [Act.put, List.setIfInBounds_toArray, List.set_cons_zero, List.set_cons_succ])
              refine wpAnyH_ready (rs := [10]) (by kernel_rfl) (by simp) ?_
              refine AllReadyH.cons (o := { dst := none, op := Go.Op.store 49 (Go.Operand.tmp 9) (Go.Operand.tmp 47), type := 0, pos := _, after := _, guard := none }) rfl (fun K hK => ?_) AllReadyH.nil
              rw [if_pos (by rfl)]
              refine wp_store49 _ _ rfl P9 0 ⟨#[]⟩ W I rfl rfl hP9 ?_
              intro w10x hP10 b10x
              refine hK.out _ _ ?_ (fun hHeld2 => ?_)
              · (go_split_ands; exact ⟨Below.trans (by assumption) (b10x _ hP9w), kd (b10x _ hP9w) hltW (by assumption), kd (b10x _ hP9w) hltW (by assumption), kd (b10x _ hP9w) hltW (by assumption), kd (b10x _ hP9w) hltW (by assumption), kd (b10x _ hP9w) hltW (by assumption), kd (b10x _ hP9w) hltW (by assumption), kd (b10x _ hP9w) hltW (by assumption), kd (b10x _ hP9w) hltW (by assumption), kd (b10x _ hP9w) hltW (by assumption), kd (b10x _ hP9w) hltW (by assumption), kd (b10x _ hP9w) hltW (by assumption), kd (b10x _ hP9w) hltW (by assumption), kd (b10x _ hP9w) hltW (by assumption), kd (b10x _ hP9w) hltW (by assumption), kd (b10x _ hP9w) hltW (by assumption), kd (b10x _ hP9w) hltW (by assumption)⟩)
              clear hK K hHeld
              have hHeld := hHeld2
              clear hHeld2
              try simp only [Act.put]
              (refine wpAnyH_take (i := 11) (oi := { dst := some 10, op := Go.Op.assign (Go.Operand.tmp 48), type := 33, pos := _, after := _, guard := none }) (v := ?_) rfl (by kernel_rfl) (by kernel_rfl) (by kernel_rfl) (fun _ _ _ h => h) (Or.inl ⟨by rfl, ?_⟩) (by assumption) ?_; rotate_left; (intro w hSw; (try dsimp only at hSw); go_simp; try with_reducible rfl); try simp only [Act.put, List.setIfInBounds_toArray, List.set_cons_zero, List.set_cons_succ])
              refine wpAnyH_done (by kernel_rfl) ?_ _
              go_wp2_with fail
              go_meet
              exact ⟨P9, rfl, rfl, hP10, And.left hHeld⟩
          · rw [if_pos (by rfl)]
            refine wp_alloc49 rfl ?_
            intro w9x P9 hP9 hP9b b9x
            have hP9w : wl.heap.size ≤ P9 := Nat.le_trans (Below.size (And.left hHeld)) hP9b
            refine hK.out _ _ ?_ (fun hHeld2 => ?_)
            · (go_split_ands; exact ⟨Below.trans (by assumption) (b9x.mono (Below.size (by assumption))), kc b9x (by assumption), kc b9x (by assumption), kc b9x (by assumption), kc b9x (by assumption), kc b9x (by assumption), kc b9x (by assumption), kc b9x (by assumption), kc b9x (by assumption), kc b9x (by assumption), kc b9x (by assumption), kc b9x (by assumption), kc b9x (by assumption), kc b9x (by assumption), kc b9x (by assumption), kc b9x (by assumption), kc b9x (by assumption)⟩)
            clear hK K hHeld
            have hHeld := hHeld2
            clear hHeld2
            try simp only [Act.put, List.setIfInBounds_toArray, List.set_cons_zero, List.set_cons_succ]
            refine wpAnyH_ready (rs := [4]) (by kernel_rfl) (by simp) ?_
            refine AllReadyH.cons (o := { dst := some 45, op := Go.Op.call { callee := Go.Callee.builtin Go.Builtin.append, args := #[Go.Operand.tmp 43, Go.Operand.tmp 44], argTypes := #[46, 46] }, type := 46, pos := _, after := _, guard := none }) rfl (fun K hK => ?_) AllReadyH.nil
            rw [if_pos (by rfl)]
            refine wp_app_idxs _ _ rfl _ _ 0 [] rfl (Fresh.empty _ _ _ _ _) (Nat.le_refl _) A a l rfl HNA.out (HAr.out.keep (And.left hHeld) (Nat.le_refl _)) (by omega) ?_
            intro v4x w4x hF4 b4x _
            rw [Nat.zero_add, List.nil_append] at hF4
            obtain ⟨A4x, c4x, rfl, hn4x⟩ := hF4.slice
            have hI4 := Fresh.rd (l := l) (c := c4x) Idx.cells_len (by decide) hF4
            have hP9 := hP9.keep b4x
            refine hK.out _ _ ?_ (fun hHeld2 => ?_)
            · (go_split_ands; exact ⟨Below.trans (by assumption) (b4x.mono (Below.size (by assumption))), kc b4x (by assumption), kc b4x (by assumption), kc b4x (by assumption), kc b4x (by assumption), kc b4x (by assumption), kc b4x (by assumption), kc b4x (by assumption), kc b4x (by assumption), kc b4x (by assumption), kc b4x (by assumption), kc b4x (by assumption), kc b4x (by assumption), kc b4x (by assumption), kc b4x (by assumption), kc b4x (by assumption), kc b4x (by assumption)⟩)
            clear hK K hHeld
            have hHeld := hHeld2
            clear hHeld2
            try simp only [Act.put, List.setIfInBounds_toArray, List.set_cons_zero, List.set_cons_succ]
            refine wpAnyH_ready (rs := [5]) (by kernel_rfl) (by simp) ?_
            refine AllReadyH.cons (o := { dst := some 46, op := Go.Op.call { callee := Go.Callee.value (Go.Operand.func 31), args := #[Go.Operand.tmp 41, Go.Operand.tmp 42, Go.Operand.tmp 45], argTypes := #[45, 43, 46] }, type := 50, pos := _, after := _, guard := none }) rfl (fun K hK => ?_) AllReadyH.nil
            go_simp
            refine (HOF.out A4x c4x _ (HCr.out.keep (And.left hHeld) (Nat.le_refl _)) hI4 hn4x).mono ?_
            rintro e w5x ⟨rfl, b5x⟩
            go_wp2_with fail
            have hP9 := hP9.keep b5x
            refine hK.out _ _ ?_ (fun hHeld2 => ?_)
            · (go_split_ands; exact ⟨Below.trans (by assumption) (b5x.mono (Below.size (by assumption))), kc b5x (by assumption), kc b5x (by assumption), kc b5x (by assumption), kc b5x (by assumption), kc b5x (by assumption), kc b5x (by assumption), kc b5x (by assumption), kc b5x (by assumption), kc b5x (by assumption), kc b5x (by assumption), kc b5x (by assumption), kc b5x (by assumption), kc b5x (by assumption), kc b5x (by assumption), kc b5x (by assumption), kc b5x (by assumption)⟩)
            clear hK K hHeld
            have hHeld := hHeld2
            clear hHeld2
            try simp only [Act.put, List.setIfInBounds_toArray, List.set_cons_zero, List.set_cons_succ]
            (refine wpAnyH_take (i := 6) (oi := { dst := some 40, op := Go.Op.move (Go.Operand.tmp 46), type := 50, pos := _, after := _, guard := none }) (v := ?_) rfl (by kernel_rfl) (by kernel_rfl) (by kernel_rfl) (fun _ _ _ h => h) (Or.inl ⟨by rfl, ?_⟩) (by assumption) ?_; rotate_left; (intro w hSw; (try dsimp only at hSw); go_simp; try with_reducible rfl); try simp only [Act.put, List.setIfInBounds_toArray, List.set_cons_zero, List.set_cons_succ])
            (refine wpAnyH_take (i := 7) (oi := { dst := some 47, op := Go.Op.extract (Go.Operand.tmp 40) 0, type := 49, pos := _, after := _, guard := none }) (v := ?_) rfl (by kernel_rfl) (by kernel_rfl) (by kernel_rfl) (fun _ _ _ h => h) (Or.inl ⟨by rfl, ?_⟩) (by assumption) ?_; rotate_left; (intro w hSw; (try dsimp only at hSw); go_simp; try with_reducible rfl); try simp only [Act.put, List.setIfInBounds_toArray, List.set_cons_zero, List.set_cons_succ])
            (refine wpAnyH_take (i := 8) (oi := { dst := some 48, op := Go.Op.extract (Go.Operand.tmp 40) 1, type := 33, pos := _, after := _, guard := none }) (v := ?_) rfl (by kernel_rfl) (by kernel_rfl) (by kernel_rfl) (fun _ _ _ h => h) (Or.inl ⟨by rfl, ?_⟩) (by assumption) ?_; rotate_left; (intro w hSw; (try dsimp only at hSw); go_simp; try with_reducible rfl); try simp only [Act.put, List.setIfInBounds_toArray, List.set_cons_zero, List.set_cons_succ])
            refine wpAnyH_ready (rs := [10]) (by kernel_rfl) (by simp) ?_
            refine AllReadyH.cons (o := { dst := none, op := Go.Op.store 49 (Go.Operand.tmp 9) (Go.Operand.tmp 47), type := 0, pos := _, after := _, guard := none }) rfl (fun K hK => ?_) AllReadyH.nil
            rw [if_pos (by rfl)]
            refine wp_store49 _ _ rfl P9 0 ⟨#[]⟩ W I rfl rfl hP9 ?_
            intro w10x hP10 b10x
            refine hK.out _ _ ?_ (fun hHeld2 => ?_)
            · (go_split_ands; exact ⟨Below.trans (by assumption) (b10x _ hP9w), kd (b10x _ hP9w) hltW (by assumption), kd (b10x _ hP9w) hltW (by assumption), kd (b10x _ hP9w) hltW (by assumption), kd (b10x _ hP9w) hltW (by assumption), kd (b10x _ hP9w) hltW (by assumption), kd (b10x _ hP9w) hltW (by assumption), kd (b10x _ hP9w) hltW (by assumption), kd (b10x _ hP9w) hltW (by assumption), kd (b10x _ hP9w) hltW (by assumption), kd (b10x _ hP9w) hltW (by assumption), kd (b10x _ hP9w) hltW (by assumption), kd (b10x _ hP9w) hltW (by assumption), kd (b10x _ hP9w) hltW (by assumption), kd (b10x _ hP9w) hltW (by assumption), kd (b10x _ hP9w) hltW (by assumption), kd (b10x _ hP9w) hltW (by assumption)⟩)
            clear hK K hHeld
            have hHeld := hHeld2
            clear hHeld2
            try simp only [Act.put]
            (refine wpAnyH_take (i := 11) (oi := { dst := some 10, op := Go.Op.assign (Go.Operand.tmp 48), type := 33, pos := _, after := _, guard := none }) (v := ?_) rfl (by kernel_rfl) (by kernel_rfl) (by kernel_rfl) (fun _ _ _ h => h) (Or.inl ⟨by rfl, ?_⟩) (by assumption) ?_; rotate_left; (intro w hSw; (try dsimp only at hSw); go_simp; try with_reducible rfl); try simp only [Act.put, List.setIfInBounds_toArray, List.set_cons_zero, List.set_cons_succ])
            refine wpAnyH_done (by kernel_rfl) ?_ _
            go_wp2_with fail
            go_meet
            exact ⟨P9, rfl, rfl, hP10, And.left hHeld⟩
        · rw [if_pos (by rfl)]
          refine wp_alloc49 rfl ?_
          intro w9x P9 hP9 hP9b b9x
          have hP9w : wl.heap.size ≤ P9 := Nat.le_trans (Below.size (And.left hHeld)) hP9b
          refine hK.out _ _ ?_ (fun hHeld2 => ?_)
          · (go_split_ands; exact ⟨Below.trans (by assumption) (b9x.mono (Below.size (by assumption))), kc b9x (by assumption), kc b9x (by assumption), kc b9x (by assumption), kc b9x (by assumption), kc b9x (by assumption), kc b9x (by assumption), kc b9x (by assumption), kc b9x (by assumption), kc b9x (by assumption), kc b9x (by assumption), kc b9x (by assumption), kc b9x (by assumption), kc b9x (by assumption), kc b9x (by assumption), kc b9x (by assumption), kc b9x (by assumption)⟩)
          clear hK K hHeld
          have hHeld := hHeld2
          clear hHeld2
          try simp only [Act.put, List.setIfInBounds_toArray, List.set_cons_zero, List.set_cons_succ]
          refine wpAnyH_ready (rs := [2]) (by kernel_rfl) (by simp) ?_
          refine AllReadyH.cons (o := { dst := some 43, op := Go.Op.buildSlice 46 0 #[], type := 46, pos := _, after := _, guard := none }) rfl (fun K hK => ?_) AllReadyH.nil
          rw [if_pos (by rfl)]
          refine wp_build46 rfl ?_
          intro w2x bE b2x
          have hP9 := hP9.keep b2x
          refine hK.out _ _ ?_ (fun hHeld2 => ?_)
          · (go_split_ands; exact ⟨Below.trans (by assumption) (b2x.mono (Below.size (by assumption))), kc b2x (by assumption), kc b2x (by assumption), kc b2x (by assumption), kc b2x (by assumption), kc b2x (by assumption), kc b2x (by assumption), kc b2x (by assumption), kc b2x (by assumption), kc b2x (by assumption), kc b2x (by assumption), kc b2x (by assumption), kc b2x (by assumption), kc b2x (by assumption), kc b2x (by assumption), kc b2x (by assumption), kc b2x (by assumption)⟩)
          clear hK K hHeld
          have hHeld := hHeld2
          clear hHeld2
          try simp only [Act.put, List.setIfInBounds_toArray, List.set_cons_zero, List.set_cons_succ]
          refine wpAnyH_ready (rs := [4]) (by kernel_rfl) (by simp) ?_
          refine AllReadyH.cons (o := { dst := some 45, op := Go.Op.call { callee := Go.Callee.builtin Go.Builtin.append, args := #[Go.Operand.tmp 43, Go.Operand.tmp 44], argTypes := #[46, 46] }, type := 46, pos := _, after := _, guard := none }) rfl (fun K hK => ?_) AllReadyH.nil
          rw [if_pos (by rfl)]
          refine wp_app_idxs _ _ rfl _ _ 0 [] rfl (Fresh.empty _ _ _ _ _) (Nat.le_refl _) A a l rfl HNA.out (HAr.out.keep (And.left hHeld) (Nat.le_refl _)) (by omega) ?_
          intro v4x w4x hF4 b4x _
          rw [Nat.zero_add, List.nil_append] at hF4
          obtain ⟨A4x, c4x, rfl, hn4x⟩ := hF4.slice
          have hI4 := Fresh.rd (l := l) (c := c4x) Idx.cells_len (by decide) hF4
          have hP9 := hP9.keep b4x
          refine hK.out _ _ ?_ (fun hHeld2 => ?_)
          · (go_split_ands; exact ⟨Below.trans (by assumption) (b4x.mono (Below.size (by assumption))), kc b4x (by assumption), kc b4x (by assumption), kc b4x (by assumption), kc b4x (by assumption), kc b4x (by assumption), kc b4x (by assumption), kc b4x (by assumption), kc b4x (by assumption), kc b4x (by assumption), kc b4x (by assumption), kc b4x (by assumption), kc b4x (by assumption), kc b4x (by assumption), kc b4x (by assumption), kc b4x (by assumption), kc b4x (by assumption)⟩)
          clear hK K hHeld
          have hHeld := hHeld2
          clear hHeld2
          try simp only [Act.put, List.setIfInBounds_toArray, List.set_cons_zero, List.set_cons_succ]
          refine wpAnyH_ready (rs := [5]) (by kernel_rfl) (by simp) ?_
          refine AllReadyH.cons (o := { dst := some 46, op := Go.Op.call { callee := Go.Callee.value (Go.Operand.func 31), args := #[Go.Operand.tmp 41, Go.Operand.tmp 42, Go.Operand.tmp 45], argTypes := #[45, 43, 46] }, type := 50, pos := _, after := _, guard := none }) rfl (fun K hK => ?_) AllReadyH.nil
          go_simp
          refine (HOF.out A4x c4x _ (HCr.out.keep (And.left hHeld) (Nat.le_refl _)) hI4 hn4x).mono ?_
          rintro e w5x ⟨rfl, b5x⟩
          go_wp2_with fail
          have hP9 := hP9.keep b5x
          refine hK.out _ _ ?_ (fun hHeld2 => ?_)
          · (go_split_ands; exact ⟨Below.trans (by assumption) (b5x.mono (Below.size (by assumption))), kc b5x (by assumption), kc b5x (by assumption), kc b5x (by assumption), kc b5x (by assumption), kc b5x (by assumption), kc b5x (by assumption), kc b5x (by assumption), kc b5x (by assumption), kc b5x (by assumption), kc b5x (by assumption), kc b5x (by assumption), kc b5x (by assumption), kc b5x (by assumption), kc b5x (by assumption), kc b5x (by assumption), kc b5x (by assumption)⟩)
          clear hK K hHeld
          have hHeld := hHeld2
          clear hHeld2
          try simp only [Act.put, List.setIfInBounds_toArray, List.set_cons_zero, List.set_cons_succ]
          (refine wpAnyH_take (i := 6) (oi := { dst := some 40, op := Go.Op.move (Go.Operand.tmp 46), type := 50, pos := _, after := _, guard := none }) (v := ?_) rfl (by kernel_rfl) (by kernel_rfl) (by kernel_rfl) (fun _ _ _ h => h) (Or.inl ⟨by rfl, ?_⟩) (by assumption) ?_; rotate_left; (intro w hSw; (try dsimp only at hSw); go_simp; try with_reducible rfl); try simp only [Act.put, List.setIfInBounds_toArray, List.set_cons_zero, List.set_cons_succ])
          (refine wpAnyH_take (i := 7) (oi := { dst := some 47, op := Go.Op.extract (Go.Operand.tmp 40) 0, type := 49, pos := _, after := _, guard := none }) (v := ?_) rfl (by kernel_rfl) (by kernel_rfl) (by kernel_rfl) (fun _ _ _ h => h) (Or.inl ⟨by rfl, ?_⟩) (by assumption) ?_; rotate_left; (intro w hSw; (try dsimp only at hSw); go_simp; try with_reducible rfl); try simp only [Act.put, List.setIfInBounds_toArray, List.set_cons_zero, List.set_cons_succ])
          (refine wpAnyH_take (i := 8) (oi := { dst := some 48, op := Go.Op.extract (Go.Operand.tmp 40) 1, type := 33, pos := _, after := _, guard := none }) (v := ?_) rfl (by kernel_rfl) (by kernel_rfl) (by kernel_rfl) (fun _ _ _ h => h) (Or.inl ⟨by rfl, ?_⟩) (by assumption) ?_; rotate_left; (intro w hSw; (try dsimp only at hSw); go_simp; try with_reducible rfl); try simp only [Act.put, List.setIfInBounds_toArray, List.set_cons_zero, List.set_cons_succ])
          refine wpAnyH_ready (rs := [10]) (by kernel_rfl) (by simp) ?_
          refine AllReadyH.cons (o := { dst := none, op := Go.Op.store 49 (Go.Operand.tmp 9) (Go.Operand.tmp 47), type := 0, pos := _, after := _, guard := none }) rfl (fun K hK => ?_) AllReadyH.nil
          rw [if_pos (by rfl)]
          refine wp_store49 _ _ rfl P9 0 ⟨#[]⟩ W I rfl rfl hP9 ?_
          intro w10x hP10 b10x
          refine hK.out _ _ ?_ (fun hHeld2 => ?_)
          · (go_split_ands; exact ⟨Below.trans (by assumption) (b10x _ hP9w), kd (b10x _ hP9w) hltW (by assumption), kd (b10x _ hP9w) hltW (by assumption), kd (b10x _ hP9w) hltW (by assumption), kd (b10x _ hP9w) hltW (by assumption), kd (b10x _ hP9w) hltW (by assumption), kd (b10x _ hP9w) hltW (by assumption), kd (b10x _ hP9w) hltW (by assumption), kd (b10x _ hP9w) hltW (by assumption), kd (b10x _ hP9w) hltW (by assumption), kd (b10x _ hP9w) hltW (by assumption), kd (b10x _ hP9w) hltW (by assumption), kd (b10x _ hP9w) hltW (by assumption), kd (b10x _ hP9w) hltW (by assumption), kd (b10x _ hP9w) hltW (by assumption), kd (b10x _ hP9w) hltW (by assumption), kd (b10x _ hP9w) hltW (by assumption)⟩)
          clear hK K hHeld
          have hHeld := hHeld2
          clear hHeld2
          try simp only [Act.put]
          (refine wpAnyH_take (i := 11) (oi := { dst := some 10, op := Go.Op.assign (Go.Operand.tmp 48), type := 33, pos := _, after := _, guard := none }) (v := ?_) rfl (by kernel_rfl) (by kernel_rfl) (by kernel_rfl) (fun _ _ _ h => h) (Or.inl ⟨by rfl, ?_⟩) (by assumption) ?_; rotate_left; (intro w hSw; (try dsimp only at hSw); go_simp; try with_reducible rfl); try simp only [Act.put, List.setIfInBounds_toArray, List.set_cons_zero, List.set_cons_succ])
          refine wpAnyH_done (by kernel_rfl) ?_ _
          go_wp2_with fail
          go_meet
          exact ⟨P9, rfl, rfl, hP10, And.left hHeld⟩
      case rest =>
        obtain ⟨P9, rfl, rfl, hP, hbc⟩ := hcut
        have hkc := kr.trans (hbc.mono kr.size)
        have HBc := Lib.hid (HBr.out.keep hbc)
        have HCc := Lib.hid (HCr.out.keep hbc (Nat.le_refl _))
        have HAc := Lib.hid (HAr.out.keep hbc (Nat.le_refl _))
        have HPc := Lib.hid hP
        have HKc := Lib.hid (HK.out.keep hbc (Nat.le_refl _))
        clear hP hbc kr HBr HCr HAr HK f0 f1 f2 f3 f4 f5 f6 f7 f8 f9 f10 f11 f12 f13 f14 f15
        have f0 := (HBc.out 0 _ rfl).1
        have f1 := (HBc.out 1 _ rfl).1
        have f2 := (HBc.out 2 _ rfl).1
        have f3 := (HBc.out 3 _ rfl).1
        have f4 := (HBc.out 4 _ rfl).1
        have f5 := (HBc.out 5 _ rfl).1
        have f6 := (HBc.out 6 _ rfl).1
        have f7 := (HBc.out 7 _ rfl).1
        have f8 := (HBc.out 8 _ rfl).1
        have f9 := (HBc.out 9 _ rfl).1
        have f10 := (HBc.out 10 _ rfl).1
        have f11 := (HBc.out 11 _ rfl).1
        have f12 := (HBc.out 12 _ rfl).1
        have f13 := (HBc.out 13 _ rfl).1
        have f14 := (HBc.out 14 _ rfl).1
        have f15 := (HBc.out 15 _ rfl).1
        go_wp2_with fail
        refine (HOR.out _ HCc.out HKc.out HN7.out).mono ?_
        rintro e w6 ⟨rfl, b6⟩
        have k6 := hkc.trans (b6.mono hkc.size)
        have hltWc : w.heap.size < wc.heap.size := World.block_lt_of_cell? _ _ f0
        have hltW6 : w.heap.size < w6.heap.size := Nat.lt_of_lt_of_le hltWc b6.size
        have hp6 := HPc.out.keep b6
        have a6 : Below w6.heap.size w6 (w6.alloc (.cells #[.int .i64 W, .string I] 49)) := (Below.refl _ _).alloc (Nat.le_refl _) _
        have k7 := k6.trans (a6.mono k6.size)
        have b67 := below_trans b6 a6
        have HP7 := Lib.hid (hp6.keep a6)
        have HB7 := Lib.hid (HBc.out.keep b67)
        have HC7 := Lib.hid (HCc.out.keep b67 (Nat.le_refl _))
        have HA7 := Lib.hid (HAc.out.keep b67 (Nat.le_refl _))
        obtain ⟨g0, g1, _, _⟩ := hp6
        have hP9lt : P9 < w6.heap.size := World.block_lt_of_cell? _ _ g0
        have hs1 : (W == W) = true := beq_self_eq_true _
        have hs2 : (I.toList == I.toList) = true := beq_self_eq_true _
        have hneq := fun w => neq49 W I w hs1 hs2
        have hs3 : (E == E) = true := beq_self_eq_true _
        have hs4 : (E != E) = false := by rw [bne, hs3]; rfl
        clear hkc b6 a6 b67 k6 HBc HCc HAc HPc HKc HOR f0 f1 f2 f3 f4 f5 f6 f7 f8 f9 f10 f11 f12 f13 f14 f15
        go_wp2_with fail
        have HOT2 := Lib.hid HOT.out
        go_loopw [13] (fun i wr => ∃ k : Nat, k ≤ l.length ∧ i = .int .i64 k ∧ Below (w6.alloc (.cells #[.int .i64 W, .string I] 49)).heap.size (w6.alloc (.cells #[.int .i64 W, .string I] 49)) wr) (fun i _ => l.length - (intOf i).toNat)
        case atStart => exact ⟨0, by omega, rfl, Below.refl _ _⟩
        case round =>
          obtain ⟨k, hk, rfl, hbr⟩ := hrel
          by_cases hlt : k < l.length
          · obtain ⟨ad, rfl⟩ := RdL.some HA7.out k hlt
            have hw1 : IntKind.i64.wrap ((k : Int) + 1) = (k : Int) + 1 := by rw [IntKind.wrap_i64]; omega
            have hka : (k : Int) ≤ (a : Int) := by omega
            have HAk := Lib.hid (RdI.take (HA7.out.keep hbr (Nat.le_refl _)) k)
            have HCk := Lib.hid (HC7.out.keep hbr (Nat.le_refl _))
            have HBk := Lib.hid (HB7.out.keep hbr)
            have HPk := Lib.hid (HP7.out.keep hbr)
            have HTL : Hid ((l.take k).length = k) := Lib.hid (by rw [List.length_take]; omega)
            have HOTk := Lib.hid (HOT2.out k)
            have hcl4 := HCL.out k
            generalize ofW s cols (l.take k) = Wt at *
            generalize ofI s cols (l.take k) = It at *
            generalize l.take k = lk at *
            obtain rfl : lk.length = k := HTL.out
            have f0 := (HBk.out 0 _ rfl).1
            have f1 := (HBk.out 1 _ rfl).1
            have f2 := (HBk.out 2 _ rfl).1
            have f3 := (HBk.out 3 _ rfl).1
            have f4 := (HBk.out 4 _ rfl).1
            have f5 := (HBk.out 5 _ rfl).1
            have f6 := (HBk.out 6 _ rfl).1
            have f7 := (HBk.out 7 _ rfl).1
            have f8 := (HBk.out 8 _ rfl).1
            have f9 := (HBk.out 9 _ rfl).1
            have f10 := (HBk.out 10 _ rfl).1
            have f11 := (HBk.out 11 _ rfl).1
            have f12 := (HBk.out 12 _ rfl).1
            have f13 := (HBk.out 13 _ rfl).1
            have f14 := (HBk.out 14 _ rfl).1
            have f15 := (HBk.out 15 _ rfl).1
            have hltW : w.heap.size < wr.heap.size := World.block_lt_of_cell? _ _ f0
            obtain ⟨wR, hwR⟩ : ∃ wR : World, wR = wr := ⟨_, rfl⟩
            subst hwR
            go_upto_region 15 with (fail)
            go_cut [14, 15] (fun p e wx => ∃ P9 : Nat, p = .pointer (some ⟨P9, 0, none⟩) ∧ e = .int .i64 E ∧ RdP wx P9 Wt It ∧ Below wR.heap.size wR wx)
            case first => as_aux_lemma =>
              refine wp_region_held_drew (S := (fun w' => Below wR.heap.size wR w' ∧ w'.cell? ⟨w.heap.size, 0, none⟩ = some (.int .i64 s.kind) ∧ w'.cell? ⟨w.heap.size, 1, none⟩ = some (.string s.tab) ∧ w'.cell? ⟨w.heap.size, 2, none⟩ = some (.string s.nam) ∧ w'.cell? ⟨w.heap.size, 3, none⟩ = some (.string s.col) ∧ w'.cell? ⟨w.heap.size, 4, none⟩ = some (.string s.set) ∧ w'.cell? ⟨w.heap.size, 5, none⟩ = some (.int .i64 s.v.kind) ∧ w'.cell? ⟨w.heap.size, 6, none⟩ = some (.int .i64 s.v.n) ∧ w'.cell? ⟨w.heap.size, 7, none⟩ = some (.float .f64 s.v.f) ∧ w'.cell? ⟨w.heap.size, 8, none⟩ = some (.string s.v.s) ∧ w'.cell? ⟨w.heap.size, 9, none⟩ = some (.int .i64 s.w.kind) ∧ w'.cell? ⟨w.heap.size, 10, none⟩ = some (.int .i64 s.w.n) ∧ w'.cell? ⟨w.heap.size, 11, none⟩ = some (.float .f64 s.w.f) ∧ w'.cell? ⟨w.heap.size, 12, none⟩ = some (.string s.w.s) ∧ w'.cell? ⟨w.heap.size, 13, none⟩ = some (.slice s.rA s.rn s.rc) ∧ w'.cell? ⟨w.heap.size, 14, none⟩ = some (.slice s.cA s.cn s.cc) ∧ w'.cell? ⟨w.heap.size, 15, none⟩ = some (.bool s.flag))) (by kernel_rfl) (⟨(Below.refl _ _).drew, f0, f1, f2, f3, f4, f5, f6, f7, f8, f9, f10, f11, f12, f13, f14, f15⟩) (fun hHeld => ?_)
              (refine wpAnyH_take (i := 0) (oi := { dst := some 71, op := Go.Op.load 45 (Go.Operand.tmp 3), type := 45, pos := _, after := _, guard := none }) (v := ?_) rfl (by kernel_rfl) (by kernel_rfl) (by kernel_rfl) (fun _ _ _ h => h) (Or.inl ⟨by rfl, ?_⟩) (by assumption) ?_; rotate_left; (intro w hSw; (try dsimp only at hSw); go_simp; try with_reducible rfl); try simp only [Act.put, List.setIfInBounds_toArray, List.set_cons_zero, List.set_cons_succ])
              (refine wpAnyH_take (i := 1) (oi := { dst := some 72, op := Go.Op.move (Go.Operand.tmp 1), type := 43, pos := _, after := _, guard := none }) (v := ?_) rfl (by kernel_rfl) (by kernel_rfl) (by kernel_rfl) (fun _ _ _ h => h) (Or.inl ⟨by rfl, ?_⟩) (by assumption) ?_; rotate_left; (intro w hSw; (try dsimp only at hSw); go_simp; try with_reducible rfl); try simp only [Act.put, List.setIfInBounds_toArray, List.set_cons_zero, List.set_cons_succ])
              (refine wpAnyH_take (i := 3) (oi := { dst := some 74, op := Go.Op.move (Go.Operand.tmp 2), type := 46, pos := _, after := _, guard := none }) (v := ?_) rfl (by kernel_rfl) (by kernel_rfl) (by kernel_rfl) (fun _ _ _ h => h) (Or.inl ⟨by rfl, ?_⟩) (by assumption) ?_; rotate_left; (intro w hSw; (try dsimp only at hSw); go_simp; try with_reducible rfl); try simp only [Act.put, List.setIfInBounds_toArray, List.set_cons_zero, List.set_cons_succ])
              (refine wpAnyH_take (i := 4) (oi := { dst := some 75, op := Go.Op.move (Go.Operand.tmp 13), type := 3, pos := _, after := _, guard := none }) (v := ?_) rfl (by kernel_rfl) (by kernel_rfl) (by kernel_rfl) (fun _ _ _ h => h) (Or.inl ⟨by rfl, ?_⟩) (by assumption) ?_; rotate_left; (intro w hSw; (try dsimp only at hSw); go_simp; try with_reducible rfl); try simp only [Act.put, List.setIfInBounds_toArray, List.set_cons_zero, List.set_cons_succ])
              (refine wpAnyH_take (i := 5) (oi := { dst := some 76, op := Go.Op.slice 46 (Go.Operand.tmp 74) none (some (Go.Operand.tmp 75)) none, type := 46, pos := _, after := _, guard := none }) (v := ?_) rfl (by kernel_rfl) (by kernel_rfl) (by kernel_rfl) (fun _ _ _ h => h) (Or.inl ⟨by rfl, ?_⟩) (by assumption) ?_; rotate_left; (intro w hSw; (try dsimp only at hSw); go_simp; try with_reducible rfl); try simp only [Act.put, List.setIfInBounds_toArray, List.set_cons_zero, List.set_cons_succ])
              refine wpAnyH_ready (rs := [2, 11]) (by kernel_rfl) (by simp) ?_
              refine (AllReadyH.cons (o := { dst := some 73, op := Go.Op.buildSlice 46 0 #[], type := 46, pos := _, after := _, guard := none }) rfl (fun K hK => ?_) (AllReadyH.cons (o := { dst := some 14, op := Go.Op.alloc 49, type := 0, pos := _, after := _, guard := none }) rfl (fun K hK => ?_) AllReadyH.nil))
              · rw [if_pos (by rfl)]
                refine wp_build46 rfl ?_
                intro w2x bE b2x
                refine hK.out _ _ ?_ (fun hHeld2 => ?_)
                · (go_split_ands; exact ⟨Below.trans (by assumption) (b2x.mono (Below.size (by assumption))), kc b2x (by assumption), kc b2x (by assumption), kc b2x (by assumption), kc b2x (by assumption), kc b2x (by assumption), kc b2x (by assumption), kc b2x (by assumption), kc b2x (by assumption), kc b2x (by assumption), kc b2x (by assumption), kc b2x (by assumption), kc b2x (by assumption), kc b2x (by assumption), kc b2x (by assumption), kc b2x (by assumption), kc b2x (by assumption)⟩)
                clear hK K hHeld
                have hHeld := hHeld2
                clear hHeld2
                try simp only [Act.put, List.setIfInBounds_toArray, List.set_cons_zero, List.set_cons_succ]
                refine wpAnyH_ready (rs := [6, 11]) (by kernel_rfl) (by simp) ?_
                refine (AllReadyH.cons (o := { dst := some 77, op := Go.Op.call { callee := Go.Callee.builtin Go.Builtin.append, args := #[Go.Operand.tmp 73, Go.Operand.tmp 76], argTypes := #[46, 46] }, type := 46, pos := _, after := _, guard := none }) rfl (fun K hK => ?_) (AllReadyH.cons (o := { dst := some 14, op := Go.Op.alloc 49, type := 0, pos := _, after := _, guard := none }) rfl (fun K hK => ?_) AllReadyH.nil))
                · rw [if_pos (by rfl)]
                  refine wp_app_idxs _ _ rfl _ _ 0 [] rfl (Fresh.empty _ _ _ _ _) (Nat.le_refl _) (some ad) a lk rfl (by simp) (HAk.out.keep (And.left hHeld) (Nat.le_refl _)) (by omega) ?_
                  intro v4x w4x hF4 b4x _
                  rw [Nat.zero_add, List.nil_append] at hF4
                  obtain ⟨A4x, c4x, rfl, hn4x⟩ := hF4.slice
                  have hI4 := Fresh.rd (l := lk) (c := c4x) Idx.cells_len (by decide) hF4
                  refine hK.out _ _ ?_ (fun hHeld2 => ?_)
                  · (go_split_ands; exact ⟨Below.trans (by assumption) (b4x.mono (Below.size (by assumption))), kc b4x (by assumption), kc b4x (by assumption), kc b4x (by assumption), kc b4x (by assumption), kc b4x (by assumption), kc b4x (by assumption), kc b4x (by assumption), kc b4x (by assumption), kc b4x (by assumption), kc b4x (by assumption), kc b4x (by assumption), kc b4x (by assumption), kc b4x (by assumption), kc b4x (by assumption), kc b4x (by assumption), kc b4x (by assumption)⟩)
                  clear hK K hHeld
                  have hHeld := hHeld2
                  clear hHeld2
                  try simp only [Act.put, List.setIfInBounds_toArray, List.set_cons_zero, List.set_cons_succ]
                  refine wpAnyH_ready (rs := [7, 11]) (by kernel_rfl) (by simp) ?_
                  refine (AllReadyH.cons (o := { dst := some 78, op := Go.Op.call { callee := Go.Callee.value (Go.Operand.func 31), args := #[Go.Operand.tmp 71, Go.Operand.tmp 72, Go.Operand.tmp 77], argTypes := #[45, 43, 46] }, type := 50, pos := _, after := _, guard := none }) rfl (fun K hK => ?_) (AllReadyH.cons (o := { dst := some 14, op := Go.Op.alloc 49, type := 0, pos := _, after := _, guard := none }) rfl (fun K hK => ?_) AllReadyH.nil))
                  · go_simp
                    refine (HOTk.out A4x c4x _ (HCk.out.keep (And.left hHeld) (Nat.le_refl _)) hI4 hn4x).mono ?_
                    rintro e w5x ⟨rfl, b5x⟩
                    go_wp2_with fail
                    refine hK.out _ _ ?_ (fun hHeld2 => ?_)
                    · (go_split_ands; exact ⟨Below.trans (by assumption) (b5x.mono (Below.size (by assumption))), kc b5x (by assumption), kc b5x (by assumption), kc b5x (by assumption), kc b5x (by assumption), kc b5x (by assumption), kc b5x (by assumption), kc b5x (by assumption), kc b5x (by assumption), kc b5x (by assumption), kc b5x (by assumption), kc b5x (by assumption), kc b5x (by assumption), kc b5x (by assumption), kc b5x (by assumption), kc b5x (by assumption), kc b5x (by assumption)⟩)
                    clear hK K hHeld
                    have hHeld := hHeld2
                    clear hHeld2
                    try simp only [Act.put, List.setIfInBounds_toArray, List.set_cons_zero, List.set_cons_succ]
                    (refine wpAnyH_take (i := 8) (oi := { dst := some 70, op := Go.Op.move (Go.Operand.tmp 78), type := 50, pos := _, after := _, guard := none }) (v := ?_) rfl (by kernel_rfl) (by kernel_rfl) (by kernel_rfl) (fun _ _ _ h => h) (Or.inl ⟨by rfl, ?_⟩) (by assumption) ?_; rotate_left; (intro w hSw; (try dsimp only at hSw); go_simp; try with_reducible rfl); try simp only [Act.put, List.setIfInBounds_toArray, List.set_cons_zero, List.set_cons_succ])
                    (refine wpAnyH_take (i := 9) (oi := { dst := some 79, op := Go.Op.extract (Go.Operand.tmp 70) 0, type := 49, pos := _, after := _, guard := none }) (v := ?_) rfl (by kernel_rfl) (by kernel_rfl) (by kernel_rfl) (fun _ _ _ h => h) (Or.inl ⟨by rfl, ?_⟩) (by assumption) ?_; rotate_left; (intro w hSw; (try dsimp only at hSw); go_simp; try with_reducible rfl); try simp only [Act.put, List.setIfInBounds_toArray, List.set_cons_zero, List.set_cons_succ])
                    (refine wpAnyH_take (i := 10) (oi := { dst := some 80, op := Go.Op.extract (Go.Operand.tmp 70) 1, type := 33, pos := _, after := _, guard := none }) (v := ?_) rfl (by kernel_rfl) (by kernel_rfl) (by kernel_rfl) (fun _ _ _ h => h) (Or.inl ⟨by rfl, ?_⟩) (by assumption) ?_; rotate_left; (intro w hSw; (try dsimp only at hSw); go_simp; try with_reducible rfl); try simp only [Act.put, List.setIfInBounds_toArray, List.set_cons_zero, List.set_cons_succ])
                    refine wpAnyH_ready (rs := [11]) (by kernel_rfl) (by simp) ?_
                    refine AllReadyH.cons (o := { dst := some 14, op := Go.Op.alloc 49, type := 0, pos := _, after := _, guard := none }) rfl (fun K hK => ?_) AllReadyH.nil
                    rw [if_pos (by rfl)]
                    refine wp_alloc49 rfl ?_
                    intro w9x P9 hP9 hP9b b9x
                    have hP9w : wR.heap.size ≤ P9 := Nat.le_trans (Below.size (And.left hHeld)) hP9b
                    refine hK.out _ _ ?_ (fun hHeld2 => ?_)
                    · (go_split_ands; exact ⟨Below.trans (by assumption) (b9x.mono (Below.size (by assumption))), kc b9x (by assumption), kc b9x (by assumption), kc b9x (by assumption), kc b9x (by assumption), kc b9x (by assumption), kc b9x (by assumption), kc b9x (by assumption), kc b9x (by assumption), kc b9x (by assumption), kc b9x (by assumption), kc b9x (by assumption), kc b9x (by assumption), kc b9x (by assumption), kc b9x (by assumption), kc b9x (by assumption), kc b9x (by assumption)⟩)
                    clear hK K hHeld
                    have hHeld := hHeld2
                    clear hHeld2
                    try simp only [Act.put, List.setIfInBounds_toArray, List.set_cons_zero, List.set_cons_succ]
                    refine wpAnyH_ready (rs := [12]) (by kernel_rfl) (by simp) ?_
                    refine AllReadyH.cons (o := { dst := none, op := Go.Op.store 49 (Go.Operand.tmp 14) (Go.Operand.tmp 79), type := 0, pos := _, after := _, guard := none }) rfl (fun K hK => ?_) AllReadyH.nil
                    rw [if_pos (by rfl)]
                    refine wp_store49 _ _ rfl P9 0 ⟨#[]⟩ Wt It rfl rfl hP9 ?_
                    intro w10x hP10 b10x
                    refine hK.out _ _ ?_ (fun hHeld2 => ?_)
                    · (go_split_ands; exact ⟨Below.trans (by assumption) (b10x _ hP9w), kd (b10x _ hP9w) hltW (by assumption), kd (b10x _ hP9w) hltW (by assumption), kd (b10x _ hP9w) hltW (by assumption), kd (b10x _ hP9w) hltW (by assumption), kd (b10x _ hP9w) hltW (by assumption), kd (b10x _ hP9w) hltW (by assumption), kd (b10x _ hP9w) hltW (by assumption), kd (b10x _ hP9w) hltW (by assumption), kd (b10x _ hP9w) hltW (by assumption), kd (b10x _ hP9w) hltW (by assumption), kd (b10x _ hP9w) hltW (by assumption), kd (b10x _ hP9w) hltW (by assumption), kd (b10x _ hP9w) hltW (by assumption), kd (b10x _ hP9w) hltW (by assumption), kd (b10x _ hP9w) hltW (by assumption), kd (b10x _ hP9w) hltW (by assumption)⟩)
                    clear hK K hHeld
                    have hHeld := hHeld2
                    clear hHeld2
                    try simp only [Act.put]
                    (refine wpAnyH_take (i := 13) (oi := { dst := some 15, op := Go.Op.assign (Go.Operand.tmp 80), type := 33, pos := _, after := _, guard := none }) (v := ?_) rfl (by kernel_rfl) (by kernel_rfl) (by kernel_rfl) (fun _ _ _ h => h) (Or.inl ⟨by rfl, ?_⟩) (by assumption) ?_; rotate_left; (intro w hSw; (try dsimp only at hSw); go_simp; try with_reducible rfl); try simp only [Act.put, List.setIfInBounds_toArray, List.set_cons_zero, List.set_cons_succ])
                    refine wpAnyH_done (by kernel_rfl) ?_ _
                    go_wp2_with fail
                    go_meet
                    exact ⟨P9, rfl, rfl, hP10, And.left hHeld⟩
                  · rw [if_pos (by rfl)]
                    refine wp_alloc49 rfl ?_
                    intro w9x P9 hP9 hP9b b9x
                    have hP9w : wR.heap.size ≤ P9 := Nat.le_trans (Below.size (And.left hHeld)) hP9b
                    have hI4 := hI4.keep b9x (Nat.le_refl _)
                    refine hK.out _ _ ?_ (fun hHeld2 => ?_)
                    · (go_split_ands; exact ⟨Below.trans (by assumption) (b9x.mono (Below.size (by assumption))), kc b9x (by assumption), kc b9x (by assumption), kc b9x (by assumption), kc b9x (by assumption), kc b9x (by assumption), kc b9x (by assumption), kc b9x (by assumption), kc b9x (by assumption), kc b9x (by assumption), kc b9x (by assumption), kc b9x (by assumption), kc b9x (by assumption), kc b9x (by assumption), kc b9x (by assumption), kc b9x (by assumption), kc b9x (by assumption)⟩)
                    clear hK K hHeld
                    have hHeld := hHeld2
                    clear hHeld2
                    try simp only [Act.put, List.setIfInBounds_toArray, List.set_cons_zero, List.set_cons_succ]
                    refine wpAnyH_ready (rs := [7]) (by kernel_rfl) (by simp) ?_
                    refine AllReadyH.cons (o := { dst := some 78, op := Go.Op.call { callee := Go.Callee.value (Go.Operand.func 31), args := #[Go.Operand.tmp 71, Go.Operand.tmp 72, Go.Operand.tmp 77], argTypes := #[45, 43, 46] }, type := 50, pos := _, after := _, guard := none }) rfl (fun K hK => ?_) AllReadyH.nil
                    go_simp
                    refine (HOTk.out A4x c4x _ (HCk.out.keep (And.left hHeld) (Nat.le_refl _)) hI4 hn4x).mono ?_
                    rintro e w5x ⟨rfl, b5x⟩
                    go_wp2_with fail
                    have hP9 := hP9.keep b5x
                    refine hK.out _ _ ?_ (fun hHeld2 => ?_)
                    · (go_split_ands; exact ⟨Below.trans (by assumption) (b5x.mono (Below.size (by assumption))), kc b5x (by assumption), kc b5x (by assumption), kc b5x (by assumption), kc b5x (by assumption), kc b5x (by assumption), kc b5x (by assumption), kc b5x (by assumption), kc b5x (by assumption), kc b5x (by assumption), kc b5x (by assumption), kc b5x (by assumption), kc b5x (by assumption), kc b5x (by assumption), kc b5x (by assumption), kc b5x (by assumption), kc b5x (by assumption)⟩)
                    clear hK K hHeld
                    have hHeld := hHeld2
                    clear hHeld2
                    try simp only [Act.put, List.setIfInBounds_toArray, List.set_cons_zero, List.set_cons_succ]
                    (refine wpAnyH_take (i := 8) (oi := { dst := some 70, op := Go.Op.move (Go.Operand.tmp 78), type := 50, pos := _, after := _, guard := none }) (v := ?_) rfl (by kernel_rfl) (by kernel_rfl) (by kernel_rfl) (fun _ _ _ h => h) (Or.inl ⟨by rfl, ?_⟩) (by assumption) ?_; rotate_left; (intro w hSw; (try dsimp only at hSw); go_simp; try with_reducible rfl); try simp only [Act.put, List.setIfInBounds_toArray, List.set_cons_zero, List.set_cons_succ])
                    (refine wpAnyH_take (i := 9) (oi := { dst := some 79, op := Go.Op.extract (Go.Operand.tmp 70) 0, type := 49, pos := _, after := _, guard := none }) (v := ?_) rfl (by kernel_rfl) (by kernel_rfl) (by kernel_rfl) (fun _ _ _ h => h) (Or.inl ⟨by rfl, ?_⟩) (by assumption) ?_; rotate_left; (intro w hSw; (try dsimp only at hSw); go_simp; try with_reducible rfl); try simp only [Act.put, List.setIfInBounds_toArray, List.set_cons_zero, List.set_cons_succ])
                    (refine wpAnyH_take (i := 10) (oi := { dst := some 80, op := Go.Op.extract (Go.Operand.tmp 70) 1, type := 33, pos := _, after := _, guard := none }) (v := ?_) rfl (by kernel_rfl) (by kernel_rfl) (by kernel_rfl) (fun _ _ _ h => h) (Or.inl ⟨by rfl, ?_⟩) (by assumption) ?_; rotate_left; (intro w hSw; (try dsimp only at hSw); go_simp; try with_reducible rfl); try simp only [Act.put, List.setIfInBounds_toArray, List.set_cons_zero, List.set_cons_succ])
                    refine wpAnyH_ready (rs := [12]) (by kernel_rfl) (by simp) ?_
                    refine AllReadyH.cons (o := { dst := none, op := Go.Op.store 49 (Go.Operand.tmp 14) (Go.Operand.tmp 79), type := 0, pos := _, after := _, guard := none }) rfl (fun K hK => ?_) AllReadyH.nil
                    rw [if_pos (by rfl)]
                    refine wp_store49 _ _ rfl P9 0 ⟨#[]⟩ Wt It rfl rfl hP9 ?_
                    intro w10x hP10 b10x
                    refine hK.out _ _ ?_ (fun hHeld2 => ?_)
                    · (go_split_ands; exact ⟨Below.trans (by assumption) (b10x _ hP9w), kd (b10x _ hP9w) hltW (by assumption), kd (b10x _ hP9w) hltW (by assumption), kd (b10x _ hP9w) hltW (by assumption), kd (b10x _ hP9w) hltW (by assumption), kd (b10x _ hP9w) hltW (by assumption), kd (b10x _ hP9w) hltW (by assumption), kd (b10x _ hP9w) hltW (by assumption), kd (b10x _ hP9w) hltW (by assumption), kd (b10x _ hP9w) hltW (by assumption), kd (b10x _ hP9w) hltW (by assumption), kd (b10x _ hP9w) hltW (by assumption), kd (b10x _ hP9w) hltW (by assumption), kd (b10x _ hP9w) hltW (by assumption), kd (b10x _ hP9w) hltW (by assumption), kd (b10x _ hP9w) hltW (by assumption), kd (b10x _ hP9w) hltW (by assumption)⟩)
                    clear hK K hHeld
                    have hHeld := hHeld2
                    clear hHeld2
                    try simp only [Act.put]
                    (refine wpAnyH_take (i := 13) (oi := { dst := some 15, op := Go.Op.assign (Go.Operand.tmp 80), type := 33, pos := _, after := _, guard := none }) (v := ?_) rfl (by kernel_rfl) (by kernel_rfl) (by kernel_rfl) (fun _ _ _ h => h) (Or.inl ⟨by rfl, ?_⟩) (by assumption) ?_; rotate_left; (intro w hSw; (try dsimp only at hSw); go_simp; try with_reducible rfl); try simp only [Act.put, List.setIfInBounds_toArray, List.set_cons_zero, List.set_cons_succ])
                    refine wpAnyH_done (by kernel_rfl) ?_ _
                    go_wp2_with fail
                    go_meet
                    exact ⟨P9, rfl, rfl, hP10, And.left hHeld⟩
                · rw [if_pos (by rfl)]
                  refine wp_alloc49 rfl ?_
                  intro w9x P9 hP9 hP9b b9x
                  have hP9w : wR.heap.size ≤ P9 := Nat.le_trans (Below.size (And.left hHeld)) hP9b
                  refine hK.out _ _ ?_ (fun hHeld2 => ?_)
                  · (go_split_ands; exact ⟨Below.trans (by assumption) (b9x.mono (Below.size (by assumption))), kc b9x (by assumption), kc b9x (by assumption), kc b9x (by assumption), kc b9x (by assumption), kc b9x (by assumption), kc b9x (by assumption), kc b9x (by assumption), kc b9x (by assumption), kc b9x (by assumption), kc b9x (by assumption), kc b9x (by assumption), kc b9x (by assumption), kc b9x (by assumption), kc b9x (by assumption), kc b9x (by assumption), kc b9x (by assumption)⟩)
                  clear hK K hHeld
                  have hHeld := hHeld2
                  clear hHeld2
                  try simp only [Act.put, List.setIfInBounds_toArray, List.set_cons_zero, List.set_cons_succ]
                  refine wpAnyH_ready (rs := [6]) (by kernel_rfl) (by simp) ?_
                  refine AllReadyH.cons (o := { dst := some 77, op := Go.Op.call { callee := Go.Callee.builtin Go.Builtin.append, args := #[Go.Operand.tmp 73, Go.Operand.tmp 76], argTypes := #[46, 46] }, type := 46, pos := _, after := _, guard := none }) rfl (fun K hK => ?_) AllReadyH.nil
                  rw [if_pos (by rfl)]
                  refine wp_app_idxs _ _ rfl _ _ 0 [] rfl (Fresh.empty _ _ _ _ _) (Nat.le_refl _) (some ad) a lk rfl (by simp) (HAk.out.keep (And.left hHeld) (Nat.le_refl _)) (by omega) ?_
                  intro v4x w4x hF4 b4x _
                  rw [Nat.zero_add, List.nil_append] at hF4
                  obtain ⟨A4x, c4x, rfl, hn4x⟩ := hF4.slice
                  have hI4 := Fresh.rd (l := lk) (c := c4x) Idx.cells_len (by decide) hF4
                  have hP9 := hP9.keep b4x
                  refine hK.out _ _ ?_ (fun hHeld2 => ?_)
                  · (go_split_ands; exact ⟨Below.trans (by assumption) (b4x.mono (Below.size (by assumption))), kc b4x (by assumption), kc b4x (by assumption), kc b4x (by assumption), kc b4x (by assumption), kc b4x (by assumption), kc b4x (by assumption), kc b4x (by assumption), kc b4x (by assumption), kc b4x (by assumption), kc b4x (by assumption), kc b4x (by assumption), kc b4x (by assumption), kc b4x (by assumption), kc b4x (by assumption), kc b4x (by assumption), kc b4x (by assumption)⟩)
                  clear hK K hHeld
                  have hHeld := hHeld2
                  clear hHeld2
                  try simp only [Act.put, List.setIfInBounds_toArray, List.set_cons_zero, List.set_cons_succ]
                  refine wpAnyH_ready (rs := [7]) (by kernel_rfl) (by simp) ?_
                  refine AllReadyH.cons (o := { dst := some 78, op := Go.Op.call { callee := Go.Callee.value (Go.Operand.func 31), args := #[Go.Operand.tmp 71, Go.Operand.tmp 72, Go.Operand.tmp 77], argTypes := #[45, 43, 46] }, type := 50, pos := _, after := _, guard := none }) rfl (fun K hK => ?_) AllReadyH.nil
                  go_simp
                  refine (HOTk.out A4x c4x _ (HCk.out.keep (And.left hHeld) (Nat.le_refl _)) hI4 hn4x).mono ?_
                  rintro e w5x ⟨rfl, b5x⟩
                  go_wp2_with fail
                  have hP9 := hP9.keep b5x
                  refine hK.out _ _ ?_ (fun hHeld2 => ?_)
                  · (go_split_ands; exact ⟨Below.trans (by assumption) (b5x.mono (Below.size (by assumption))), kc b5x (by assumption), kc b5x (by assumption), kc b5x (by assumption), kc b5x (by assumption), kc b5x (by assumption), kc b5x (by assumption), kc b5x (by assumption), kc b5x (by assumption), kc b5x (by assumption), kc b5x (by assumption), kc b5x (by assumption), kc b5x (by assumption), kc b5x (by assumption), kc b5x (by assumption), kc b5x (by assumption), kc b5x (by assumption)⟩)
                  clear hK K hHeld
                  have hHeld := hHeld2
                  clear hHeld2
                  try simp only [Act.put, List.setIfInBounds_toArray, List.set_cons_zero, List.set_cons_succ]
                  (refine wpAnyH_take (i := 8) (oi := { dst := some 70, op := Go.Op.move (Go.Operand.tmp 78), type := 50, pos := _, after := _, guard := none }) (v := ?_) rfl (by kernel_rfl) (by kernel_rfl) (by kernel_rfl) (fun _ _ _ h => h) (Or.inl ⟨by rfl, ?_⟩) (by assumption) ?_; rotate_left; (intro w hSw; (try dsimp only at hSw); go_simp; try with_reducible rfl); try simp only [Act.put, List.setIfInBounds_toArray, List.set_cons_zero, List.set_cons_succ])
                  (refine wpAnyH_take (i := 9) (oi := { dst := some 79, op := Go.Op.extract (Go.Operand.tmp 70) 0, type := 49, pos := _, after := _, guard := none }) (v := ?_) rfl (by kernel_rfl) (by kernel_rfl) (by kernel_rfl) (fun _ _ _ h => h) (Or.inl ⟨by rfl, ?_⟩) (by assumption) ?_; rotate_left; (intro w hSw; (try dsimp only at hSw); go_simp; try with_reducible rfl); try simp only [Act.put, List.setIfInBounds_toArray, List.set_cons_zero, List.set_cons_succ])
                  (refine wpAnyH_take (i := 10) (oi := { dst := some 80, op := Go.Op.extract (Go.Operand.tmp 70) 1, type := 33, pos := _, after := _, guard := none }) (v := ?_) rfl (by kernel_rfl) (by kernel_rfl) (by kernel_rfl) (fun _ _ _ h => h) (Or.inl ⟨by rfl, ?_⟩) (by assumption) ?_; rotate_left; (intro w hSw; (try dsimp only at hSw); go_simp; try with_reducible rfl); try simp only [Act.put, List.setIfInBounds_toArray, List.set_cons_zero, List.set_cons_succ])
                  refine wpAnyH_ready (rs := [12]) (by kernel_rfl) (by simp) ?_
                  refine AllReadyH.cons (o := { dst := none, op := Go.Op.store 49 (Go.Operand.tmp 14) (Go.Operand.tmp 79), type := 0, pos := _, after := _, guard := none }) rfl (fun K hK => ?_) AllReadyH.nil
                  rw [if_pos (by rfl)]
                  refine wp_store49 _ _ rfl P9 0 ⟨#[]⟩ Wt It rfl rfl hP9 ?_
                  intro w10x hP10 b10x
                  refine hK.out _ _ ?_ (fun hHeld2 => ?_)
                  · (go_split_ands; exact ⟨Below.trans (by assumption) (b10x _ hP9w), kd (b10x _ hP9w) hltW (by assumption), kd (b10x _ hP9w) hltW (by assumption), kd (b10x _ hP9w) hltW (by assumption), kd (b10x _ hP9w) hltW (by assumption), kd (b10x _ hP9w) hltW (by assumption), kd (b10x _ hP9w) hltW (by assumption), kd (b10x _ hP9w) hltW (by assumption), kd (b10x _ hP9w) hltW (by assumption), kd (b10x _ hP9w) hltW (by assumption), kd (b10x _ hP9w) hltW (by assumption), kd (b10x _ hP9w) hltW (by assumption), kd (b10x _ hP9w) hltW (by assumption), kd (b10x _ hP9w) hltW (by assumption), kd (b10x _ hP9w) hltW (by assumption), kd (b10x _ hP9w) hltW (by assumption), kd (b10x _ hP9w) hltW (by assumption)⟩)
                  clear hK K hHeld
                  have hHeld := hHeld2
                  clear hHeld2
                  try simp only [Act.put]
                  (refine wpAnyH_take (i := 13) (oi := { dst := some 15, op := Go.Op.assign (Go.Operand.tmp 80), type := 33, pos := _, after := _, guard := none }) (v := ?_) rfl (by kernel_rfl) (by kernel_rfl) (by kernel_rfl) (fun _ _ _ h => h) (Or.inl ⟨by rfl, ?_⟩) (by assumption) ?_; rotate_left; (intro w hSw; (try dsimp only at hSw); go_simp; try with_reducible rfl); try simp only [Act.put, List.setIfInBounds_toArray, List.set_cons_zero, List.set_cons_succ])
                  refine wpAnyH_done (by kernel_rfl) ?_ _
                  go_wp2_with fail
                  go_meet
                  exact ⟨P9, rfl, rfl, hP10, And.left hHeld⟩
              · rw [if_pos (by rfl)]
                refine wp_alloc49 rfl ?_
                intro w9x P9 hP9 hP9b b9x
                have hP9w : wR.heap.size ≤ P9 := Nat.le_trans (Below.size (And.left hHeld)) hP9b
                refine hK.out _ _ ?_ (fun hHeld2 => ?_)
                · (go_split_ands; exact ⟨Below.trans (by assumption) (b9x.mono (Below.size (by assumption))), kc b9x (by assumption), kc b9x (by assumption), kc b9x (by assumption), kc b9x (by assumption), kc b9x (by assumption), kc b9x (by assumption), kc b9x (by assumption), kc b9x (by assumption), kc b9x (by assumption), kc b9x (by assumption), kc b9x (by assumption), kc b9x (by assumption), kc b9x (by assumption), kc b9x (by assumption), kc b9x (by assumption), kc b9x (by assumption)⟩)
                clear hK K hHeld
                have hHeld := hHeld2
                clear hHeld2
                try simp only [Act.put, List.setIfInBounds_toArray, List.set_cons_zero, List.set_cons_succ]
                refine wpAnyH_ready (rs := [2]) (by kernel_rfl) (by simp) ?_
                refine AllReadyH.cons (o := { dst := some 73, op := Go.Op.buildSlice 46 0 #[], type := 46, pos := _, after := _, guard := none }) rfl (fun K hK => ?_) AllReadyH.nil
                rw [if_pos (by rfl)]
                refine wp_build46 rfl ?_
                intro w2x bE b2x
                have hP9 := hP9.keep b2x
                refine hK.out _ _ ?_ (fun hHeld2 => ?_)
                · (go_split_ands; exact ⟨Below.trans (by assumption) (b2x.mono (Below.size (by assumption))), kc b2x (by assumption), kc b2x (by assumption), kc b2x (by assumption), kc b2x (by assumption), kc b2x (by assumption), kc b2x (by assumption), kc b2x (by assumption), kc b2x (by assumption), kc b2x (by assumption), kc b2x (by assumption), kc b2x (by assumption), kc b2x (by assumption), kc b2x (by assumption), kc b2x (by assumption), kc b2x (by assumption), kc b2x (by assumption)⟩)
                clear hK K hHeld
                have hHeld := hHeld2
                clear hHeld2
                try simp only [Act.put, List.setIfInBounds_toArray, List.set_cons_zero, List.set_cons_succ]
                refine wpAnyH_ready (rs := [6]) (by kernel_rfl) (by simp) ?_
                refine AllReadyH.cons (o := { dst := some 77, op := Go.Op.call { callee := Go.Callee.builtin Go.Builtin.append, args := #[Go.Operand.tmp 73, Go.Operand.tmp 76], argTypes := #[46, 46] }, type := 46, pos := _, after := _, guard := none }) rfl (fun K hK => ?_) AllReadyH.nil
                rw [if_pos (by rfl)]
                refine wp_app_idxs _ _ rfl _ _ 0 [] rfl (Fresh.empty _ _ _ _ _) (Nat.le_refl _) (some ad) a lk rfl (by simp) (HAk.out.keep (And.left hHeld) (Nat.le_refl _)) (by omega) ?_
                intro v4x w4x hF4 b4x _
                rw [Nat.zero_add, List.nil_append] at hF4
                obtain ⟨A4x, c4x, rfl, hn4x⟩ := hF4.slice
                have hI4 := Fresh.rd (l := lk) (c := c4x) Idx.cells_len (by decide) hF4
                have hP9 := hP9.keep b4x
                refine hK.out _ _ ?_ (fun hHeld2 => ?_)
                · (go_split_ands; exact ⟨Below.trans (by assumption) (b4x.mono (Below.size (by assumption))), kc b4x (by assumption), kc b4x (by assumption), kc b4x (by assumption), kc b4x (by assumption), kc b4x (by assumption), kc b4x (by assumption), kc b4x (by assumption), kc b4x (by assumption), kc b4x (by assumption), kc b4x (by assumption), kc b4x (by assumption), kc b4x (by assumption), kc b4x (by assumption), kc b4x (by assumption), kc b4x (by assumption), kc b4x (by assumption)⟩)
                clear hK K hHeld
                have hHeld := hHeld2
                clear hHeld2
                try simp only [Act.put, List.setIfInBounds_toArray, List.set_cons_zero, List.set_cons_succ]
                refine wpAnyH_ready (rs := [7]) (by kernel_rfl) (by simp) ?_
                refine AllReadyH.cons (o := { dst := some 78, op := Go.Op.call { callee := Go.Callee.value (Go.Operand.func 31), args := #[Go.Operand.tmp 71, Go.Operand.tmp 72, Go.Operand.tmp 77], argTypes := #[45, 43, 46] }, type := 50, pos := _, after := _, guard := none }) rfl (fun K hK => ?_) AllReadyH.nil
                go_simp
                refine (HOTk.out A4x c4x _ (HCk.out.keep (And.left hHeld) (Nat.le_refl _)) hI4 hn4x).mono ?_
                rintro e w5x ⟨rfl, b5x⟩
                go_wp2_with fail
                have hP9 := hP9.keep b5x
                refine hK.out _ _ ?_ (fun hHeld2 => ?_)
                · (go_split_ands; exact ⟨Below.trans (by assumption) (b5x.mono (Below.size (by assumption))), kc b5x (by assumption), kc b5x (by assumption), kc b5x (by assumption), kc b5x (by assumption), kc b5x (by assumption), kc b5x (by assumption), kc b5x (by assumption), kc b5x (by assumption), kc b5x (by assumption), kc b5x (by assumption), kc b5x (by assumption), kc b5x (by assumption), kc b5x (by assumption), kc b5x (by assumption), kc b5x (by assumption), kc b5x (by assumption)⟩)
                clear hK K hHeld
                have hHeld := hHeld2
                clear hHeld2
                try simp only [Act.put, List.setIfInBounds_toArray, List.set_cons_zero, List.set_cons_succ]
                (refine wpAnyH_take (i := 8) (oi := { dst := some 70, op := Go.Op.move (Go.Operand.tmp 78), type := 50, pos := _, after := _, guard := none }) (v := ?_) rfl (by kernel_rfl) (by kernel_rfl) (by kernel_rfl) (fun _ _ _ h => h) (Or.inl ⟨by rfl, ?_⟩) (by assumption) ?_; rotate_left; (intro w hSw; (try dsimp only at hSw); go_simp; try with_reducible rfl); try simp only [Act.put, List.setIfInBounds_toArray, List.set_cons_zero, List.set_cons_succ])
                (refine wpAnyH_take (i := 9) (oi := { dst := some 79, op := Go.Op.extract (Go.Operand.tmp 70) 0, type := 49, pos := _, after := _, guard := none }) (v := ?_) rfl (by kernel_rfl) (by kernel_rfl) (by kernel_rfl) (fun _ _ _ h => h) (Or.inl ⟨by rfl, ?_⟩) (by assumption) ?_; rotate_left; (intro w hSw; (try dsimp only at hSw); go_simp; try with_reducible rfl); try simp only [Act.put, List.setIfInBounds_toArray, List.set_cons_zero, List.set_cons_succ])
                (refine wpAnyH_take (i := 10) (oi := { dst := some 80, op := Go.Op.extract (Go.Operand.tmp 70) 1, type := 33, pos := _, after := _, guard := none }) (v := ?_) rfl (by kernel_rfl) (by kernel_rfl) (by kernel_rfl) (fun _ _ _ h => h) (Or.inl ⟨by rfl, ?_⟩) (by assumption) ?_; rotate_left; (intro w hSw; (try dsimp only at hSw); go_simp; try with_reducible rfl); try simp only [Act.put, List.setIfInBounds_toArray, List.set_cons_zero, List.set_cons_succ])
                refine wpAnyH_ready (rs := [12]) (by kernel_rfl) (by simp) ?_
                refine AllReadyH.cons (o := { dst := none, op := Go.Op.store 49 (Go.Operand.tmp 14) (Go.Operand.tmp 79), type := 0, pos := _, after := _, guard := none }) rfl (fun K hK => ?_) AllReadyH.nil
                rw [if_pos (by rfl)]
                refine wp_store49 _ _ rfl P9 0 ⟨#[]⟩ Wt It rfl rfl hP9 ?_
                intro w10x hP10 b10x
                refine hK.out _ _ ?_ (fun hHeld2 => ?_)
                · (go_split_ands; exact ⟨Below.trans (by assumption) (b10x _ hP9w), kd (b10x _ hP9w) hltW (by assumption), kd (b10x _ hP9w) hltW (by assumption), kd (b10x _ hP9w) hltW (by assumption), kd (b10x _ hP9w) hltW (by assumption), kd (b10x _ hP9w) hltW (by assumption), kd (b10x _ hP9w) hltW (by assumption), kd (b10x _ hP9w) hltW (by assumption), kd (b10x _ hP9w) hltW (by assumption), kd (b10x _ hP9w) hltW (by assumption), kd (b10x _ hP9w) hltW (by assumption), kd (b10x _ hP9w) hltW (by assumption), kd (b10x _ hP9w) hltW (by assumption), kd (b10x _ hP9w) hltW (by assumption), kd (b10x _ hP9w) hltW (by assumption), kd (b10x _ hP9w) hltW (by assumption), kd (b10x _ hP9w) hltW (by assumption)⟩)
                clear hK K hHeld
                have hHeld := hHeld2
                clear hHeld2
                try simp only [Act.put]
                (refine wpAnyH_take (i := 13) (oi := { dst := some 15, op := Go.Op.assign (Go.Operand.tmp 80), type := 33, pos := _, after := _, guard := none }) (v := ?_) rfl (by kernel_rfl) (by kernel_rfl) (by kernel_rfl) (fun _ _ _ h => h) (Or.inl ⟨by rfl, ?_⟩) (by assumption) ?_; rotate_left; (intro w hSw; (try dsimp only at hSw); go_simp; try with_reducible rfl); try simp only [Act.put, List.setIfInBounds_toArray, List.set_cons_zero, List.set_cons_succ])
                refine wpAnyH_done (by kernel_rfl) ?_ _
                go_wp2_with fail
                go_meet
                exact ⟨P9, rfl, rfl, hP10, And.left hHeld⟩
            case rest =>
            obtain ⟨Po, rfl, rfl, hPo, hbk⟩ := hcut
            obtain ⟨g0, g1, _, _⟩ := HPk.out.keep hbk
            obtain ⟨h0, h1, _, _⟩ := hPo
            have hc1 := cost_any W I
            have hc2 := cost_any Wt It
            have tg : decide (costV Wt < costV W) = false := by rw [decide_eq_false]; omega
            generalize costV W = cw at *
            generalize costV Wt = cwt at *
            clear hcl4 f0 f1 f2 f3 f4 f5 f6 f7 f8 f9 f10 f11 f12 f13 f14 f15
            have hbc2 := hbr.trans (hbk.mono hbr.size)
            go_wp2_with fail
            refine wp_region_held_drew (S := (fun w' => Below wc.heap.size wc w' ∧ w'.cell? ⟨P9, 0, none⟩ = some (.int .i64 W) ∧ w'.cell? ⟨P9, 1, none⟩ = some (.string I) ∧ w'.cell? ⟨Po, 0, none⟩ = some (.int .i64 Wt) ∧ w'.cell? ⟨Po, 1, none⟩ = some (.string It))) (by kernel_rfl) (⟨(Below.refl _ _).drew, g0, g1, h0, h1⟩) (fun hHeld => ?_)
            (refine wpAnyH_take (i := 0) (oi := { dst := some 81, op := Go.Op.move (Go.Operand.tmp 15), type := 33, pos := _, after := _, guard := none }) (v := ?_) rfl (by kernel_rfl) (by kernel_rfl) (by kernel_rfl) (fun _ _ _ h => h) (Or.inl ⟨by rfl, ?_⟩) (by assumption) ?_; rotate_left; (intro w hSw; (try dsimp only at hSw); go_simp; try with_reducible rfl); try simp only [Act.put, List.setIfInBounds_toArray, List.set_cons_zero, List.set_cons_succ])
            (refine wpAnyH_take (i := 1) (oi := { dst := some 82, op := Go.Op.move (Go.Operand.tmp 10), type := 33, pos := _, after := _, guard := none }) (v := ?_) rfl (by kernel_rfl) (by kernel_rfl) (by kernel_rfl) (fun _ _ _ h => h) (Or.inl ⟨by rfl, ?_⟩) (by assumption) ?_; rotate_left; (intro w hSw; (try dsimp only at hSw); go_simp; try with_reducible rfl); try simp only [Act.put, List.setIfInBounds_toArray, List.set_cons_zero, List.set_cons_succ])
            (refine wpAnyH_take (i := 2) (oi := { dst := some 83, op := Go.Op.binOp Go.BinOp.neq 33 (Go.Operand.tmp 81) (Go.Operand.tmp 82) 33, type := 4, pos := _, after := _, guard := none }) (v := ?_) rfl (by kernel_rfl) (by kernel_rfl) (by kernel_rfl) (fun _ _ _ h => h) (Or.inl ⟨by rfl, ?_⟩) (by assumption) ?_; rotate_left; (intro w hSw; (try dsimp only at hSw); go_simp; try with_reducible rfl); try simp only [Act.put, List.setIfInBounds_toArray, List.set_cons_zero, List.set_cons_succ])
            (refine wpAnyH_take (i := 3) (oi := { dst := some 84, op := Go.Op.move (Go.Operand.tmp 83), type := 4, pos := _, after := _, guard := none }) (v := ?_) rfl (by kernel_rfl) (by kernel_rfl) (by kernel_rfl) (fun _ _ _ h => h) (Or.inl ⟨by rfl, ?_⟩) (by assumption) ?_; rotate_left; (intro w hSw; (try dsimp only at hSw); go_simp; try with_reducible rfl); try simp only [Act.put, List.setIfInBounds_toArray, List.set_cons_zero, List.set_cons_succ])
            (refine wpAnyH_take (i := 4) (oi := { dst := some 85, op := Go.Op.load 49 (Go.Operand.tmp 9), type := 49, pos := _, after := _, guard := some (3, false) }) (v := ?_) rfl (by kernel_rfl) (by kernel_rfl) (by kernel_rfl) (fun _ _ _ h => h) (Or.inl ⟨by rfl, ?_⟩) (by assumption) ?_; rotate_left; (intro w hSw; (try dsimp only at hSw); go_simp; try with_reducible rfl); try simp only [Act.put, List.setIfInBounds_toArray, List.set_cons_zero, List.set_cons_succ])
            (refine wpAnyH_take (i := 6) (oi := { dst := some 87, op := Go.Op.load 49 (Go.Operand.tmp 14), type := 49, pos := _, after := _, guard := some (3, false) }) (v := ?_) rfl (by kernel_rfl) (by kernel_rfl) (by kernel_rfl) (fun _ _ _ h => h) (Or.inl ⟨by rfl, ?_⟩) (by assumption) ?_; rotate_left; (intro w hSw; (try dsimp only at hSw); go_simp; try with_reducible rfl); try simp only [Act.put, List.setIfInBounds_toArray, List.set_cons_zero, List.set_cons_succ])
            refine wpAnyH_ready (rs := [5]) (by kernel_rfl) (by simp) ?_
            refine AllReadyH.cons (o := { dst := some 86, op := Go.Op.call { callee := Go.Callee.value (Go.Operand.func 34), args := #[Go.Operand.tmp 85], argTypes := #[49] }, type := 3, pos := _, after := _, guard := some (3, false) }) rfl (fun K hK => ?_) AllReadyH.nil
            go_simp
            (refine (hc1 _).mono ?_; rintro e w16 ⟨rfl, b16⟩)
            go_wp2_with fail
            refine hK.out _ _ ?_ (fun hHeld2 => ?_)
            · (go_split_ands; exact ⟨Below.trans (by assumption) (b16.mono (Below.size (by assumption))), kc b16 (by assumption), kc b16 (by assumption), kc b16 (by assumption), kc b16 (by assumption)⟩)
            clear hK K hHeld
            have hHeld := hHeld2
            clear hHeld2
            try simp only [Act.put, List.setIfInBounds_toArray, List.set_cons_zero, List.set_cons_succ]
            refine wpAnyH_ready (rs := [7]) (by kernel_rfl) (by simp) ?_
            refine AllReadyH.cons (o := { dst := some 88, op := Go.Op.call { callee := Go.Callee.value (Go.Operand.func 34), args := #[Go.Operand.tmp 87], argTypes := #[49] }, type := 3, pos := _, after := _, guard := some (3, false) }) rfl (fun K hK => ?_) AllReadyH.nil
            go_simp
            (refine (hc2 _).mono ?_; rintro e w17 ⟨rfl, b17⟩)
            go_wp2_with fail
            refine hK.out _ _ ?_ (fun hHeld2 => ?_)
            · (go_split_ands; exact ⟨Below.trans (by assumption) (b17.mono (Below.size (by assumption))), kc b17 (by assumption), kc b17 (by assumption), kc b17 (by assumption), kc b17 (by assumption)⟩)
            clear hK K hHeld
            have hHeld := hHeld2
            clear hHeld2
            try simp only [Act.put, List.setIfInBounds_toArray, List.set_cons_zero, List.set_cons_succ]
            (refine wpAnyH_take (i := 8) (oi := { dst := some 89, op := Go.Op.binOp Go.BinOp.gtr 3 (Go.Operand.tmp 86) (Go.Operand.tmp 88) 3, type := 4, pos := _, after := _, guard := some (3, false) }) (v := ?_) rfl (by kernel_rfl) (by kernel_rfl) (by kernel_rfl) (fun _ _ _ h => h) (Or.inl ⟨by rfl, ?_⟩) (by assumption) ?_; rotate_left; (intro w hSw; (try dsimp only at hSw); go_simp; try with_reducible rfl); try simp only [Act.put, List.setIfInBounds_toArray, List.set_cons_zero, List.set_cons_succ])
            (refine wpAnyH_take (i := 9) (oi := { dst := some 90, op := Go.Op.pick (Go.Operand.tmp 84) (Go.Operand.const (Go.Value.bool true)) (Go.Operand.tmp 89), type := 4, pos := _, after := _, guard := none }) (v := ?_) rfl (by kernel_rfl) (by kernel_rfl) (by kernel_rfl) (fun _ _ _ h => h) (Or.inl ⟨by rfl, ?_⟩) (by assumption) ?_; rotate_left; (intro w hSw; (try dsimp only at hSw); go_simp; try with_reducible rfl); try simp only [Act.put, List.setIfInBounds_toArray, List.set_cons_zero, List.set_cons_succ])
            refine wpAnyH_done (by kernel_rfl) ?_ _
            have hb3 := hbc2.trans ((And.left hHeld).mono hbc2.size)
            go_wp2_with fail
            exact ⟨⟨lk.length + 1, by omega, by go_num, hb3⟩, by simp [intOf]; omega⟩
          · obtain rfl : k = l.length := by omega
            go_wp2_with fail
            refine (plan_wakes _).mono ?_
            rintro e w9 ⟨rfl, b9⟩
            go_wp2_with fail
            go_ret
            exact ⟨rfl, k7.trans ((hbr.trans (b9.mono hbr.size)).mono k7.size)⟩
end Go.Proofs.Ytobdooojdadgpaa
