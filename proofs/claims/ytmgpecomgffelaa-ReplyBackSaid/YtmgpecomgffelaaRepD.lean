/- Contracts: a reply's bytes, of the program and of the reference. -/
import Derived.Test.YtmgpecomgffelaaRepC
namespace Go.Proofs.Ytmgpecomgffelaa
open Go.RowKit
set_option linter.unusedVariables false
theorem rowB_bd {l : List Val} (h : rowG l = true) : (rowB l).size ≤ 1801 := by
  obtain ⟨h6, hall⟩ := (rowG_iff l).1 h
  have := encL_size l l.length (Nat.le_refl _) (by rw [List.take_length]; exact hall)
  rw [List.take_length] at this
  rw [rowB_size]
  omega
theorem catL_bd (ls : List (List Val)) (h : ls.all rowG = true) (k : Nat) (hk : k ≤ ls.length) : (catL (ls.take k)).size ≤ k * 1801 := by
  induction k with
  | zero => exact Nat.le_refl _
  | succ k ih =>
    have hlt : k < ls.length := by omega
    have hg : rowG ls[k] = true := List.all_eq_true.1 h _ (List.getElem_mem hlt)
    rw [List.take_succ_eq_append_getElem hlt, catL_snoc, ByteArray.size_append]
    have := ih (by omega)
    have := rowB_bd hg
    omega
theorem catL_step (ls : List (List Val)) (k : Nat) (h : k < ls.length) : catL (ls.take (k + 1)) = catL (ls.take k) ++ rowB ls[k] := by
  rw [List.take_succ_eq_append_getElem h, catL_snoc]
theorem encR_bd (r : Rep) (h : goodR r = true) : (encR r).size ≤ 1000000 := by
  obtain ⟨_, _, h1, h2⟩ := (goodR_iff r).1 h
  have := catL_bd r.rows h2 r.rows.length (Nat.le_refl _)
  rw [List.take_length] at this
  unfold encR
  rw [ByteArray.size_append, head_size]
  omega
set_option maxRecDepth 100000 in
theorem clo_row (A : Option Addr) (c : Nat) (l : List Val) (w : World) (h : RdV w A l) (hf : ∀ v ∈ l, v.f < two64) : Calls Try.prog 115 #[.slice A l.length c] w fun e w' => e = .returned (.string (rowS l)) ∧ Below w.heap.size w w' := by
  have HC := Lib.hid (row_any A c l w h hf)
  clear h hf
  generalize rowE l = z at *
  generalize rowS l = s at *
  go_enter Try.func115, Try.ntmps115
  go_wp2_with fail
  refine HC.out.mono ?_
  rintro e w1 ⟨rfl, b1⟩
  go_wp2_with fail
  go_ret
  exact ⟨rfl, b1⟩
set_option maxRecDepth 100000 in
set_option maxHeartbeats 1000000 in
theorem put_any (A : Option Addr) (c : Nat) (ls : List (List Val)) (w : World) (h : RdRows w A ls) (hg : ls.all rowG = true) (hlen : ls.length ≤ 512) (hf : ∀ l ∈ ls, ∀ v ∈ l, v.f < two64) : Calls Try.prog 114 #[.slice A ls.length c, .func (.func 115) #[] #[]] w fun e w' => e = .returned (.string (two ls.length ++ catL ls)) ∧ Below w.heap.size w w' := by
  have H := Lib.hid h
  have HF := Lib.hid hf
  have HG := Lib.hid hg
  have HT := Lib.hid (two_any ls.length (by omega))
  clear h hf hg
  go_enter Try.func114, Try.ntmps114
  go_wp2_with fail
  refine (HT.out _).mono ?_
  rintro e w0 ⟨rfl, b0⟩
  go_wp2_with fail
  go_loopw [5, 13] (fun v i wr => ∃ k : Nat, k ≤ ls.length ∧ i = .int .i64 k ∧ v = .string (two ls.length ++ catL (ls.take k)) ∧ Below w.heap.size w wr) (fun _ i _ => ls.length - (intOf i).toNat)
  case atStart => exact ⟨0, by omega, rfl, by rw [List.take_zero]; exact congrArg Value.string (append_nil _).symm, b0⟩
  case round =>
    obtain ⟨k, hk, rfl, rfl, hb⟩ := hrel
    by_cases hlt : k < ls.length
    · obtain ⟨ad, s, rfl, hc, hr, hn⟩ := (H.out.keep hb) k hlt
      have hgk : rowG ls[k] = true := List.all_eq_true.1 HG.out _ (List.getElem_mem hlt)
      have hcall := clo_row s.A s.c ls[k] wr hr (HF.out _ (List.getElem_mem hlt))
      rw [rowS_good hgk] at hcall
      have hst : two ls.length ++ catL (ls.take (k + 1)) = two ls.length ++ catL (ls.take k) ++ rowB ls[k] := by rw [catL_step ls k hlt, ByteArray.append_assoc]
      have hz1 := rowB_bd hgk
      have hz2 := catL_bd ls HG.out k hk
      have hz3 : (two ls.length ++ catL (ls.take k)).size ≤ 1000000 := by rw [ByteArray.size_append, two_size]; omega
      have hw1 : IntKind.i64.wrap ((k : Int) + 1) = (k : Int) + 1 := by rw [IntKind.wrap_i64]; omega
      generalize ls[k] = l at *
      have Hs := Lib.hid hst
      have HC := Lib.hid hcall
      clear hst hcall hr hn hgk hz2
      generalize two ls.length ++ catL (ls.take k) = cur at *
      generalize rowB l = y at *
      go_wp2_with fail
      refine HC.out.mono ?_
      rintro e w1 ⟨rfl, b1⟩
      have hb1 := hb.trans (b1.mono hb.size)
      go_wp2_with fail
      exact ⟨⟨k + 1, by omega, by go_num, by rw [Hs.out], hb1⟩, by simp [intOf]; omega⟩
    · obtain rfl : k = ls.length := by omega
      rw [List.take_length]
      go_wp2_with fail
      go_ret
      exact ⟨rfl, hb⟩
set_option maxRecDepth 100000 in
theorem encr_no (r : Rep) (A : Option Addr) (q : Nat) (w : World) (hr : RdRows w A r.rows) (hf : ∀ l ∈ r.rows, ∀ v ∈ l, v.f < two64) (hg : goodR r = false) : Calls Try.prog 78 #[rv r.code r.n A r.rows.length q] w fun e w' => e = .returned (.tuple #[.string ⟨#[]⟩, .int .i64 11]) ∧ Below w.heap.size w w' := by
  have HG := Lib.hid (goodr_any r A q _ (hr.keep ((Below.refl _ _).alloc (Nat.le_refl _) (.cells (a3 r.code r.n A r.rows.length q) 96))) hf)
  rw [hg] at HG
  obtain ⟨c, n, ls⟩ := r
  simp only at HG ⊢
  clear hr hf hg
  go_enter Try.func78, Try.ntmps78
  go_wp2_with fail
  refine HG.out.mono ?_
  rintro e w1 ⟨rfl, b1⟩
  go_wp2_with fail
  go_ret2
  exact ⟨rfl, below_trans ((Below.refl _ _).alloc (Nat.le_refl _) _) b1⟩
set_option maxRecDepth 100000 in
theorem rencr_no (r : Rep) (A : Option Addr) (q : Nat) (w : World) (hr : RdRows w A r.rows) (hf : ∀ l ∈ r.rows, ∀ v ∈ l, v.f < two64) (hg : goodR r = false) : Calls Try.prog 83 #[rv r.code r.n A r.rows.length q] w fun e w' => e = .returned (.tuple #[.string ⟨#[]⟩, .int .i64 11]) ∧ Below w.heap.size w w' := by
  have HG := Lib.hid (rgoodr_any r A q _ (hr.keep ((Below.refl _ _).alloc (Nat.le_refl _) (.cells (a3 r.code r.n A r.rows.length q) 96))) hf)
  rw [hg] at HG
  obtain ⟨c, n, ls⟩ := r
  simp only at HG ⊢
  clear hr hf hg
  go_enter Try.func83, Try.ntmps83
  go_wp2_with fail
  refine HG.out.mono ?_
  rintro e w1 ⟨rfl, b1⟩
  go_wp2_with fail
  go_ret2
  exact ⟨rfl, below_trans ((Below.refl _ _).alloc (Nat.le_refl _) _) b1⟩
set_option maxRecDepth 100000 in
set_option maxHeartbeats 2000000 in
theorem encr_yes (c n : Nat) (ls : List (List Val)) (A : Option Addr) (q : Nat) (w : World) (hr : RdRows w A ls) (hf : ∀ l ∈ ls, ∀ v ∈ l, v.f < two64) (hc : c ≤ 1000) (hn : n ≤ 65535) (hl : ls.length ≤ 512) (hall : ls.all rowG = true) (hg : goodR ⟨c, n, ls⟩ = true) : Calls Try.prog 78 #[rv c n A ls.length q] w fun e w' => e = .returned (.tuple #[.string (encR ⟨c, n, ls⟩), .int .i64 0]) ∧ Below w.heap.size w w' := by
  have HG := Lib.hid (goodr_any ⟨c, n, ls⟩ A q _ (hr.keep ((Below.refl _ _).alloc (Nat.le_refl _) (.cells (a3 c n A ls.length q) 96))) hf)
  rw [hg] at HG
  simp only at HG
  have HT1 := Lib.hid (two_any c (by omega))
  have HT2 := Lib.hid (two_any n (by omega))
  have hz1 := two_size c
  have hz2 := two_size n
  have HP := Lib.hid (fun w' h => put_any A q ls w' h hall hl hf)
  have HR0 := Lib.hid (hr.keep ((Below.refl _ _).alloc (Nat.le_refl _) (.cells (a3 c n A ls.length q) 96)))
  have HE := Lib.hid (show encR ⟨c, n, ls⟩ = two c ++ two n ++ (two ls.length ++ catL ls) by show two c ++ two n ++ two ls.length ++ catL ls = _; rw [ByteArray.append_assoc (a := two c ++ two n)])
  have hz3 : (two ls.length ++ catL ls).size ≤ 1000000 := by
    have := catL_bd ls hall ls.length (Nat.le_refl _)
    rw [List.take_length] at this
    rw [ByteArray.size_append, two_size]
    omega
  have hz4 : (two c ++ two n).size = 4 := by rw [ByteArray.size_append, two_size, two_size]
  clear hr hf hc hn hall hg
  generalize two ls.length ++ catL ls = P at *
  have hz6 : ¬ 9223372036854775807 < 4 + P.size := by omega
  go_enter Try.func78, Try.ntmps78
  go_wp2_with fail
  refine HG.out.mono ?_
  rintro e w1 ⟨rfl, b1⟩
  have HB1 := Lib.hid ((B3.new w c n A ls.length q 96).keep b1)
  have HR := Lib.hid (HR0.out.keep b1)
  obtain ⟨⟨d0, _⟩, ⟨d1, _⟩, ⟨d2, _⟩⟩ := HB1.out.cells
  have k1 := below_trans ((Below.refl w.heap.size w).alloc (Nat.le_refl _) _) b1
  clear b1
  generalize two c = tc at *
  generalize two n = tn at *
  go_wp2_with fail
  refine wp_region_held_drew (S := (fun w' => Below w1.heap.size w1 w' ∧ w'.cell? ⟨w.heap.size, 0, none⟩ = some (.int .i64 c) ∧ w'.cell? ⟨w.heap.size, 1, none⟩ = some (.int .i64 n) ∧ w'.cell? ⟨w.heap.size, 2, none⟩ = some (.slice A ls.length q))) (by kernel_rfl) (⟨(Below.refl _ _).drew, d0, d1, d2⟩) (fun hHeld => ?_)
  (refine wpAnyH_take (i := 0) (oi := { dst := some 7, op := Go.Op.fieldAddr 96 (Go.Operand.tmp 1) 0, type := 0, pos := _, after := _, guard := none }) (v := ?_) rfl (by kernel_rfl) (by kernel_rfl) (by kernel_rfl) (fun _ _ _ h => h) (Or.inl ⟨by rfl, ?_⟩) (by assumption) ?_; rotate_left; (intro w hSw; (try dsimp only at hSw); go_simp; try with_reducible rfl); try simp only [Act.put, List.setIfInBounds_toArray, List.set_cons_zero, List.set_cons_succ])
  (refine wpAnyH_take (i := 1) (oi := { dst := some 8, op := Go.Op.load 3 (Go.Operand.tmp 7), type := 3, pos := _, after := _, guard := none }) (v := ?_) rfl (by kernel_rfl) (by kernel_rfl) (by kernel_rfl) (fun _ _ _ h => h) (Or.inl ⟨by rfl, ?_⟩) (by assumption) ?_; rotate_left; (intro w hSw; (try dsimp only at hSw); go_simp; try with_reducible rfl); try simp only [Act.put, List.setIfInBounds_toArray, List.set_cons_zero, List.set_cons_succ])
  (refine wpAnyH_take (i := 3) (oi := { dst := some 10, op := Go.Op.fieldAddr 96 (Go.Operand.tmp 1) 1, type := 0, pos := _, after := _, guard := none }) (v := ?_) rfl (by kernel_rfl) (by kernel_rfl) (by kernel_rfl) (fun _ _ _ h => h) (Or.inl ⟨by rfl, ?_⟩) (by assumption) ?_; rotate_left; (intro w hSw; (try dsimp only at hSw); go_simp; try with_reducible rfl); try simp only [Act.put, List.setIfInBounds_toArray, List.set_cons_zero, List.set_cons_succ])
  (refine wpAnyH_take (i := 4) (oi := { dst := some 11, op := Go.Op.load 3 (Go.Operand.tmp 10), type := 3, pos := _, after := _, guard := none }) (v := ?_) rfl (by kernel_rfl) (by kernel_rfl) (by kernel_rfl) (fun _ _ _ h => h) (Or.inl ⟨by rfl, ?_⟩) (by assumption) ?_; rotate_left; (intro w hSw; (try dsimp only at hSw); go_simp; try with_reducible rfl); try simp only [Act.put, List.setIfInBounds_toArray, List.set_cons_zero, List.set_cons_succ])
  (refine wpAnyH_take (i := 7) (oi := { dst := some 14, op := Go.Op.fieldAddr 96 (Go.Operand.tmp 1) 2, type := 0, pos := _, after := _, guard := none }) (v := ?_) rfl (by kernel_rfl) (by kernel_rfl) (by kernel_rfl) (fun _ _ _ h => h) (Or.inl ⟨by rfl, ?_⟩) (by assumption) ?_; rotate_left; (intro w hSw; (try dsimp only at hSw); go_simp; try with_reducible rfl); try simp only [Act.put, List.setIfInBounds_toArray, List.set_cons_zero, List.set_cons_succ])
  (refine wpAnyH_take (i := 8) (oi := { dst := some 15, op := Go.Op.load 94 (Go.Operand.tmp 14), type := 94, pos := _, after := _, guard := none }) (v := ?_) rfl (by kernel_rfl) (by kernel_rfl) (by kernel_rfl) (fun _ _ _ h => h) (Or.inl ⟨by rfl, ?_⟩) (by assumption) ?_; rotate_left; (intro w hSw; (try dsimp only at hSw); go_simp; try with_reducible rfl); try simp only [Act.put, List.setIfInBounds_toArray, List.set_cons_zero, List.set_cons_succ])
  refine wpAnyH_ready (rs := [2]) (by kernel_rfl) (by simp) ?_
  refine AllReadyH.cons (o := { dst := some 9, op := Go.Op.call { callee := Go.Callee.value (Go.Operand.func 113), args := #[Go.Operand.tmp 8], argTypes := #[3] }, type := 9, pos := _, after := _, guard := none }) rfl (fun K hK => ?_) AllReadyH.nil
  go_simp
  refine (HT1.out _).mono ?_
  rintro e w5 ⟨rfl, b5⟩
  go_wp2_with fail
  refine hK.out _ _ ?_ (fun hHeld2 => ?_)
  · (go_split_ands; exact ⟨Below.trans (by assumption) (b5.mono (Below.size (by assumption))), kc b5 (by assumption), kc b5 (by assumption), kc b5 (by assumption)⟩)
  clear hK K hHeld
  have hHeld := hHeld2
  clear hHeld2
  try simp only [Act.put, List.setIfInBounds_toArray, List.set_cons_zero, List.set_cons_succ]
  refine wpAnyH_ready (rs := [5]) (by kernel_rfl) (by simp) ?_
  refine AllReadyH.cons (o := { dst := some 12, op := Go.Op.call { callee := Go.Callee.value (Go.Operand.func 113), args := #[Go.Operand.tmp 11], argTypes := #[3] }, type := 9, pos := _, after := _, guard := none }) rfl (fun K hK => ?_) AllReadyH.nil
  go_simp
  refine (HT2.out _).mono ?_
  rintro e w5 ⟨rfl, b5⟩
  go_wp2_with fail
  refine hK.out _ _ ?_ (fun hHeld2 => ?_)
  · (go_split_ands; exact ⟨Below.trans (by assumption) (b5.mono (Below.size (by assumption))), kc b5 (by assumption), kc b5 (by assumption), kc b5 (by assumption)⟩)
  clear hK K hHeld
  have hHeld := hHeld2
  clear hHeld2
  try simp only [Act.put, List.setIfInBounds_toArray, List.set_cons_zero, List.set_cons_succ]
  (refine wpAnyH_take (i := 6) (oi := { dst := some 13, op := Go.Op.binOp Go.BinOp.add 9 (Go.Operand.tmp 9) (Go.Operand.tmp 12) 9, type := 9, pos := _, after := _, guard := none }) (v := ?_) rfl (by kernel_rfl) (by kernel_rfl) (by kernel_rfl) (fun _ _ _ h => h) (Or.inl ⟨by rfl, ?_⟩) (by assumption) ?_; rotate_left; (intro w hSw; (try dsimp only at hSw); go_simp; try with_reducible rfl); try simp only [Act.put, List.setIfInBounds_toArray, List.set_cons_zero, List.set_cons_succ])
  refine wpAnyH_ready (rs := [9]) (by kernel_rfl) (by simp) ?_
  refine AllReadyH.cons (o := { dst := some 16, op := Go.Op.call { callee := Go.Callee.value (Go.Operand.func 114), args := #[Go.Operand.tmp 15, Go.Operand.func 115], argTypes := #[94, 131] }, type := 9, pos := _, after := _, guard := none }) rfl (fun K hK => ?_) AllReadyH.nil
  go_simp
  refine (HP.out _ (HR.out.keep (And.left hHeld))).mono ?_
  rintro e w5 ⟨rfl, b5⟩
  go_wp2_with fail
  refine hK.out _ _ ?_ (fun hHeld2 => ?_)
  · (go_split_ands; exact ⟨Below.trans (by assumption) (b5.mono (Below.size (by assumption))), kc b5 (by assumption), kc b5 (by assumption), kc b5 (by assumption)⟩)
  clear hK K hHeld
  have hHeld := hHeld2
  clear hHeld2
  try simp only [Act.put, List.setIfInBounds_toArray, List.set_cons_zero, List.set_cons_succ]
  (refine wpAnyH_take (i := 10) (oi := { dst := some 17, op := Go.Op.binOp Go.BinOp.add 9 (Go.Operand.tmp 13) (Go.Operand.tmp 16) 9, type := 9, pos := _, after := _, guard := none }) (v := ?_) rfl (by kernel_rfl) (by kernel_rfl) (by kernel_rfl) (fun _ _ _ h => h) (Or.inl ⟨by rfl, ?_⟩) (by assumption) ?_; rotate_left; (intro w hSw; (try dsimp only at hSw); go_simp; try with_reducible rfl); try simp only [Act.put, List.setIfInBounds_toArray, List.set_cons_zero, List.set_cons_succ])
  (refine wpAnyH_take (i := 11) (oi := { dst := some 2, op := Go.Op.assign (Go.Operand.tmp 17), type := 9, pos := _, after := _, guard := none }) (v := ?_) rfl (by kernel_rfl) (by kernel_rfl) (by kernel_rfl) (fun _ _ _ h => h) (Or.inl ⟨by rfl, ?_⟩) (by assumption) ?_; rotate_left; (intro w hSw; (try dsimp only at hSw); go_simp; try with_reducible rfl); try simp only [Act.put, List.setIfInBounds_toArray, List.set_cons_zero, List.set_cons_succ])
  (refine wpAnyH_take (i := 12) (oi := { dst := some 3, op := Go.Op.assign (Go.Operand.const (Go.Value.int Go.IntKind.i64 0)), type := 27, pos := _, after := _, guard := none }) (v := ?_) rfl (by kernel_rfl) (by kernel_rfl) (by kernel_rfl) (fun _ _ _ h => h) (Or.inl ⟨by rfl, ?_⟩) (by assumption) ?_; rotate_left; (intro w hSw; (try dsimp only at hSw); go_simp; try with_reducible rfl); try simp only [Act.put, List.setIfInBounds_toArray, List.set_cons_zero, List.set_cons_succ])
  refine wpAnyH_done (by kernel_rfl) ?_ _
  have hbf := k1.trans ((And.left hHeld).mono k1.size)
  go_wp2_with fail
  go_ret2
  exact ⟨by rw [HE.out]; rfl, hbf⟩
set_option maxRecDepth 100000 in
set_option maxHeartbeats 2000000 in
theorem rencr_yes (c n : Nat) (ls : List (List Val)) (A : Option Addr) (q : Nat) (w : World) (hr : RdRows w A ls) (hf : ∀ l ∈ ls, ∀ v ∈ l, v.f < two64) (hc : c ≤ 1000) (hn : n ≤ 65535) (hl : ls.length ≤ 512) (hall : ls.all rowG = true) (hg : goodR ⟨c, n, ls⟩ = true) : Calls Try.prog 83 #[rv c n A ls.length q] w fun e w' => e = .returned (.tuple #[.string (encR ⟨c, n, ls⟩), .int .i64 0]) ∧ Below w.heap.size w w' := by
  have HG := Lib.hid (rgoodr_any ⟨c, n, ls⟩ A q _ (hr.keep ((Below.refl _ _).alloc (Nat.le_refl _) (.cells (a3 c n A ls.length q) 96))) hf)
  rw [hg] at HG
  simp only at HG
  have HT1 := Lib.hid (rtwo_any c (by omega))
  have HT2 := Lib.hid (rtwo_any n (by omega))
  have hz1 := two_size c
  have hz2 := two_size n
  have HT3 := Lib.hid (rtwo_any ls.length (by omega))
  have HF := Lib.hid hf
  have HA := Lib.hid hall
  have HR0 := Lib.hid (hr.keep ((Below.refl _ _).alloc (Nat.le_refl _) (.cells (a3 c n A ls.length q) 96)))
  have HE := Lib.hid (show encR ⟨c, n, ls⟩ = two c ++ two n ++ two ls.length ++ catL ls from rfl)
  have hz3 := two_size ls.length
  have hz4 : (two c ++ two n).size = 4 := by rw [ByteArray.size_append, two_size, two_size]
  have hz5 : (two c ++ two n ++ two ls.length).size = 6 := by rw [ByteArray.size_append, hz4, two_size]
  clear hr hf hc hn hall hg
  go_enter Try.func83, Try.ntmps83
  go_wp2_with fail
  refine HG.out.mono ?_
  rintro e w1 ⟨rfl, b1⟩
  have HB1 := Lib.hid ((B3.new w c n A ls.length q 96).keep b1)
  have HR := Lib.hid (HR0.out.keep b1)
  obtain ⟨⟨d0, _⟩, ⟨d1, _⟩, ⟨d2, _⟩⟩ := HB1.out.cells
  have k1 := below_trans ((Below.refl w.heap.size w).alloc (Nat.le_refl _) _) b1
  clear b1
  generalize two c = tc at *
  generalize two n = tn at *
  generalize two ls.length = tl at *
  go_wp2_with fail
  refine wp_region_held_drew (S := (fun w' => Below w1.heap.size w1 w' ∧ w'.cell? ⟨w.heap.size, 0, none⟩ = some (.int .i64 c) ∧ w'.cell? ⟨w.heap.size, 1, none⟩ = some (.int .i64 n) ∧ w'.cell? ⟨w.heap.size, 2, none⟩ = some (.slice A ls.length q))) (by kernel_rfl) (⟨(Below.refl _ _).drew, d0, d1, d2⟩) (fun hHeld => ?_)
  (refine wpAnyH_take (i := 0) (oi := { dst := some 11, op := Go.Op.fieldAddr 96 (Go.Operand.tmp 1) 0, type := 0, pos := _, after := _, guard := none }) (v := ?_) rfl (by kernel_rfl) (by kernel_rfl) (by kernel_rfl) (fun _ _ _ h => h) (Or.inl ⟨by rfl, ?_⟩) (by assumption) ?_; rotate_left; (intro w hSw; (try dsimp only at hSw); go_simp; try with_reducible rfl); try simp only [Act.put, List.setIfInBounds_toArray, List.set_cons_zero, List.set_cons_succ])
  (refine wpAnyH_take (i := 1) (oi := { dst := some 12, op := Go.Op.load 3 (Go.Operand.tmp 11), type := 3, pos := _, after := _, guard := none }) (v := ?_) rfl (by kernel_rfl) (by kernel_rfl) (by kernel_rfl) (fun _ _ _ h => h) (Or.inl ⟨by rfl, ?_⟩) (by assumption) ?_; rotate_left; (intro w hSw; (try dsimp only at hSw); go_simp; try with_reducible rfl); try simp only [Act.put, List.setIfInBounds_toArray, List.set_cons_zero, List.set_cons_succ])
  (refine wpAnyH_take (i := 3) (oi := { dst := some 14, op := Go.Op.fieldAddr 96 (Go.Operand.tmp 1) 1, type := 0, pos := _, after := _, guard := none }) (v := ?_) rfl (by kernel_rfl) (by kernel_rfl) (by kernel_rfl) (fun _ _ _ h => h) (Or.inl ⟨by rfl, ?_⟩) (by assumption) ?_; rotate_left; (intro w hSw; (try dsimp only at hSw); go_simp; try with_reducible rfl); try simp only [Act.put, List.setIfInBounds_toArray, List.set_cons_zero, List.set_cons_succ])
  (refine wpAnyH_take (i := 4) (oi := { dst := some 15, op := Go.Op.load 3 (Go.Operand.tmp 14), type := 3, pos := _, after := _, guard := none }) (v := ?_) rfl (by kernel_rfl) (by kernel_rfl) (by kernel_rfl) (fun _ _ _ h => h) (Or.inl ⟨by rfl, ?_⟩) (by assumption) ?_; rotate_left; (intro w hSw; (try dsimp only at hSw); go_simp; try with_reducible rfl); try simp only [Act.put, List.setIfInBounds_toArray, List.set_cons_zero, List.set_cons_succ])
  (refine wpAnyH_take (i := 7) (oi := { dst := some 18, op := Go.Op.fieldAddr 96 (Go.Operand.tmp 1) 2, type := 0, pos := _, after := _, guard := none }) (v := ?_) rfl (by kernel_rfl) (by kernel_rfl) (by kernel_rfl) (fun _ _ _ h => h) (Or.inl ⟨by rfl, ?_⟩) (by assumption) ?_; rotate_left; (intro w hSw; (try dsimp only at hSw); go_simp; try with_reducible rfl); try simp only [Act.put, List.setIfInBounds_toArray, List.set_cons_zero, List.set_cons_succ])
  (refine wpAnyH_take (i := 8) (oi := { dst := some 19, op := Go.Op.load 94 (Go.Operand.tmp 18), type := 94, pos := _, after := _, guard := none }) (v := ?_) rfl (by kernel_rfl) (by kernel_rfl) (by kernel_rfl) (fun _ _ _ h => h) (Or.inl ⟨by rfl, ?_⟩) (by assumption) ?_; rotate_left; (intro w hSw; (try dsimp only at hSw); go_simp; try with_reducible rfl); try simp only [Act.put, List.setIfInBounds_toArray, List.set_cons_zero, List.set_cons_succ])
  (refine wpAnyH_take (i := 9) (oi := { dst := some 20, op := Go.Op.call { callee := Go.Callee.builtin Go.Builtin.len, args := #[Go.Operand.tmp 19], argTypes := #[94] }, type := 3, pos := _, after := _, guard := none }) (v := ?_) rfl (by kernel_rfl) (by kernel_rfl) (by kernel_rfl) (fun _ _ _ h => h) (Or.inl ⟨by rfl, ?_⟩) (by assumption) ?_; rotate_left; (intro w hSw; (try dsimp only at hSw); go_simp; try with_reducible rfl); try simp only [Act.put, List.setIfInBounds_toArray, List.set_cons_zero, List.set_cons_succ])
  refine wpAnyH_ready (rs := [2]) (by kernel_rfl) (by simp) ?_
  refine AllReadyH.cons (o := { dst := some 13, op := Go.Op.call { callee := Go.Callee.value (Go.Operand.func 124), args := #[Go.Operand.tmp 12], argTypes := #[3] }, type := 9, pos := _, after := _, guard := none }) rfl (fun K hK => ?_) AllReadyH.nil
  go_simp
  refine (HT1.out _).mono ?_
  rintro e w5 ⟨rfl, b5⟩
  go_wp2_with fail
  refine hK.out _ _ ?_ (fun hHeld2 => ?_)
  · (go_split_ands; exact ⟨Below.trans (by assumption) (b5.mono (Below.size (by assumption))), kc b5 (by assumption), kc b5 (by assumption), kc b5 (by assumption)⟩)
  clear hK K hHeld
  have hHeld := hHeld2
  clear hHeld2
  try simp only [Act.put, List.setIfInBounds_toArray, List.set_cons_zero, List.set_cons_succ]
  refine wpAnyH_ready (rs := [5]) (by kernel_rfl) (by simp) ?_
  refine AllReadyH.cons (o := { dst := some 16, op := Go.Op.call { callee := Go.Callee.value (Go.Operand.func 124), args := #[Go.Operand.tmp 15], argTypes := #[3] }, type := 9, pos := _, after := _, guard := none }) rfl (fun K hK => ?_) AllReadyH.nil
  go_simp
  refine (HT2.out _).mono ?_
  rintro e w5 ⟨rfl, b5⟩
  go_wp2_with fail
  refine hK.out _ _ ?_ (fun hHeld2 => ?_)
  · (go_split_ands; exact ⟨Below.trans (by assumption) (b5.mono (Below.size (by assumption))), kc b5 (by assumption), kc b5 (by assumption), kc b5 (by assumption)⟩)
  clear hK K hHeld
  have hHeld := hHeld2
  clear hHeld2
  try simp only [Act.put, List.setIfInBounds_toArray, List.set_cons_zero, List.set_cons_succ]
  (refine wpAnyH_take (i := 6) (oi := { dst := some 17, op := Go.Op.binOp Go.BinOp.add 9 (Go.Operand.tmp 13) (Go.Operand.tmp 16) 9, type := 9, pos := _, after := _, guard := none }) (v := ?_) rfl (by kernel_rfl) (by kernel_rfl) (by kernel_rfl) (fun _ _ _ h => h) (Or.inl ⟨by rfl, ?_⟩) (by assumption) ?_; rotate_left; (intro w hSw; (try dsimp only at hSw); go_simp; try with_reducible rfl); try simp only [Act.put, List.setIfInBounds_toArray, List.set_cons_zero, List.set_cons_succ])
  refine wpAnyH_ready (rs := [10]) (by kernel_rfl) (by simp) ?_
  refine AllReadyH.cons (o := { dst := some 21, op := Go.Op.call { callee := Go.Callee.value (Go.Operand.func 124), args := #[Go.Operand.tmp 20], argTypes := #[3] }, type := 9, pos := _, after := _, guard := none }) rfl (fun K hK => ?_) AllReadyH.nil
  go_simp
  refine (HT3.out _).mono ?_
  rintro e w5 ⟨rfl, b5⟩
  go_wp2_with fail
  refine hK.out _ _ ?_ (fun hHeld2 => ?_)
  · (go_split_ands; exact ⟨Below.trans (by assumption) (b5.mono (Below.size (by assumption))), kc b5 (by assumption), kc b5 (by assumption), kc b5 (by assumption)⟩)
  clear hK K hHeld
  have hHeld := hHeld2
  clear hHeld2
  try simp only [Act.put, List.setIfInBounds_toArray, List.set_cons_zero, List.set_cons_succ]
  (refine wpAnyH_take (i := 11) (oi := { dst := some 22, op := Go.Op.binOp Go.BinOp.add 9 (Go.Operand.tmp 17) (Go.Operand.tmp 21) 9, type := 9, pos := _, after := _, guard := none }) (v := ?_) rfl (by kernel_rfl) (by kernel_rfl) (by kernel_rfl) (fun _ _ _ h => h) (Or.inl ⟨by rfl, ?_⟩) (by assumption) ?_; rotate_left; (intro w hSw; (try dsimp only at hSw); go_simp; try with_reducible rfl); try simp only [Act.put, List.setIfInBounds_toArray, List.set_cons_zero, List.set_cons_succ])
  (refine wpAnyH_take (i := 12) (oi := { dst := some 4, op := Go.Op.assign (Go.Operand.tmp 22), type := 9, pos := _, after := _, guard := none }) (v := ?_) rfl (by kernel_rfl) (by kernel_rfl) (by kernel_rfl) (fun _ _ _ h => h) (Or.inl ⟨by rfl, ?_⟩) (by assumption) ?_; rotate_left; (intro w hSw; (try dsimp only at hSw); go_simp; try with_reducible rfl); try simp only [Act.put, List.setIfInBounds_toArray, List.set_cons_zero, List.set_cons_succ])
  refine wpAnyH_done (by kernel_rfl) ?_ _
  have hbf := k1.trans ((And.left hHeld).mono k1.size)
  have HK := Lib.hid (HB1.out.keep (And.left hHeld))
  have HRw := Lib.hid (HR.out.keep (And.left hHeld))
  clear d0 d1 d2 k1
  clear hHeld
  go_wp2_with fail
  go_loopw [4, 5] (fun v i wr => ∃ k : Nat, k ≤ ls.length ∧ i = .int .i64 k ∧ v = .string (tc ++ tn ++ tl ++ catL (ls.take k)) ∧ B3 wr w.heap.size c n A ls.length q ∧ RdRows wr A ls ∧ Below w.heap.size w wr) (fun _ i _ => ls.length - (intOf i).toNat)
  case atStart => exact ⟨0, by omega, rfl, by rw [List.take_zero]; exact congrArg Value.string (append_nil _).symm, HK.out, HRw.out, hbf⟩
  case round =>
    obtain ⟨k, hk, rfl, rfl, hB, hR, hb⟩ := hrel
    obtain ⟨⟨d0, _⟩, ⟨d1, _⟩, ⟨d2, _⟩⟩ := hB.cells
    have HB := Lib.hid hB
    have HRr := Lib.hid hR
    clear hB hR
    by_cases hlt : k < ls.length
    · obtain ⟨ad, s, rfl, hc, hr, hn⟩ := HRr.out k hlt
      have hgk : rowG ls[k] = true := List.all_eq_true.1 HA.out _ (List.getElem_mem hlt)
      have hcall := rrow_any s.A s.c ls[k] wr hr (HF.out _ (List.getElem_mem hlt))
      rw [rowS_good hgk, (rowE_iff _).2 hgk] at hcall
      have hst : tc ++ tn ++ tl ++ catL (ls.take (k + 1)) = tc ++ tn ++ tl ++ catL (ls.take k) ++ rowB ls[k] := by rw [catL_step ls k hlt, ByteArray.append_assoc (a := tc ++ tn ++ tl)]
      have hy1 := rowB_bd hgk
      have hy2 := catL_bd ls HA.out k hk
      have hy3 : (tc ++ tn ++ tl ++ catL (ls.take k)).size ≤ 1000000 := by rw [ByteArray.size_append, hz5]; omega
      have hw1 : IntKind.i64.wrap ((k : Int) + 1) = (k : Int) + 1 := by rw [IntKind.wrap_i64]; omega
      generalize ls[k] = l at *
      have Hs := Lib.hid hst
      have HC := Lib.hid hcall
      clear hst hcall hr hn hgk hy2
      generalize tc ++ tn ++ tl ++ catL (ls.take k) = cur at *
      generalize rowB l = y at *
      go_wp2_with fail
      refine HC.out.mono ?_
      rintro e w1 ⟨rfl, b1⟩
      have hb1 := hb.trans (b1.mono hb.size)
      have HB2 := Lib.hid (HB.out.keep b1)
      have HR2 := Lib.hid (HRr.out.keep b1)
      clear d0 d1 d2
      go_wp2_with fail
      exact ⟨⟨k + 1, by omega, by go_num, by rw [Hs.out], HB2.out, HR2.out, hb1⟩, by simp [intOf]; omega⟩
    · obtain rfl : k = ls.length := by omega
      rw [List.take_length]
      go_wp2_with fail
      go_ret2
      exact ⟨by rw [HE.out]; rfl, hb⟩
theorem encr_any (r : Rep) (A : Option Addr) (q : Nat) (w : World) (hr : RdRows w A r.rows) (hf : ∀ l ∈ r.rows, ∀ v ∈ l, v.f < two64) : Calls Try.prog 78 #[rv r.code r.n A r.rows.length q] w fun e w' => e = .returned (.tuple #[.string (repS r), .int .i64 (repE r)]) ∧ Below w.heap.size w w' := by
  cases hg : goodR r with
  | false =>
    have e1 : repS r = ⟨#[]⟩ := if_neg (by rw [hg]; simp)
    have e2 : repE r = 11 := if_neg (by rw [hg]; simp)
    rw [e1, e2]
    exact encr_no r A q w hr hf hg
  | true =>
    have e1 : repS r = encR r := if_pos hg
    have e2 : repE r = 0 := if_pos hg
    rw [e1, e2]
    obtain ⟨⟨c1, c2⟩, ⟨n1, n2⟩, hl, hall⟩ := (goodR_iff r).1 hg
    obtain ⟨c, n, ls⟩ := r
    simp only at *
    obtain ⟨c', rfl⟩ : ∃ c' : Nat, c = c' := ⟨c.toNat, by omega⟩
    obtain ⟨n', rfl⟩ : ∃ n' : Nat, n = n' := ⟨n.toNat, by omega⟩
    exact encr_yes c' n' ls A q w hr hf (by omega) (by omega) hl hall hg
theorem rencr_any (r : Rep) (A : Option Addr) (q : Nat) (w : World) (hr : RdRows w A r.rows) (hf : ∀ l ∈ r.rows, ∀ v ∈ l, v.f < two64) : Calls Try.prog 83 #[rv r.code r.n A r.rows.length q] w fun e w' => e = .returned (.tuple #[.string (repS r), .int .i64 (repE r)]) ∧ Below w.heap.size w w' := by
  cases hg : goodR r with
  | false =>
    have e1 : repS r = ⟨#[]⟩ := if_neg (by rw [hg]; simp)
    have e2 : repE r = 11 := if_neg (by rw [hg]; simp)
    rw [e1, e2]
    exact rencr_no r A q w hr hf hg
  | true =>
    have e1 : repS r = encR r := if_pos hg
    have e2 : repE r = 0 := if_pos hg
    rw [e1, e2]
    obtain ⟨⟨c1, c2⟩, ⟨n1, n2⟩, hl, hall⟩ := (goodR_iff r).1 hg
    obtain ⟨c, n, ls⟩ := r
    simp only at *
    obtain ⟨c', rfl⟩ : ∃ c' : Nat, c = c' := ⟨c.toNat, by omega⟩
    obtain ⟨n', rfl⟩ : ∃ n' : Nat, n = n' := ⟨n.toNat, by omega⟩
    exact rencr_yes c' n' ls A q w hr hf (by omega) (by omega) hl hall hg
end Go.Proofs.Ytmgpecomgffelaa
