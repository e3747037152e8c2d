/- The law ReplyBack: what was encoded is decoded as it was; what was decoded is encoded as it stood. No condition. -/
import Derived.Test.YtmgpecomgffelaaRepI
namespace Go.Proofs.Ytmgpecomgffelaa
open Go.RowKit Go.ChangeShapes Go.WideShapes Go.ChangeAt
set_option linter.unusedVariables false
theorem decR_f {b : ByteArray} {r : Rep} (h : decR b = some r) : ∀ l ∈ r.rows, ∀ v ∈ l, v.f < two64 := by
  obtain ⟨h1, h2, _⟩ := (decR_iff b r).1 h
  exact rowsA_okv b 6 h1 _ _ _ h2
set_option maxRecDepth 100000 in
theorem rback_large (c n : Int) (A : Option Addr) (q : Nat) (ls : List (List Val)) (b : ByteArray) (w : World) (hr : RdRows w A ls) (h : largeRR ls = true) : Tells Try.prog 18 #[rv c n A ls.length q, .string b] w := by
  unfold Tells
  have HL := Lib.hid (large_rows A q ls _ (hr.keep ((Below.refl _ _).alloc (Nat.le_refl _) (.cells (a3 c n A ls.length q) 96))))
  rw [h] at HL
  clear hr h
  go_enter Try.func18, Try.ntmps18
  go_wp2_with fail
  refine HL.out.mono ?_
  rintro e w1 ⟨rfl, b1⟩
  go_wp2_with fail
  refine (rep_wakes _).mono ?_
  rintro e w2 ⟨rfl, b2⟩
  go_wp2_with fail
  go_ret
  exact ⟨rfl, below_trans (below_trans ((Below.refl _ _).alloc (Nat.le_refl _) _) b1) b2⟩
set_option maxRecDepth 100000 in
theorem rback_long (c n : Int) (A : Option Addr) (q : Nat) (ls : List (List Val)) (b : ByteArray) (w : World) (hr : RdRows w A ls) (h : largeRR ls = false) (hb : 30000 < b.size) : Tells Try.prog 18 #[rv c n A ls.length q, .string b] w := by
  unfold Tells
  have t1 : decide ((30000 : Int) < (b.size : Int)) = true := by rw [decide_eq_true]; omega
  have t2 : decide (30000 < b.size) = true := by rw [decide_eq_true]; omega
  have HL := Lib.hid (large_rows A q ls _ (hr.keep ((Below.refl _ _).alloc (Nat.le_refl _) (.cells (a3 c n A ls.length q) 96))))
  rw [h] at HL
  clear hr h hb
  go_enter Try.func18, Try.ntmps18
  go_wp2_with fail
  refine HL.out.mono ?_
  rintro e w1 ⟨rfl, b1⟩
  go_wp2_with fail
  refine (rep_wakes _).mono ?_
  rintro e w2 ⟨rfl, b2⟩
  go_wp2_with fail
  go_ret
  exact ⟨rfl, below_trans (below_trans ((Below.refl _ _).alloc (Nat.le_refl _) _) b1) b2⟩
set_option maxRecDepth 100000 in
set_option maxHeartbeats 2000000 in
theorem rback_gs (c n : Int) (A : Option Addr) (q : Nat) (ls : List (List Val)) (b : ByteArray) (w : World) (hr : RdRows w A ls) (hk : ∀ l ∈ ls, ∀ v ∈ l, v.ok) (h : largeRR ls = false) (hb : ¬ 30000 < b.size) (hg : goodR ⟨c, n, ls⟩ = true) (r : Rep) (ho : decR b = some r) : Tells Try.prog 18 #[rv c n A ls.length q, .string b] w := by
  unfold Tells
  have t1 : decide ((30000 : Int) < (b.size : Int)) = false := by rw [decide_eq_false]; omega
  have t2 : decide (30000 < b.size) = false := by rw [decide_eq_false]; omega
  have k0 : Below w.heap.size w (w.alloc (.cells (a3 c n A ls.length q) 96)) := (Below.refl _ _).alloc (Nat.le_refl _) _
  have HL := Lib.hid (large_rows A q ls _ (hr.keep k0))
  rw [h] at HL
  have hbd := largeRR_no h
  have lx : ∀ l ∈ ls, l.length ≤ 1000 := fun l hl => by have := hbd.2 l hl; omega
  have HR0 := Lib.hid (hr.keep k0)
  have HB0 := Lib.hid (B3.new w c n A ls.length q 96)
  have HC := Lib.hid (fun w' (hw : RdRows w' A ls) => copied_any c n A q ls w' hw (by omega) lx)
  have HE : Hid (∀ A' q' w', RdRows w' A' ls → _) := Lib.hid (fun A' q' w' (hw : RdRows w' A' ls) => encr_any ⟨c, n, ls⟩ A' q' w' hw (fun l hl v hv => (hk l hl v hv).2))
  simp only at HE
  have HD := Lib.hid (pdec_any b (by omega))
  have hS : repS ⟨c, n, ls⟩ = encR ⟨c, n, ls⟩ := if_pos hg
  have hE : repE ⟨c, n, ls⟩ = 0 := if_pos hg
  rw [hS, hE] at HE
  have HX := Lib.hid (pdec_any (encR ⟨c, n, ls⟩) (encR_bd _ hg))
  have hdec := dec_encR ⟨c, n, ls⟩ hg hk
  have v1 : repV (encR ⟨c, n, ls⟩) = ⟨c, n, ls⟩ := by unfold repV; rw [hdec]; rfl
  have v2 : repX (encR ⟨c, n, ls⟩) = 0 := by unfold repX; rw [hdec]; rfl
  unfold DecP at HX
  rw [v1, v2] at HX
  simp only at HX
  generalize encR ⟨c, n, ls⟩ = S at *
  have HK := Lib.hid (fun A' q' w' (h1 : RdRows w' A ls) (h2 : RdRows w' A' ls) => keep_same c n A A' q q' ls w' h1 h2 (by omega) lx)
  have HU := Lib.hid (fun A' q' w' (h1 : RdRows w' A ls) (h3 : RdRows w' A' ls) => samer_any ⟨c, n, ls⟩ ⟨c, n, ls⟩ A A' q q' w' h1 h3 (by show ls.length ≤ _; omega) (by show ls.length ≤ _; omega) lx lx)
  rw [sameR_self] at HU
  simp only at HU
  clear hS hE hdec v1 v2
  have u1 : repV b = r := by unfold repV; rw [ho]; rfl
  have u2 : repX b = 0 := by unfold repX; rw [ho]; rfl
  unfold DecP at HD
  rw [u1, u2] at HD
  obtain ⟨g1, g2⟩ := enc_decR ho
  have HE2 := Lib.hid (fun A' q' w' hw => encr_any r A' q' w' hw (decR_f ho))
  have hS2 : repS r = b := (if_pos g1).trans g2
  have hE2 : repE r = 0 := if_pos g1
  rw [hS2, hE2] at HE2
  have e9 : (b.toList == b.toList) = true := beq_self_eq_true _
  clear u1 u2 g1 g2 hS2 hE2 ho
  obtain ⟨rc, rn, rl⟩ := r
  simp only at HD HE2
  clear hr hk h hbd lx hb hg
  go_enter Try.func18, Try.ntmps18
  go_wp2_with fail
  refine HL.out.mono ?_
  rintro e w1 ⟨rfl, b1⟩
  have k1 := k0.trans (b1.mono k0.size)
  have HR1 := Lib.hid (HR0.out.keep b1)
  have HB1 := Lib.hid (HB0.out.keep b1)
  obtain ⟨⟨c0, _⟩, ⟨c1, _⟩, ⟨c2, _⟩⟩ := HB1.out.cells
  clear b1 k0 HR0 HB0
  go_wp2_with fail
  refine (HC.out _ HR1.out).mono ?_
  rintro e w2 ⟨A2, q2, rfl, hR2, hn2, b2⟩
  have k2 := k1.trans (b2.mono k1.size)
  have HX2 := Lib.hid hR2
  have HR2 := Lib.hid (HR1.out.keep b2)
  have HB2 := Lib.hid (HB1.out.keep b2)
  clear c0 c1 c2 hR2 hn2 b2 k1 HR1 HB1
  go_wp2_with fail
  refine (HE.out _ _ _ HX2.out).mono ?_
  rintro e w3 ⟨rfl, b3⟩
  have k3 := k2.trans (b3.mono k2.size)
  have HR3 := Lib.hid (HR2.out.keep b3)
  have HB3 := Lib.hid (HB2.out.keep b3)
  clear b3 k2 HX2 HR2 HB2
  go_wp2_with fail
  refine (HX.out _).mono ?_
  rintro e w4 ⟨A4, q4, rfl, hR4, hn4, b4⟩
  have k4 := (k3.trans (b4.mono k3.size)).alloc (k3.trans (b4.mono k3.size)).size (.cells (a3 c n A4 ls.length q4) 96)
  have HX4 := Lib.hid (hR4.keep ((Below.refl _ _).alloc (Nat.le_refl _) (.cells (a3 c n A4 ls.length q4) 96)))
  have HR4 := Lib.hid ((HR3.out.keep b4).keep ((Below.refl _ _).alloc (Nat.le_refl _) (.cells (a3 c n A4 ls.length q4) 96)))
  have HB4 := Lib.hid ((HB3.out.keep b4).alloc (.cells (a3 c n A4 ls.length q4) 96))
  have HT4 := Lib.hid (B3.new w4 c n A4 ls.length q4 96)
  obtain ⟨⟨c0, _⟩, ⟨c1, _⟩, ⟨c2, _⟩⟩ := HB4.out.cells
  have hlt : w.heap.size < w4.heap.size := (HB3.out.keep b4).lt
  have hn1 : w4.heap.size ≠ w.heap.size := by omega
  have hn3 : w.heap.size ≠ w4.heap.size := by omega
  clear hR4 hn4 b4 k3 HR3 HB3
  go_wp2_with fail
  refine (HK.out _ _ _ HR4.out HX4.out).mono ?_
  rintro e w5 ⟨rfl, b5⟩
  have k5 := k4.trans (b5.mono k4.size)
  have HX5 := Lib.hid (HX4.out.keep b5)
  have HR5 := Lib.hid (HR4.out.keep b5)
  clear c0 c1 c2
  obtain ⟨⟨c0, _⟩, ⟨c1, _⟩, ⟨c2, _⟩⟩ := (HB4.out.keep b5).cells
  obtain ⟨⟨f0, _⟩, ⟨f1, _⟩, ⟨f2, _⟩⟩ := (HT4.out.keep b5).cells
  clear b5 k4 HX4 HR4 HB4 HT4 hn1 hn3
  go_wp2_with fail
  refine (HU.out _ _ _ HR5.out HX5.out).mono ?_
  rintro e w6 ⟨rfl, b6⟩
  have k6 := k5.trans (b6.mono k5.size)
  clear c0 c1 c2 f0 f1 f2 b6 k5 HX5 HR5
  go_wp2_with fail
  refine (HD.out _).mono ?_
  rintro e w7 ⟨A7, q7, rfl, hR7, hn7, b7⟩
  have k7 := (k6.trans (b7.mono k6.size)).alloc (k6.trans (b7.mono k6.size)).size (.cells (a3 rc rn A7 rl.length q7) 96)
  have HR7 := Lib.hid (hR7.keep ((Below.refl _ _).alloc (Nat.le_refl _) (.cells (a3 rc rn A7 rl.length q7) 96)))
  clear hR7 hn7 b7 k6
  go_wp2_with fail
  refine (HE2.out _ _ _ HR7.out).mono ?_
  rintro e w8 ⟨rfl, b8⟩
  have k8 := k7.trans (b8.mono k7.size)
  clear b8
  go_wp2_with fail
  refine (rep_wakes _).mono ?_
  rintro e w9 ⟨rfl, b9⟩
  go_wp2_with fail
  go_ret
  exact ⟨rfl, k8.trans (b9.mono k8.size)⟩
set_option maxRecDepth 100000 in
set_option maxHeartbeats 2000000 in
theorem rback_gn (c n : Int) (A : Option Addr) (q : Nat) (ls : List (List Val)) (b : ByteArray) (w : World) (hr : RdRows w A ls) (hk : ∀ l ∈ ls, ∀ v ∈ l, v.ok) (h : largeRR ls = false) (hb : ¬ 30000 < b.size) (hg : goodR ⟨c, n, ls⟩ = true) (ho : decR b = none) : Tells Try.prog 18 #[rv c n A ls.length q, .string b] w := by
  unfold Tells
  have t1 : decide ((30000 : Int) < (b.size : Int)) = false := by rw [decide_eq_false]; omega
  have t2 : decide (30000 < b.size) = false := by rw [decide_eq_false]; omega
  have k0 : Below w.heap.size w (w.alloc (.cells (a3 c n A ls.length q) 96)) := (Below.refl _ _).alloc (Nat.le_refl _) _
  have HL := Lib.hid (large_rows A q ls _ (hr.keep k0))
  rw [h] at HL
  have hbd := largeRR_no h
  have lx : ∀ l ∈ ls, l.length ≤ 1000 := fun l hl => by have := hbd.2 l hl; omega
  have HR0 := Lib.hid (hr.keep k0)
  have HB0 := Lib.hid (B3.new w c n A ls.length q 96)
  have HC := Lib.hid (fun w' (hw : RdRows w' A ls) => copied_any c n A q ls w' hw (by omega) lx)
  have HE : Hid (∀ A' q' w', RdRows w' A' ls → _) := Lib.hid (fun A' q' w' (hw : RdRows w' A' ls) => encr_any ⟨c, n, ls⟩ A' q' w' hw (fun l hl v hv => (hk l hl v hv).2))
  simp only at HE
  have HD := Lib.hid (pdec_any b (by omega))
  have hS : repS ⟨c, n, ls⟩ = encR ⟨c, n, ls⟩ := if_pos hg
  have hE : repE ⟨c, n, ls⟩ = 0 := if_pos hg
  rw [hS, hE] at HE
  have HX := Lib.hid (pdec_any (encR ⟨c, n, ls⟩) (encR_bd _ hg))
  have hdec := dec_encR ⟨c, n, ls⟩ hg hk
  have v1 : repV (encR ⟨c, n, ls⟩) = ⟨c, n, ls⟩ := by unfold repV; rw [hdec]; rfl
  have v2 : repX (encR ⟨c, n, ls⟩) = 0 := by unfold repX; rw [hdec]; rfl
  unfold DecP at HX
  rw [v1, v2] at HX
  simp only at HX
  generalize encR ⟨c, n, ls⟩ = S at *
  have HK := Lib.hid (fun A' q' w' (h1 : RdRows w' A ls) (h2 : RdRows w' A' ls) => keep_same c n A A' q q' ls w' h1 h2 (by omega) lx)
  have HU := Lib.hid (fun A' q' w' (h1 : RdRows w' A ls) (h3 : RdRows w' A' ls) => samer_any ⟨c, n, ls⟩ ⟨c, n, ls⟩ A A' q q' w' h1 h3 (by show ls.length ≤ _; omega) (by show ls.length ≤ _; omega) lx lx)
  rw [sameR_self] at HU
  simp only at HU
  clear hS hE hdec v1 v2
  have u1 : repV b = R0 := by unfold repV; rw [ho]; rfl
  have u2 : repX b = 11 := by unfold repX; rw [ho]; rfl
  unfold DecP at HD
  rw [u1, u2] at HD
  simp only [R0, List.length_nil] at HD
  clear u1 u2 ho
  clear hr hk h hbd lx hb hg
  go_enter Try.func18, Try.ntmps18
  go_wp2_with fail
  refine HL.out.mono ?_
  rintro e w1 ⟨rfl, b1⟩
  have k1 := k0.trans (b1.mono k0.size)
  have HR1 := Lib.hid (HR0.out.keep b1)
  have HB1 := Lib.hid (HB0.out.keep b1)
  obtain ⟨⟨c0, _⟩, ⟨c1, _⟩, ⟨c2, _⟩⟩ := HB1.out.cells
  clear b1 k0 HR0 HB0
  go_wp2_with fail
  refine (HC.out _ HR1.out).mono ?_
  rintro e w2 ⟨A2, q2, rfl, hR2, hn2, b2⟩
  have k2 := k1.trans (b2.mono k1.size)
  have HX2 := Lib.hid hR2
  have HR2 := Lib.hid (HR1.out.keep b2)
  have HB2 := Lib.hid (HB1.out.keep b2)
  clear c0 c1 c2 hR2 hn2 b2 k1 HR1 HB1
  go_wp2_with fail
  refine (HE.out _ _ _ HX2.out).mono ?_
  rintro e w3 ⟨rfl, b3⟩
  have k3 := k2.trans (b3.mono k2.size)
  have HR3 := Lib.hid (HR2.out.keep b3)
  have HB3 := Lib.hid (HB2.out.keep b3)
  clear b3 k2 HX2 HR2 HB2
  go_wp2_with fail
  refine (HX.out _).mono ?_
  rintro e w4 ⟨A4, q4, rfl, hR4, hn4, b4⟩
  have k4 := (k3.trans (b4.mono k3.size)).alloc (k3.trans (b4.mono k3.size)).size (.cells (a3 c n A4 ls.length q4) 96)
  have HX4 := Lib.hid (hR4.keep ((Below.refl _ _).alloc (Nat.le_refl _) (.cells (a3 c n A4 ls.length q4) 96)))
  have HR4 := Lib.hid ((HR3.out.keep b4).keep ((Below.refl _ _).alloc (Nat.le_refl _) (.cells (a3 c n A4 ls.length q4) 96)))
  have HB4 := Lib.hid ((HB3.out.keep b4).alloc (.cells (a3 c n A4 ls.length q4) 96))
  have HT4 := Lib.hid (B3.new w4 c n A4 ls.length q4 96)
  obtain ⟨⟨c0, _⟩, ⟨c1, _⟩, ⟨c2, _⟩⟩ := HB4.out.cells
  have hlt : w.heap.size < w4.heap.size := (HB3.out.keep b4).lt
  have hn1 : w4.heap.size ≠ w.heap.size := by omega
  have hn3 : w.heap.size ≠ w4.heap.size := by omega
  clear hR4 hn4 b4 k3 HR3 HB3
  go_wp2_with fail
  refine (HK.out _ _ _ HR4.out HX4.out).mono ?_
  rintro e w5 ⟨rfl, b5⟩
  have k5 := k4.trans (b5.mono k4.size)
  have HX5 := Lib.hid (HX4.out.keep b5)
  have HR5 := Lib.hid (HR4.out.keep b5)
  clear c0 c1 c2
  obtain ⟨⟨c0, _⟩, ⟨c1, _⟩, ⟨c2, _⟩⟩ := (HB4.out.keep b5).cells
  obtain ⟨⟨f0, _⟩, ⟨f1, _⟩, ⟨f2, _⟩⟩ := (HT4.out.keep b5).cells
  clear b5 k4 HX4 HR4 HB4 HT4 hn1 hn3
  go_wp2_with fail
  refine (HU.out _ _ _ HR5.out HX5.out).mono ?_
  rintro e w6 ⟨rfl, b6⟩
  have k6 := k5.trans (b6.mono k5.size)
  clear c0 c1 c2 f0 f1 f2 b6 k5 HX5 HR5
  go_wp2_with fail
  refine (HD.out _).mono ?_
  rintro e w7 ⟨A7, q7, rfl, hR7, hn7, b7⟩
  have k7 := (k6.trans (b7.mono k6.size)).alloc (k6.trans (b7.mono k6.size)).size (.cells (a3 0 0 A7 0 q7) 96)
  clear hR7 hn7 b7 k6
  go_wp2_with fail
  refine (rep_wakes _).mono ?_
  rintro e w9 ⟨rfl, b9⟩
  go_wp2_with fail
  go_ret
  exact ⟨rfl, k7.trans (b9.mono k7.size)⟩
set_option maxRecDepth 100000 in
set_option maxHeartbeats 2000000 in
theorem rback_bs (c n : Int) (A : Option Addr) (q : Nat) (ls : List (List Val)) (b : ByteArray) (w : World) (hr : RdRows w A ls) (hk : ∀ l ∈ ls, ∀ v ∈ l, v.ok) (h : largeRR ls = false) (hb : ¬ 30000 < b.size) (hg : goodR ⟨c, n, ls⟩ = false) (r : Rep) (ho : decR b = some r) : Tells Try.prog 18 #[rv c n A ls.length q, .string b] w := by
  unfold Tells
  have t1 : decide ((30000 : Int) < (b.size : Int)) = false := by rw [decide_eq_false]; omega
  have t2 : decide (30000 < b.size) = false := by rw [decide_eq_false]; omega
  have k0 : Below w.heap.size w (w.alloc (.cells (a3 c n A ls.length q) 96)) := (Below.refl _ _).alloc (Nat.le_refl _) _
  have HL := Lib.hid (large_rows A q ls _ (hr.keep k0))
  rw [h] at HL
  have hbd := largeRR_no h
  have lx : ∀ l ∈ ls, l.length ≤ 1000 := fun l hl => by have := hbd.2 l hl; omega
  have HR0 := Lib.hid (hr.keep k0)
  have HB0 := Lib.hid (B3.new w c n A ls.length q 96)
  have HC := Lib.hid (fun w' (hw : RdRows w' A ls) => copied_any c n A q ls w' hw (by omega) lx)
  have HE : Hid (∀ A' q' w', RdRows w' A' ls → _) := Lib.hid (fun A' q' w' (hw : RdRows w' A' ls) => encr_any ⟨c, n, ls⟩ A' q' w' hw (fun l hl v hv => (hk l hl v hv).2))
  simp only at HE
  have HD := Lib.hid (pdec_any b (by omega))
  have hS : repS ⟨c, n, ls⟩ = ⟨#[]⟩ := if_neg (by rw [hg]; simp)
  have hE : repE ⟨c, n, ls⟩ = 11 := if_neg (by rw [hg]; simp)
  rw [hS, hE] at HE
  clear hS hE
  have u1 : repV b = r := by unfold repV; rw [ho]; rfl
  have u2 : repX b = 0 := by unfold repX; rw [ho]; rfl
  unfold DecP at HD
  rw [u1, u2] at HD
  obtain ⟨g1, g2⟩ := enc_decR ho
  have HE2 := Lib.hid (fun A' q' w' hw => encr_any r A' q' w' hw (decR_f ho))
  have hS2 : repS r = b := (if_pos g1).trans g2
  have hE2 : repE r = 0 := if_pos g1
  rw [hS2, hE2] at HE2
  have e9 : (b.toList == b.toList) = true := beq_self_eq_true _
  clear u1 u2 g1 g2 hS2 hE2 ho
  obtain ⟨rc, rn, rl⟩ := r
  simp only at HD HE2
  clear hr hk h hbd lx hb hg
  go_enter Try.func18, Try.ntmps18
  go_wp2_with fail
  refine HL.out.mono ?_
  rintro e w1 ⟨rfl, b1⟩
  have k1 := k0.trans (b1.mono k0.size)
  have HR1 := Lib.hid (HR0.out.keep b1)
  have HB1 := Lib.hid (HB0.out.keep b1)
  obtain ⟨⟨c0, _⟩, ⟨c1, _⟩, ⟨c2, _⟩⟩ := HB1.out.cells
  clear b1 k0 HR0 HB0
  go_wp2_with fail
  refine (HC.out _ HR1.out).mono ?_
  rintro e w2 ⟨A2, q2, rfl, hR2, hn2, b2⟩
  have k2 := k1.trans (b2.mono k1.size)
  have HX2 := Lib.hid hR2
  have HR2 := Lib.hid (HR1.out.keep b2)
  have HB2 := Lib.hid (HB1.out.keep b2)
  clear c0 c1 c2 hR2 hn2 b2 k1 HR1 HB1
  go_wp2_with fail
  refine (HE.out _ _ _ HX2.out).mono ?_
  rintro e w3 ⟨rfl, b3⟩
  have k3 := k2.trans (b3.mono k2.size)
  have HR3 := Lib.hid (HR2.out.keep b3)
  have HB3 := Lib.hid (HB2.out.keep b3)
  clear b3 k2 HX2 HR2 HB2
  clear HR3 HB3
  go_wp2_with fail
  refine (HD.out _).mono ?_
  rintro e w7 ⟨A7, q7, rfl, hR7, hn7, b7⟩
  have k7 := (k3.trans (b7.mono k3.size)).alloc (k3.trans (b7.mono k3.size)).size (.cells (a3 rc rn A7 rl.length q7) 96)
  have HR7 := Lib.hid (hR7.keep ((Below.refl _ _).alloc (Nat.le_refl _) (.cells (a3 rc rn A7 rl.length q7) 96)))
  clear hR7 hn7 b7 k3
  go_wp2_with fail
  refine (HE2.out _ _ _ HR7.out).mono ?_
  rintro e w8 ⟨rfl, b8⟩
  have k8 := k7.trans (b8.mono k7.size)
  clear b8
  go_wp2_with fail
  refine (rep_wakes _).mono ?_
  rintro e w9 ⟨rfl, b9⟩
  go_wp2_with fail
  go_ret
  exact ⟨rfl, k8.trans (b9.mono k8.size)⟩
set_option maxRecDepth 100000 in
set_option maxHeartbeats 2000000 in
theorem rback_bn (c n : Int) (A : Option Addr) (q : Nat) (ls : List (List Val)) (b : ByteArray) (w : World) (hr : RdRows w A ls) (hk : ∀ l ∈ ls, ∀ v ∈ l, v.ok) (h : largeRR ls = false) (hb : ¬ 30000 < b.size) (hg : goodR ⟨c, n, ls⟩ = false) (ho : decR b = none) : Tells Try.prog 18 #[rv c n A ls.length q, .string b] w := by
  unfold Tells
  have t1 : decide ((30000 : Int) < (b.size : Int)) = false := by rw [decide_eq_false]; omega
  have t2 : decide (30000 < b.size) = false := by rw [decide_eq_false]; omega
  have k0 : Below w.heap.size w (w.alloc (.cells (a3 c n A ls.length q) 96)) := (Below.refl _ _).alloc (Nat.le_refl _) _
  have HL := Lib.hid (large_rows A q ls _ (hr.keep k0))
  rw [h] at HL
  have hbd := largeRR_no h
  have lx : ∀ l ∈ ls, l.length ≤ 1000 := fun l hl => by have := hbd.2 l hl; omega
  have HR0 := Lib.hid (hr.keep k0)
  have HB0 := Lib.hid (B3.new w c n A ls.length q 96)
  have HC := Lib.hid (fun w' (hw : RdRows w' A ls) => copied_any c n A q ls w' hw (by omega) lx)
  have HE : Hid (∀ A' q' w', RdRows w' A' ls → _) := Lib.hid (fun A' q' w' (hw : RdRows w' A' ls) => encr_any ⟨c, n, ls⟩ A' q' w' hw (fun l hl v hv => (hk l hl v hv).2))
  simp only at HE
  have HD := Lib.hid (pdec_any b (by omega))
  have hS : repS ⟨c, n, ls⟩ = ⟨#[]⟩ := if_neg (by rw [hg]; simp)
  have hE : repE ⟨c, n, ls⟩ = 11 := if_neg (by rw [hg]; simp)
  rw [hS, hE] at HE
  clear hS hE
  have u1 : repV b = R0 := by unfold repV; rw [ho]; rfl
  have u2 : repX b = 11 := by unfold repX; rw [ho]; rfl
  unfold DecP at HD
  rw [u1, u2] at HD
  simp only [R0, List.length_nil] at HD
  clear u1 u2 ho
  clear hr hk h hbd lx hb hg
  go_enter Try.func18, Try.ntmps18
  go_wp2_with fail
  refine HL.out.mono ?_
  rintro e w1 ⟨rfl, b1⟩
  have k1 := k0.trans (b1.mono k0.size)
  have HR1 := Lib.hid (HR0.out.keep b1)
  have HB1 := Lib.hid (HB0.out.keep b1)
  obtain ⟨⟨c0, _⟩, ⟨c1, _⟩, ⟨c2, _⟩⟩ := HB1.out.cells
  clear b1 k0 HR0 HB0
  go_wp2_with fail
  refine (HC.out _ HR1.out).mono ?_
  rintro e w2 ⟨A2, q2, rfl, hR2, hn2, b2⟩
  have k2 := k1.trans (b2.mono k1.size)
  have HX2 := Lib.hid hR2
  have HR2 := Lib.hid (HR1.out.keep b2)
  have HB2 := Lib.hid (HB1.out.keep b2)
  clear c0 c1 c2 hR2 hn2 b2 k1 HR1 HB1
  go_wp2_with fail
  refine (HE.out _ _ _ HX2.out).mono ?_
  rintro e w3 ⟨rfl, b3⟩
  have k3 := k2.trans (b3.mono k2.size)
  have HR3 := Lib.hid (HR2.out.keep b3)
  have HB3 := Lib.hid (HB2.out.keep b3)
  clear b3 k2 HX2 HR2 HB2
  clear HR3 HB3
  go_wp2_with fail
  refine (HD.out _).mono ?_
  rintro e w7 ⟨A7, q7, rfl, hR7, hn7, b7⟩
  have k7 := (k3.trans (b7.mono k3.size)).alloc (k3.trans (b7.mono k3.size)).size (.cells (a3 0 0 A7 0 q7) 96)
  clear hR7 hn7 b7 k3
  go_wp2_with fail
  refine (rep_wakes _).mono ?_
  rintro e w9 ⟨rfl, b9⟩
  go_wp2_with fail
  go_ret
  exact ⟨rfl, k7.trans (b9.mono k7.size)⟩

set_option maxRecDepth 100000 in
theorem replyBack_lifted (os : Os) (started : os.Started) (H : Type) (enc : TypeId × Value → H) :
    ReturnsInHanded {} Try.checked os 18 .any (Rows.replyBackSpec.pre6 enc Try.prog Try.f18 [] false) (Rows.replyBackSpec.post enc Try.prog Try.f18 false true false false) := by
  refine law_lifted (C := Try.checked) own started (by kernel_rfl) Try.func18
    (ChangeSpec.witness6 (enc := enc) (C := Try.checked) false ⟨#[], #[.agg #[.int .i64 0, .int .i64 0, .slice none 0 0], .string ⟨#[]⟩], []⟩ 8 (by kernel_rfl) (by kernel_rfl) (by kernel_rfl) (by kernel_rfl))
    rfl (fun ds h => by match ds, h with | [_, _], _ => rfl) laid (by kernel_rfl) (tb := 4) rfl Try.underlying4 ?_
  intro W base args ds ps hval hA hsz
  rw [Try.params18] at hA hval hsz
  obtain ⟨v0, v1, d0, d1, q0, q1, rfl, rfl, rfl, h0, h1⟩ := trodAll_two hA
  obtain ⟨c, n, A, q, ls, rfl, hr, hw, _⟩ := open_rep (hval 0 96 v0 rfl rfl) h0
  obtain ⟨b, rfl, _⟩ := open_str (hval 1 9 v1 rfl rfl) h1
  have hk : ∀ l ∈ ls, ∀ v ∈ l, v.ok := fun l hl v hv => wf_ok (hw l hl v hv)
  cases h : largeRR ls with
  | true => exact rback_large c n A q ls b W hr h
  | false =>
  by_cases hb : 30000 < b.size
  · exact rback_long c n A q ls b W hr h hb
  cases hg : goodR ⟨c, n, ls⟩ with
  | true =>
    cases ho : decR b with
    | none => exact rback_gn c n A q ls b W hr hk h hb hg ho
    | some r => exact rback_gs c n A q ls b W hr hk h hb hg r ho
  | false =>
    cases ho : decR b with
    | none => exact rback_bn c n A q ls b W hr hk h hb hg ho
    | some r =>
      exact rback_bs c n A q ls b W hr hk h hb hg r ho

theorem replyBack_holds : Rows.ReplyBackSaid :=
  OpenClaim.holds_of_wide 18 Try.f18 rfl rfl rfl rfl rfl rfl rfl ⟨rfl, rfl, rfl, rfl, rfl⟩ rfl rfl rfl rfl rfl (by kernel_rfl) Try.func18 (by kernel_rfl)
    (of_decide_eq_true (by kernel_rfl)) (by unfold Func.isWrapper; first | (rw [if_pos (by decide +kernel)]; kernel_rfl) | (rw [if_neg (by decide +kernel)]; exact ⟨rfl, rfl⟩))
    (fun os started H enc _ => replyBack_lifted os started H enc)
#print axioms replyBack_holds
end Go.Proofs.Ytmgpecomgffelaa
