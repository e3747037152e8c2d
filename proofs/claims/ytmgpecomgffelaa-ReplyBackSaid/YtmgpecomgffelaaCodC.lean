/- Contracts: a value's bytes, of the program and of the reference. -/
import Derived.Test.YtmgpecomgffelaaCodB
import Derived.Test.YtmgpecomgffelaaRowJ
namespace Go.Proofs.Ytmgpecomgffelaa
open Go.RowKit
set_option linter.unusedVariables false
theorem convL (l : List Nat) (hl : ∀ x ∈ l, x < 256) (w : World) (b n : Nat) (hb : b = w.heap.size) (hn : n = l.length) (cs : Array Value) (hcs : cs = (l.map fun (d : Nat) => Value.int IntKind.u8 (d : Int)).toArray) :
    (convert 111 9 (.slice (some ⟨b, 0, none⟩) n n)).run Try.prog (w.alloc (.cells cs 5)) = .ok (.string (bs l)) (w.alloc (.cells cs 5)) := by
  subst hb hn hcs
  have h := run_convert_bytes_back (P := Try.prog) (w.alloc (.cells (l.map fun (d : Nat) => Value.int IntKind.u8 (d : Int)).toArray 5)) 111 9 5 ⟨w.heap.size, 0, none⟩ l.length (l.map UInt8.ofNat) Try.underlying111 Try.underlying5 Try.underlying9 (fun j hj => by
    have e : (⟨w.heap.size, 0, none⟩ : Addr).add j = ⟨w.heap.size, j, none⟩ := by unfold Addr.add; split <;> simp_all
    rw [e, World.cell?_alloc_new]
    have hj' : j < l.length := by simpa using hj
    have := hl l[j] (List.getElem_mem hj')
    simp [hj']
    omega)
  rw [List.length_map] at h
  exact h
theorem conv1 (w : World) (b : Nat) (hb : b = w.heap.size) (n : Int) (h0 : 0 ≤ n) (h : n < 256) :
    (convert 111 9 (.slice (some ⟨b, 0, none⟩) 1 1)).run Try.prog (w.alloc (.cells #[.int .u8 n] 5)) = .ok (.string (bs [n.toNat])) (w.alloc (.cells #[.int .u8 n] 5)) :=
  convL [n.toNat] (fun x hx => by obtain rfl := List.mem_singleton.1 hx; omega) w b 1 hb rfl _ (by simp; omega)
theorem conv2 (w : World) (b : Nat) (hb : b = w.heap.size) (n m : Int) (h0 : 0 ≤ n) (h : n < 256) (h1 : 0 ≤ m) (h2 : m < 256) :
    (convert 111 9 (.slice (some ⟨b, 0, none⟩) 2 2)).run Try.prog (w.alloc (.cells #[.int .u8 n, .int .u8 m] 5)) = .ok (.string (bs [n.toNat, m.toNat])) (w.alloc (.cells #[.int .u8 n, .int .u8 m] 5)) :=
  convL [n.toNat, m.toNat] (fun x hx => by simp at hx; omega) w b 2 hb rfl _ (by simp; omega)
set_option maxRecDepth 100000 in
theorem enc_0 (n : Int) (f : Nat) (s : ByteArray) (hf : f < two64) (hg : goodV 0 n f s = true) (w : World) : Calls Try.prog 25 #[vv 0 n f s] w fun e w' => e = .returned (.tuple #[.string (encV 0 n f s), .int .i64 0]) ∧ Below w.heap.size w w' := by
  have hst := run_sf
  have hG := good_any 0 n f s
  rw [hg] at hG
  clear hg
  go_enter Try.func25, Try.ntmps25
  go_wp2_with fail
  refine (hG _).mono ?_
  rintro e w1 ⟨rfl, h1⟩
  have hbb := below_trans ((Below.refl w.heap.size w).alloc (Nat.le_refl _) _) h1
  have q0 : w1.cell? ⟨w.heap.size, 0, none⟩ = some (.int .i64 0) := (h1.cell (p := ⟨w.heap.size, 0, none⟩) (by simp)).trans (by rw [World.cell?_alloc_new]; rfl)
  have q1 : w1.cell? ⟨w.heap.size, 1, none⟩ = some (.int .i64 n) := (h1.cell (p := ⟨w.heap.size, 1, none⟩) (by simp)).trans (by rw [World.cell?_alloc_new]; rfl)
  have q2 : w1.cell? ⟨w.heap.size, 2, none⟩ = some (.float .f64 f) := (h1.cell (p := ⟨w.heap.size, 2, none⟩) (by simp)).trans (by rw [World.cell?_alloc_new]; rfl)
  have q3 : w1.cell? ⟨w.heap.size, 3, none⟩ = some (.string s) := (h1.cell (p := ⟨w.heap.size, 3, none⟩) (by simp)).trans (by rw [World.cell?_alloc_new]; rfl)
  have hsz : w.heap.size < w1.heap.size := by have := h1.size; simp at this; omega
  have z0 : w1.heap.size ≠ w.heap.size := by omega
  have z1 : w1.heap.size + 1 ≠ w.heap.size := by omega
  clear h1
  have c1 := conv1 w1 w1.heap.size rfl 0 (by decide) (by decide)
  go_wp2_with fail
  go_ret2
  exact ⟨by rw [show encV 0 n f s = bs [(0 : Int).toNat] ++ ⟨#[]⟩ from rfl, append_nil]; rfl, hbb.alloc hbb.size _⟩

set_option maxRecDepth 100000 in
theorem enc_1 (n : Int) (f : Nat) (s : ByteArray) (hf : f < two64) (hg : goodV 1 n f s = true) (w : World) : Calls Try.prog 25 #[vv 1 n f s] w fun e w' => e = .returned (.tuple #[.string (encV 1 n f s), .int .i64 0]) ∧ Below w.heap.size w w' := by
  have hst := run_sf
  have hG := good_any 1 n f s
  rw [hg] at hG
  have hn := ((good1 n f s).1 hg).2
  clear hg
  go_enter Try.func25, Try.ntmps25
  go_wp2_with fail
  refine (hG _).mono ?_
  rintro e w1 ⟨rfl, h1⟩
  have hbb := below_trans ((Below.refl w.heap.size w).alloc (Nat.le_refl _) _) h1
  have q0 : w1.cell? ⟨w.heap.size, 0, none⟩ = some (.int .i64 1) := (h1.cell (p := ⟨w.heap.size, 0, none⟩) (by simp)).trans (by rw [World.cell?_alloc_new]; rfl)
  have q1 : w1.cell? ⟨w.heap.size, 1, none⟩ = some (.int .i64 n) := (h1.cell (p := ⟨w.heap.size, 1, none⟩) (by simp)).trans (by rw [World.cell?_alloc_new]; rfl)
  have q2 : w1.cell? ⟨w.heap.size, 2, none⟩ = some (.float .f64 f) := (h1.cell (p := ⟨w.heap.size, 2, none⟩) (by simp)).trans (by rw [World.cell?_alloc_new]; rfl)
  have q3 : w1.cell? ⟨w.heap.size, 3, none⟩ = some (.string s) := (h1.cell (p := ⟨w.heap.size, 3, none⟩) (by simp)).trans (by rw [World.cell?_alloc_new]; rfl)
  have hsz : w.heap.size < w1.heap.size := by have := h1.size; simp at this; omega
  have z0 : w1.heap.size ≠ w.heap.size := by omega
  have z1 : w1.heap.size + 1 ≠ w.heap.size := by omega
  clear h1
  have c1 := conv1 w1 w1.heap.size rfl 1 (by decide) (by decide)
  have hw : IntKind.u8.wrap n = n := by rw [IntKind.wrap_u8]; omega
  have c2 := conv1 (w1.alloc (.cells #[.int .u8 1] 5)) (w1.heap.size + 1) (by simp) n (by omega) (by omega)
  clear hn
  go_wp2_with fail
  go_ret2
  exact ⟨rfl, (hbb.alloc hbb.size _).alloc (by have := hbb.size; simp; omega) _⟩

set_option maxRecDepth 100000 in
theorem enc_2 (n : Int) (f : Nat) (s : ByteArray) (hf : f < two64) (hg : goodV 2 n f s = true) (w : World) : Calls Try.prog 25 #[vv 2 n f s] w fun e w' => e = .returned (.tuple #[.string (encV 2 n f s), .int .i64 0]) ∧ Below w.heap.size w w' := by
  have hst := run_sf
  have hG := good_any 2 n f s
  rw [hg] at hG
  have hnu : IntKind.u64.wrap n = ((nu n : Nat) : Int) := by rw [IntKind.wrap_u64]; unfold nu; omega
  have hlt := nu_lt n
  have HE := Lib.hid (eight_any (nu n) hlt)
  have Hr := Lib.hid (show encV 2 n f s = bs [(2 : Int).toNat] ++ bs (be (nu n) 8) from rfl)
  clear hlt
  generalize nu n = u at *
  clear hg
  go_enter Try.func25, Try.ntmps25
  go_wp2_with fail
  refine (hG _).mono ?_
  rintro e w1 ⟨rfl, h1⟩
  have hbb := below_trans ((Below.refl w.heap.size w).alloc (Nat.le_refl _) _) h1
  have q0 : w1.cell? ⟨w.heap.size, 0, none⟩ = some (.int .i64 2) := (h1.cell (p := ⟨w.heap.size, 0, none⟩) (by simp)).trans (by rw [World.cell?_alloc_new]; rfl)
  have q1 : w1.cell? ⟨w.heap.size, 1, none⟩ = some (.int .i64 n) := (h1.cell (p := ⟨w.heap.size, 1, none⟩) (by simp)).trans (by rw [World.cell?_alloc_new]; rfl)
  have q2 : w1.cell? ⟨w.heap.size, 2, none⟩ = some (.float .f64 f) := (h1.cell (p := ⟨w.heap.size, 2, none⟩) (by simp)).trans (by rw [World.cell?_alloc_new]; rfl)
  have q3 : w1.cell? ⟨w.heap.size, 3, none⟩ = some (.string s) := (h1.cell (p := ⟨w.heap.size, 3, none⟩) (by simp)).trans (by rw [World.cell?_alloc_new]; rfl)
  have hsz : w.heap.size < w1.heap.size := by have := h1.size; simp at this; omega
  have z0 : w1.heap.size ≠ w.heap.size := by omega
  have z1 : w1.heap.size + 1 ≠ w.heap.size := by omega
  clear h1
  have c1 := conv1 w1 w1.heap.size rfl 2 (by decide) (by decide)
  have HC := Lib.hid hnu
  go_wp2_with fail
  refine (HE.out _).mono ?_
  rintro e w2 ⟨rfl, h2⟩
  go_wp2_with fail
  go_ret2
  exact ⟨by rw [Hr.out]; rfl, (hbb.alloc hbb.size _).trans (h2.mono (by have := hbb.size; simp; omega))⟩

set_option maxRecDepth 100000 in
theorem enc_3 (n : Int) (f : Nat) (s : ByteArray) (hf : f < two64) (hg : goodV 3 n f s = true) (w : World) : Calls Try.prog 25 #[vv 3 n f s] w fun e w' => e = .returned (.tuple #[.string (encV 3 n f s), .int .i64 0]) ∧ Below w.heap.size w w' := by
  have hst := run_sf
  have hG := good_any 3 n f s
  rw [hg] at hG
  have HB := Lib.hid (bits_any f hf)
  have hbl : bitsF f < two64 := (fromW_bits f hf ((good3 n f s).1 hg).2).2
  have HE := Lib.hid (eight_any (bitsF f) hbl)
  have Hr := Lib.hid (show encV 3 n f s = bs [(3 : Int).toNat] ++ bs (be (bitsF f) 8) from rfl)
  clear hbl
  generalize bitsF f = u at *
  clear hg
  go_enter Try.func25, Try.ntmps25
  go_wp2_with fail
  refine (hG _).mono ?_
  rintro e w1 ⟨rfl, h1⟩
  have hbb := below_trans ((Below.refl w.heap.size w).alloc (Nat.le_refl _) _) h1
  have q0 : w1.cell? ⟨w.heap.size, 0, none⟩ = some (.int .i64 3) := (h1.cell (p := ⟨w.heap.size, 0, none⟩) (by simp)).trans (by rw [World.cell?_alloc_new]; rfl)
  have q1 : w1.cell? ⟨w.heap.size, 1, none⟩ = some (.int .i64 n) := (h1.cell (p := ⟨w.heap.size, 1, none⟩) (by simp)).trans (by rw [World.cell?_alloc_new]; rfl)
  have q2 : w1.cell? ⟨w.heap.size, 2, none⟩ = some (.float .f64 f) := (h1.cell (p := ⟨w.heap.size, 2, none⟩) (by simp)).trans (by rw [World.cell?_alloc_new]; rfl)
  have q3 : w1.cell? ⟨w.heap.size, 3, none⟩ = some (.string s) := (h1.cell (p := ⟨w.heap.size, 3, none⟩) (by simp)).trans (by rw [World.cell?_alloc_new]; rfl)
  have hsz : w.heap.size < w1.heap.size := by have := h1.size; simp at this; omega
  have z0 : w1.heap.size ≠ w.heap.size := by omega
  have z1 : w1.heap.size + 1 ≠ w.heap.size := by omega
  clear h1
  have c1 := conv1 w1 w1.heap.size rfl 3 (by decide) (by decide)
  go_wp2_with fail
  refine (HB.out _).mono ?_
  rintro e w2 ⟨rfl, rfl⟩
  go_wp2_with fail
  refine (HE.out _).mono ?_
  rintro e w2 ⟨rfl, h2⟩
  go_wp2_with fail
  go_ret2
  exact ⟨by rw [Hr.out]; rfl, (hbb.alloc hbb.size _).trans (h2.mono (by have := hbb.size; simp; omega))⟩

set_option maxRecDepth 100000 in
theorem enc_4 (n : Int) (f : Nat) (s : ByteArray) (hf : f < two64) (hg : goodV 4 n f s = true) (w : World) : Calls Try.prog 25 #[vv 4 n f s] w fun e w' => e = .returned (.tuple #[.string (encV 4 n f s), .int .i64 0]) ∧ Below w.heap.size w w' := by
  have hst := run_sf
  have hG := good_any 4 n f s
  rw [hg] at hG
  have hs := ((good4 n f s).1 hg).2
  have Hr := Lib.hid (show encV 4 n f s = bs [(4 : Int).toNat] ++ (bs [s.size / 256, s.size % 256] ++ s) from rfl)
  clear hg
  go_enter Try.func25, Try.ntmps25
  go_wp2_with fail
  refine (hG _).mono ?_
  rintro e w1 ⟨rfl, h1⟩
  have hbb := below_trans ((Below.refl w.heap.size w).alloc (Nat.le_refl _) _) h1
  have q0 : w1.cell? ⟨w.heap.size, 0, none⟩ = some (.int .i64 4) := (h1.cell (p := ⟨w.heap.size, 0, none⟩) (by simp)).trans (by rw [World.cell?_alloc_new]; rfl)
  have q1 : w1.cell? ⟨w.heap.size, 1, none⟩ = some (.int .i64 n) := (h1.cell (p := ⟨w.heap.size, 1, none⟩) (by simp)).trans (by rw [World.cell?_alloc_new]; rfl)
  have q2 : w1.cell? ⟨w.heap.size, 2, none⟩ = some (.float .f64 f) := (h1.cell (p := ⟨w.heap.size, 2, none⟩) (by simp)).trans (by rw [World.cell?_alloc_new]; rfl)
  have q3 : w1.cell? ⟨w.heap.size, 3, none⟩ = some (.string s) := (h1.cell (p := ⟨w.heap.size, 3, none⟩) (by simp)).trans (by rw [World.cell?_alloc_new]; rfl)
  have hsz : w.heap.size < w1.heap.size := by have := h1.size; simp at this; omega
  have z0 : w1.heap.size ≠ w.heap.size := by omega
  have z1 : w1.heap.size + 1 ≠ w.heap.size := by omega
  clear h1
  have c1 := conv1 w1 w1.heap.size rfl 4 (by decide) (by decide)
  have c2 := conv2 (w1.alloc (.cells #[.int .u8 4] 5)) (w1.heap.size + 1) (by simp) ((s.size : Int) / 256) ((s.size : Int) % 256) (by omega) (by omega) (by omega) (by omega)
  have k1 : IntKind.u8.wrap ((s.size : Int) / 256) = (s.size : Int) / 256 := by rw [IntKind.wrap_u8]; omega
  have k2 : IntKind.u8.wrap (s.size : Int) = (s.size : Int) % 256 := by rw [IntKind.wrap_u8]
  have k3 : IntKind.u8.wrap ((s.size : Int) % 256) = (s.size : Int) % 256 := by rw [IntKind.wrap_u8]; omega
  rw [show ((s.size : Int) / 256).toNat = s.size / 256 by omega, show ((s.size : Int) % 256).toNat = s.size % 256 by omega] at c2
  have hz2 : (bs [s.size / 256, s.size % 256]).size = 2 := bs_size _
  have hz1 : (bs [4]).size = 1 := bs_size _
  go_wp2_with fail
  go_ret2
  exact ⟨by rw [Hr.out]; rfl, (hbb.alloc hbb.size _).alloc (by have := hbb.size; simp; omega) _⟩

set_option maxRecDepth 100000 in
theorem enc_no (k n : Int) (f : Nat) (s : ByteArray) (hg : goodV k n f s = false) (w : World) : Calls Try.prog 25 #[vv k n f s] w fun e w' => e = .returned (.tuple #[.string ⟨#[]⟩, .int .i64 11]) ∧ Below w.heap.size w w' := by
  have hst := run_sf
  have hG := good_any k n f s
  rw [hg] at hG
  clear hg
  go_enter Try.func25, Try.ntmps25
  go_wp2_with fail
  refine (hG _).mono ?_
  rintro e w1 ⟨rfl, h1⟩
  go_wp2_with fail
  go_ret2
  exact ⟨rfl, below_trans ((Below.refl w.heap.size w).alloc (Nat.le_refl _) _) h1⟩
theorem enc_any (k n : Int) (f : Nat) (s : ByteArray) (hf : f < two64) (w : World) : Calls Try.prog 25 #[vv k n f s] w fun e w' => e = .returned (.tuple #[.string (encS k n f s), .int .i64 (encE k n f s)]) ∧ Below w.heap.size w w' := by
  unfold encS encE
  cases hg : goodV k n f s with
  | false => exact enc_no k n f s hg w
  | true =>
    rcases goodV_kind hg with rfl | rfl | rfl | rfl | rfl
    · exact enc_0 n f s hf hg w
    · exact enc_1 n f s hf hg w
    · exact enc_2 n f s hf hg w
    · exact enc_3 n f s hf hg w
    · exact enc_4 n f s hf hg w
set_option maxRecDepth 100000 in
theorem renc_0 (n : Int) (f : Nat) (s : ByteArray) (hf : f < two64) (hg : goodV 0 n f s = true) (w : World) : Calls Try.prog 26 #[vv 0 n f s] w fun e w' => e = .returned (.tuple #[.string (encV 0 n f s), .int .i64 0]) ∧ Below w.heap.size w w' := by
  have hst := run_sf
  have hG := rgood_any 0 n f s
  rw [hg] at hG
  clear hg
  go_enter Try.func26, Try.ntmps26
  go_wp2_with fail
  refine (hG _).mono ?_
  rintro e w1 ⟨rfl, h1⟩
  have hbb := below_trans ((Below.refl w.heap.size w).alloc (Nat.le_refl _) _) h1
  have q0 : w1.cell? ⟨w.heap.size, 0, none⟩ = some (.int .i64 0) := (h1.cell (p := ⟨w.heap.size, 0, none⟩) (by simp)).trans (by rw [World.cell?_alloc_new]; rfl)
  have q1 : w1.cell? ⟨w.heap.size, 1, none⟩ = some (.int .i64 n) := (h1.cell (p := ⟨w.heap.size, 1, none⟩) (by simp)).trans (by rw [World.cell?_alloc_new]; rfl)
  have q2 : w1.cell? ⟨w.heap.size, 2, none⟩ = some (.float .f64 f) := (h1.cell (p := ⟨w.heap.size, 2, none⟩) (by simp)).trans (by rw [World.cell?_alloc_new]; rfl)
  have q3 : w1.cell? ⟨w.heap.size, 3, none⟩ = some (.string s) := (h1.cell (p := ⟨w.heap.size, 3, none⟩) (by simp)).trans (by rw [World.cell?_alloc_new]; rfl)
  have hsz : w.heap.size < w1.heap.size := by have := h1.size; simp at this; omega
  have z0 : w1.heap.size ≠ w.heap.size := by omega
  have z1 : w1.heap.size + 1 ≠ w.heap.size := by omega
  clear h1
  have c1 := conv1 w1 w1.heap.size rfl 0 (by decide) (by decide)
  go_wp2_with fail
  go_ret2
  exact ⟨by rw [show encV 0 n f s = bs [(0 : Int).toNat] ++ ⟨#[]⟩ from rfl, append_nil]; rfl, hbb.alloc hbb.size _⟩

set_option maxRecDepth 100000 in
theorem renc_1 (n : Int) (f : Nat) (s : ByteArray) (hf : f < two64) (hg : goodV 1 n f s = true) (w : World) : Calls Try.prog 26 #[vv 1 n f s] w fun e w' => e = .returned (.tuple #[.string (encV 1 n f s), .int .i64 0]) ∧ Below w.heap.size w w' := by
  have hst := run_sf
  have hG := rgood_any 1 n f s
  rw [hg] at hG
  have hn := ((good1 n f s).1 hg).2
  clear hg
  go_enter Try.func26, Try.ntmps26
  go_wp2_with fail
  refine (hG _).mono ?_
  rintro e w1 ⟨rfl, h1⟩
  have hbb := below_trans ((Below.refl w.heap.size w).alloc (Nat.le_refl _) _) h1
  have q0 : w1.cell? ⟨w.heap.size, 0, none⟩ = some (.int .i64 1) := (h1.cell (p := ⟨w.heap.size, 0, none⟩) (by simp)).trans (by rw [World.cell?_alloc_new]; rfl)
  have q1 : w1.cell? ⟨w.heap.size, 1, none⟩ = some (.int .i64 n) := (h1.cell (p := ⟨w.heap.size, 1, none⟩) (by simp)).trans (by rw [World.cell?_alloc_new]; rfl)
  have q2 : w1.cell? ⟨w.heap.size, 2, none⟩ = some (.float .f64 f) := (h1.cell (p := ⟨w.heap.size, 2, none⟩) (by simp)).trans (by rw [World.cell?_alloc_new]; rfl)
  have q3 : w1.cell? ⟨w.heap.size, 3, none⟩ = some (.string s) := (h1.cell (p := ⟨w.heap.size, 3, none⟩) (by simp)).trans (by rw [World.cell?_alloc_new]; rfl)
  have hsz : w.heap.size < w1.heap.size := by have := h1.size; simp at this; omega
  have z0 : w1.heap.size ≠ w.heap.size := by omega
  have z1 : w1.heap.size + 1 ≠ w.heap.size := by omega
  clear h1
  have c1 := conv1 w1 w1.heap.size rfl 1 (by decide) (by decide)
  have hw : IntKind.u8.wrap n = n := by rw [IntKind.wrap_u8]; omega
  have c2 := conv1 (w1.alloc (.cells #[.int .u8 1] 5)) (w1.heap.size + 1) (by simp) n (by omega) (by omega)
  clear hn
  go_wp2_with fail
  go_ret2
  exact ⟨rfl, (hbb.alloc hbb.size _).alloc (by have := hbb.size; simp; omega) _⟩

set_option maxRecDepth 100000 in
theorem renc_2 (n : Int) (f : Nat) (s : ByteArray) (hf : f < two64) (hg : goodV 2 n f s = true) (w : World) : Calls Try.prog 26 #[vv 2 n f s] w fun e w' => e = .returned (.tuple #[.string (encV 2 n f s), .int .i64 0]) ∧ Below w.heap.size w w' := by
  have hst := run_sf
  have hG := rgood_any 2 n f s
  rw [hg] at hG
  have hnu : IntKind.u64.wrap n = ((nu n : Nat) : Int) := by rw [IntKind.wrap_u64]; unfold nu; omega
  have hlt := nu_lt n
  have HE := Lib.hid (reight_any (nu n) hlt)
  have Hr := Lib.hid (show encV 2 n f s = bs [(2 : Int).toNat] ++ bs (be (nu n) 8) from rfl)
  clear hlt
  generalize nu n = u at *
  clear hg
  go_enter Try.func26, Try.ntmps26
  go_wp2_with fail
  refine (hG _).mono ?_
  rintro e w1 ⟨rfl, h1⟩
  have hbb := below_trans ((Below.refl w.heap.size w).alloc (Nat.le_refl _) _) h1
  have q0 : w1.cell? ⟨w.heap.size, 0, none⟩ = some (.int .i64 2) := (h1.cell (p := ⟨w.heap.size, 0, none⟩) (by simp)).trans (by rw [World.cell?_alloc_new]; rfl)
  have q1 : w1.cell? ⟨w.heap.size, 1, none⟩ = some (.int .i64 n) := (h1.cell (p := ⟨w.heap.size, 1, none⟩) (by simp)).trans (by rw [World.cell?_alloc_new]; rfl)
  have q2 : w1.cell? ⟨w.heap.size, 2, none⟩ = some (.float .f64 f) := (h1.cell (p := ⟨w.heap.size, 2, none⟩) (by simp)).trans (by rw [World.cell?_alloc_new]; rfl)
  have q3 : w1.cell? ⟨w.heap.size, 3, none⟩ = some (.string s) := (h1.cell (p := ⟨w.heap.size, 3, none⟩) (by simp)).trans (by rw [World.cell?_alloc_new]; rfl)
  have hsz : w.heap.size < w1.heap.size := by have := h1.size; simp at this; omega
  have z0 : w1.heap.size ≠ w.heap.size := by omega
  have z1 : w1.heap.size + 1 ≠ w.heap.size := by omega
  clear h1
  have c1 := conv1 w1 w1.heap.size rfl 2 (by decide) (by decide)
  have HC := Lib.hid hnu
  go_wp2_with fail
  refine (HE.out _).mono ?_
  rintro e w2 ⟨rfl, h2⟩
  go_wp2_with fail
  go_ret2
  exact ⟨by rw [Hr.out]; rfl, (hbb.alloc hbb.size _).trans (h2.mono (by have := hbb.size; simp; omega))⟩

set_option maxRecDepth 100000 in
theorem renc_3 (n : Int) (f : Nat) (s : ByteArray) (hf : f < two64) (hg : goodV 3 n f s = true) (w : World) : Calls Try.prog 26 #[vv 3 n f s] w fun e w' => e = .returned (.tuple #[.string (encV 3 n f s), .int .i64 0]) ∧ Below w.heap.size w w' := by
  have hst := run_sf
  have hG := rgood_any 3 n f s
  rw [hg] at hG
  have HB := Lib.hid (rbits_any f hf)
  have hbl : bitsF f < two64 := (fromW_bits f hf ((good3 n f s).1 hg).2).2
  have HE := Lib.hid (reight_any (bitsF f) hbl)
  have Hr := Lib.hid (show encV 3 n f s = bs [(3 : Int).toNat] ++ bs (be (bitsF f) 8) from rfl)
  clear hbl
  generalize bitsF f = u at *
  clear hg
  go_enter Try.func26, Try.ntmps26
  go_wp2_with fail
  refine (hG _).mono ?_
  rintro e w1 ⟨rfl, h1⟩
  have hbb := below_trans ((Below.refl w.heap.size w).alloc (Nat.le_refl _) _) h1
  have q0 : w1.cell? ⟨w.heap.size, 0, none⟩ = some (.int .i64 3) := (h1.cell (p := ⟨w.heap.size, 0, none⟩) (by simp)).trans (by rw [World.cell?_alloc_new]; rfl)
  have q1 : w1.cell? ⟨w.heap.size, 1, none⟩ = some (.int .i64 n) := (h1.cell (p := ⟨w.heap.size, 1, none⟩) (by simp)).trans (by rw [World.cell?_alloc_new]; rfl)
  have q2 : w1.cell? ⟨w.heap.size, 2, none⟩ = some (.float .f64 f) := (h1.cell (p := ⟨w.heap.size, 2, none⟩) (by simp)).trans (by rw [World.cell?_alloc_new]; rfl)
  have q3 : w1.cell? ⟨w.heap.size, 3, none⟩ = some (.string s) := (h1.cell (p := ⟨w.heap.size, 3, none⟩) (by simp)).trans (by rw [World.cell?_alloc_new]; rfl)
  have hsz : w.heap.size < w1.heap.size := by have := h1.size; simp at this; omega
  have z0 : w1.heap.size ≠ w.heap.size := by omega
  have z1 : w1.heap.size + 1 ≠ w.heap.size := by omega
  clear h1
  have c1 := conv1 w1 w1.heap.size rfl 3 (by decide) (by decide)
  go_wp2_with fail
  refine (HB.out _).mono ?_
  rintro e w2 ⟨rfl, rfl⟩
  go_wp2_with fail
  refine (HE.out _).mono ?_
  rintro e w2 ⟨rfl, h2⟩
  go_wp2_with fail
  go_ret2
  exact ⟨by rw [Hr.out]; rfl, (hbb.alloc hbb.size _).trans (h2.mono (by have := hbb.size; simp; omega))⟩

set_option maxRecDepth 100000 in
theorem renc_4 (n : Int) (f : Nat) (s : ByteArray) (hf : f < two64) (hg : goodV 4 n f s = true) (w : World) : Calls Try.prog 26 #[vv 4 n f s] w fun e w' => e = .returned (.tuple #[.string (encV 4 n f s), .int .i64 0]) ∧ Below w.heap.size w w' := by
  have hst := run_sf
  have hG := rgood_any 4 n f s
  rw [hg] at hG
  have hs := ((good4 n f s).1 hg).2
  have Hr := Lib.hid (show encV 4 n f s = bs [(4 : Int).toNat] ++ (bs [s.size / 256, s.size % 256] ++ s) from rfl)
  clear hg
  go_enter Try.func26, Try.ntmps26
  go_wp2_with fail
  refine (hG _).mono ?_
  rintro e w1 ⟨rfl, h1⟩
  have hbb := below_trans ((Below.refl w.heap.size w).alloc (Nat.le_refl _) _) h1
  have q0 : w1.cell? ⟨w.heap.size, 0, none⟩ = some (.int .i64 4) := (h1.cell (p := ⟨w.heap.size, 0, none⟩) (by simp)).trans (by rw [World.cell?_alloc_new]; rfl)
  have q1 : w1.cell? ⟨w.heap.size, 1, none⟩ = some (.int .i64 n) := (h1.cell (p := ⟨w.heap.size, 1, none⟩) (by simp)).trans (by rw [World.cell?_alloc_new]; rfl)
  have q2 : w1.cell? ⟨w.heap.size, 2, none⟩ = some (.float .f64 f) := (h1.cell (p := ⟨w.heap.size, 2, none⟩) (by simp)).trans (by rw [World.cell?_alloc_new]; rfl)
  have q3 : w1.cell? ⟨w.heap.size, 3, none⟩ = some (.string s) := (h1.cell (p := ⟨w.heap.size, 3, none⟩) (by simp)).trans (by rw [World.cell?_alloc_new]; rfl)
  have hsz : w.heap.size < w1.heap.size := by have := h1.size; simp at this; omega
  have z0 : w1.heap.size ≠ w.heap.size := by omega
  have z1 : w1.heap.size + 1 ≠ w.heap.size := by omega
  clear h1
  have c1 := conv1 w1 w1.heap.size rfl 4 (by decide) (by decide)
  have c2 := conv2 (w1.alloc (.cells #[.int .u8 4] 5)) (w1.heap.size + 1) (by simp) ((s.size : Int) / 256) ((s.size : Int) % 256) (by omega) (by omega) (by omega) (by omega)
  have k1 : IntKind.u8.wrap ((s.size : Int) / 256) = (s.size : Int) / 256 := by rw [IntKind.wrap_u8]; omega
  have k2 : IntKind.u8.wrap (s.size : Int) = (s.size : Int) % 256 := by rw [IntKind.wrap_u8]
  have k3 : IntKind.u8.wrap ((s.size : Int) % 256) = (s.size : Int) % 256 := by rw [IntKind.wrap_u8]; omega
  rw [show ((s.size : Int) / 256).toNat = s.size / 256 by omega, show ((s.size : Int) % 256).toNat = s.size % 256 by omega] at c2
  have hz2 : (bs [s.size / 256, s.size % 256]).size = 2 := bs_size _
  have hz1 : (bs [4]).size = 1 := bs_size _
  go_wp2_with fail
  go_ret2
  exact ⟨by rw [Hr.out]; rfl, (hbb.alloc hbb.size _).alloc (by have := hbb.size; simp; omega) _⟩

set_option maxRecDepth 100000 in
theorem renc_no (k n : Int) (f : Nat) (s : ByteArray) (hg : goodV k n f s = false) (w : World) : Calls Try.prog 26 #[vv k n f s] w fun e w' => e = .returned (.tuple #[.string ⟨#[]⟩, .int .i64 11]) ∧ Below w.heap.size w w' := by
  have hst := run_sf
  have hG := rgood_any k n f s
  rw [hg] at hG
  clear hg
  go_enter Try.func26, Try.ntmps26
  go_wp2_with fail
  refine (hG _).mono ?_
  rintro e w1 ⟨rfl, h1⟩
  go_wp2_with fail
  go_ret2
  exact ⟨rfl, below_trans ((Below.refl w.heap.size w).alloc (Nat.le_refl _) _) h1⟩
theorem renc_any (k n : Int) (f : Nat) (s : ByteArray) (hf : f < two64) (w : World) : Calls Try.prog 26 #[vv k n f s] w fun e w' => e = .returned (.tuple #[.string (encS k n f s), .int .i64 (encE k n f s)]) ∧ Below w.heap.size w w' := by
  unfold encS encE
  cases hg : goodV k n f s with
  | false => exact renc_no k n f s hg w
  | true =>
    rcases goodV_kind hg with rfl | rfl | rfl | rfl | rfl
    · exact renc_0 n f s hf hg w
    · exact renc_1 n f s hf hg w
    · exact renc_2 n f s hf hg w
    · exact renc_3 n f s hf hg w
    · exact renc_4 n f s hf hg w
end Go.Proofs.Ytmgpecomgffelaa
