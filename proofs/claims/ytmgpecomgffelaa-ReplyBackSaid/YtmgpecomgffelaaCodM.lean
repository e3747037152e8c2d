/- Contract: the statements' own look at package value (wakes). -/
import Derived.Test.YtmgpecomgffelaaCodL
import Derived.Test.YtmgpecomgffelaaRowE
namespace Go.Proofs.Ytmgpecomgffelaa
open Go.RowKit
set_option linter.unusedVariables false
def wkS : ByteArray := ⟨#[2, 255, 255, 255, 255, 255, 255, 255, 255]⟩
def wkX : ByteArray := ⟨#[2, 255, 255, 255, 255, 255, 255, 255, 255, 120]⟩
theorem wk_enc : encS 2 (-1) 0 ⟨#[]⟩ = wkS ∧ encE 2 (-1) 0 ⟨#[]⟩ = 0 := by decide +kernel
theorem wk_app : wkS ++ ⟨#[120]⟩ = wkX := by decide +kernel
theorem wk_dec : (gV (gotV wkX 0)).kind = 2 ∧ (gV (gotV wkX 0)).n = -1 ∧ (gV (gotV wkX 0)).f = 0 ∧ gN (gotV wkX 0) = 9 ∧ (gotV wkX 0).isSome = true := by decide +kernel
theorem wk_name : nameV ⟨#[97, 95, 49]⟩ = true ∧ nameV ⟨#[95, 97]⟩ = false := by decide +kernel
theorem wk_eq : (wkS.toList == [2, 255, 255, 255, 255, 255, 255, 255, 255]) = true := by decide +kernel
theorem wk_sz : wkS.size = 9 := by rfl
def wv0 : Val := ⟨2, 2, 0, ⟨#[]⟩⟩
def wv1 : Val := ⟨2, 1, 0, ⟨#[]⟩⟩
theorem wk_cmp : cmpV wv1 wv0 = -1 := by decide +kernel
theorem wk_rows (w : World) (b0 b1 b2 : Nat) (e0 : b0 = w.heap.size) (e1 : b1 = w.heap.size + 1) (e2 : b2 = w.heap.size + 2) :
    RdRows (((w.alloc (.cells (va 2 2 0 ⟨#[]⟩) 24)).alloc (.cells (va 2 1 0 ⟨#[]⟩) 24)).alloc (.cells #[.slice (some ⟨b0, 0, none⟩) 1 1, .slice (some ⟨b1, 0, none⟩) 1 1] 39)) (some ⟨b2, 0, none⟩) [[wv0], [wv1]] := by
  have s1 : (w.alloc (.cells (va 2 2 0 ⟨#[]⟩) 24)).heap.size = w.heap.size + 1 := by simp
  have s2 : ((w.alloc (.cells (va 2 2 0 ⟨#[]⟩) 24)).alloc (.cells (va 2 1 0 ⟨#[]⟩) 24)).heap.size = w.heap.size + 2 := by simp
  have r0 : RdV (((w.alloc (.cells (va 2 2 0 ⟨#[]⟩) 24)).alloc (.cells (va 2 1 0 ⟨#[]⟩) 24)).alloc (.cells #[.slice (some ⟨b0, 0, none⟩) 1 1, .slice (some ⟨b1, 0, none⟩) 1 1] 39)) (some ⟨b0, 0, none⟩) [wv0] := by
    subst e0
    exact ((RdV.one w wv0).keep ((Below.refl _ _).alloc (Nat.le_refl _) _) (Nat.le_refl _)).keep ((Below.refl _ _).alloc (Nat.le_refl _) _) (Nat.le_refl _)
  have r1 : RdV (((w.alloc (.cells (va 2 2 0 ⟨#[]⟩) 24)).alloc (.cells (va 2 1 0 ⟨#[]⟩) 24)).alloc (.cells #[.slice (some ⟨b0, 0, none⟩) 1 1, .slice (some ⟨b1, 0, none⟩) 1 1] 39)) (some ⟨b1, 0, none⟩) [wv1] := by
    exact (RdV.oneAt (w.alloc (.cells (va 2 2 0 ⟨#[]⟩) 24)) wv1 b1 (e1.trans s1.symm)).keep ((Below.refl _ _).alloc (Nat.le_refl _) _) (Nat.le_refl _)
  intro i hi
  rcases (by simp at hi; omega : i = 0 ∨ i = 1) with rfl | rfl
  · exact ⟨_, ⟨some ⟨b0, 0, none⟩, 1⟩, rfl, by rw [cell_new_at (e2.trans s2.symm)]; rfl, r0, fun h => by cases h⟩
  · exact ⟨_, ⟨some ⟨b1, 0, none⟩, 1⟩, rfl, by rw [cell_new_at (e2.trans s2.symm)]; rfl, r1, fun h => by cases h⟩
set_option maxRecDepth 100000 in
set_option maxHeartbeats 1000000 in
theorem val_wakes (w : World) : Calls Try.prog 24 #[] w fun e w' => e = .returned (.bool true) ∧ Below w.heap.size w w' := by
  have hst := run_sf
  have hE := enc_any 2 (-1) 0 ⟨#[]⟩ (by decide)
  rw [wk_enc.1, wk_enc.2] at hE
  have hD := dec_any wkX 0 (by decide)
  obtain ⟨d0, d1, d2, d3, d4⟩ := wk_dec
  have hv : (gV (gotV wkX 0)).v = vv 2 (-1) 0 (gV (gotV wkX 0)).s := by
    show Value.agg _ = Value.agg _
    rw [d0, d1, d2]
  rw [hv, d3, d4] at hD
  generalize (gV (gotV wkX 0)).s = ds at *
  have hn1 := name_any ⟨#[97, 95, 49]⟩
  have hn2 := name_any ⟨#[95, 97]⟩
  rw [wk_name.1] at hn1
  rw [wk_name.2] at hn2
  have happ := wk_app
  have heq := wk_eq
  have hsz := wk_sz
  have HR := Lib.hid (fun P w h => rows2 P 2 wv0 wv1 (-1) wk_cmp (by decide) w h)
  have HE := Lib.hid hE
  have HD := Lib.hid hD
  have HN1 := Lib.hid hn1
  have HN2 := Lib.hid hn2
  clear hE hD hn1 hn2 d0 d1 d2 d3 d4 hv
  generalize wkS = S at *
  generalize wkX = X at *
  go_enter Try.func24, Try.ntmps24
  go_wp2_with fail
  refine (HE.out _).mono ?_
  rintro e w1 ⟨rfl, b1⟩
  go_wp2_with fail
  refine (HD.out _).mono ?_
  rintro e w2 ⟨rfl, b2⟩
  have hb2 := b1.trans (b2.mono b1.size)
  clear b1 b2
  go_wp2_with fail
  refine (HR.out _ _ (wk_rows _ _ _ _ (by simp) (by simp) (by simp))).mono ?_
  rintro e w3 ⟨A, c, rfl, hR, b3⟩
  have hb3 : Below w.heap.size w w3 := ((((hb2.alloc hb2.size _).alloc (by have := hb2.size; simp; omega) _).alloc (by have := hb2.size; simp; omega) _).alloc (by have := hb2.size; simp; omega) _).trans (b3.mono (by have := hb2.size; simp; omega))
  have hV := BoxT.keep (BoxT.alloc (BoxT.alloc (BoxT.alloc (BoxT.new w2 (va 2 (-1) 0 ds) 24) _) _) _) b3
  obtain ⟨v1, _⟩ := hV 1 _ rfl
  obtain ⟨ad, ⟨sA, sc⟩, rfl, hc, hr, hn⟩ := hR 0 (by simp)
  simp only [List.getElem_cons_zero] at hc hr
  rw [add_zero'] at hc
  obtain ⟨ad2, hA, p0, p1, p2, p3⟩ := RdV.at hr 0 (by simp)
  subst hA
  rw [Nat.zero_mul, add_zero'] at p0 p1 p2 p3
  simp only [List.getElem_cons_zero] at p0 p1 p2 p3
  have hw1 : wv1.n = 1 := rfl
  rw [hw1] at p1
  have hlen : ([wv1] : List Val).length = 1 := rfl
  rw [hlen] at hc
  clear hV hR hr hn b3 hb2 p0 p2 p3 hw1 hlen
  go_wp2_with fail
  refine (HN1.out _).mono ?_
  rintro e w4 ⟨rfl, rfl⟩
  go_wp2_with fail
  refine (HN2.out _).mono ?_
  rintro e w4 ⟨rfl, rfl⟩
  go_wp2_with fail
  go_ret
  exact ⟨rfl, hb3⟩
end Go.Proofs.Ytmgpecomgffelaa
