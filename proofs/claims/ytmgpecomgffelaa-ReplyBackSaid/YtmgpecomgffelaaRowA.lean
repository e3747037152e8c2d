/- Columns in memory; contracts of packages keep and row on them. -/
import Derived.Test.YtmgpecomgffelaaValC
namespace Go.Proofs.Ytmgpecomgffelaa
open Go.RowKit
set_option linter.unusedVariables false
structure Col where
  name : ByteArray
  kind : Int
  nn : Bool
  d : Val
def Col.cells (c : Col) : List Value := [.string c.name, .int .i64 c.kind, .bool c.nn, .int .i64 c.d.kind, .int .i64 c.d.n, .float .f64 c.d.f, .string c.d.s]
abbrev cv (nm : ByteArray) (k : Int) (nn : Bool) (dk dn : Int) (df : Nat) (ds : ByteArray) : Value := .agg #[.string nm, .int .i64 k, .bool nn, .int .i64 dk, .int .i64 dn, .float .f64 df, .string ds]
abbrev RdC (w : World) (A : Option Addr) (l : List Col) : Prop := RdL Col.cells 7 w A l
theorem RdC.at {w : World} {A : Option Addr} {l : List Col} (h : RdC w A l) (k : Nat) (hk : k < l.length) : ∃ ad, A = some ad ∧
    w.cell? (ad.add (k * 7)) = some (.string l[k].name) ∧ w.cell? ⟨(ad.add (k * 7)).block, (ad.add (k * 7)).off + 1, none⟩ = some (.int .i64 l[k].kind) ∧
    w.cell? ⟨(ad.add (k * 7)).block, (ad.add (k * 7)).off + 2, none⟩ = some (.bool l[k].nn) ∧ w.cell? ⟨(ad.add (k * 7)).block, (ad.add (k * 7)).off + 3, none⟩ = some (.int .i64 l[k].d.kind) ∧
    w.cell? ⟨(ad.add (k * 7)).block, (ad.add (k * 7)).off + 4, none⟩ = some (.int .i64 l[k].d.n) ∧ w.cell? ⟨(ad.add (k * 7)).block, (ad.add (k * 7)).off + 5, none⟩ = some (.float .f64 l[k].d.f) ∧
    w.cell? ⟨(ad.add (k * 7)).block, (ad.add (k * 7)).off + 6, none⟩ = some (.string l[k].d.s) := by
  obtain ⟨ad, rfl⟩ := h.some k hk
  exact ⟨ad, rfl, h.cell0 k hk (by simp [Col.cells]), h.cell k hk 1 (by simp [Col.cells]) (by omega), h.cell k hk 2 (by simp [Col.cells]) (by omega), h.cell k hk 3 (by simp [Col.cells]) (by omega), h.cell k hk 4 (by simp [Col.cells]) (by omega), h.cell k hk 5 (by simp [Col.cells]) (by omega), h.cell k hk 6 (by simp [Col.cells]) (by omega)⟩

def largeC (l : List Col) : Bool := decide (50 < l.length) || l.any fun c => decide (1000 < c.name.size) || decide (2000 < c.d.s.size)

set_option maxRecDepth 100000 in
theorem large_cols (A : Option Addr) (c : Nat) (l : List Col) (w : World) (h : RdC w A l) : Calls Try.prog 36 #[.slice A l.length c] w fun e w' => e = .returned (.bool (largeC l)) ∧ Below w.heap.size w w' := by
  have hst := run_sf
  by_cases hlen : 50 < l.length
  · have e : largeC l = true := by unfold largeC; rw [decide_eq_true hlen]; rfl
    rw [e]
    go_enter Try.func36, Try.ntmps36
    go_wp2_with fail
    go_ret
    exact ⟨rfl, Below.refl _ _⟩
  · have H := Lib.hid h
    have HL := Lib.hid large_value
    clear h
    go_enter Try.func36, Try.ntmps36
    go_wp2_with fail
    go_loopw [3] (fun i wr => ∃ k : Nat, k ≤ l.length ∧ i = .int .i64 k ∧ (l.take k).any (fun c => decide (1000 < c.name.size) || decide (2000 < c.d.s.size)) = false ∧ Below w.heap.size w wr) (fun i _ => l.length - (intOf i).toNat)
    case atStart => exact ⟨0, by omega, rfl, rfl, Below.refl _ _⟩
    case round =>
      obtain ⟨k, hk, rfl, hany, hb⟩ := hrel
      by_cases hlt : k < l.length
      · obtain ⟨ad, rfl, q0, q1, q2, q3, q4, q5, q6⟩ := RdC.at (H.out.keep hb (Nat.le_refl _)) k hlt
        have hstep : (l.take (k + 1)).any (fun c => decide (1000 < c.name.size) || decide (2000 < c.d.s.size)) = (decide (1000 < l[k].name.size) || decide (2000 < l[k].d.s.size)) := by
          rw [List.take_succ_eq_append_getElem hlt, List.any_append, hany]; simp
        have hall : (decide (1000 < l[k].name.size) || decide (2000 < l[k].d.s.size)) = true → largeC l = true := fun g => by
          unfold largeC
          rw [Bool.or_eq_true, List.any_eq_true]
          exact Or.inr ⟨l[k], List.getElem_mem hlt, g⟩
        have hcall := HL.out l[k].d.kind l[k].d.n l[k].d.f l[k].d.s
        generalize l[k] = x at *
        have Hany := Lib.hid hstep
        by_cases hx0 : 1000 < x.name.size
        · have Hall := Lib.hid (hall (by rw [decide_eq_true hx0]; rfl))
          have ht : decide ((1000 : Int) < (x.name.size : Int)) = true := by rw [decide_eq_true]; omega
          clear hany hstep hall hx0
          go_wp2_with fail
          go_ret
          exact ⟨by rw [Hall.out]; rfl, hb⟩
        · have ht : decide ((1000 : Int) < (x.name.size : Int)) = false := by rw [decide_eq_false]; omega
          by_cases hx : 2000 < x.d.s.size
          · rw [decide_eq_true hx] at hcall
            have Hall := Lib.hid (hall (by rw [decide_eq_true hx, Bool.or_true]))
            clear hany hstep hall hx
            go_wp2_with fail
            refine (hcall _).mono ?_
            rintro e w1 ⟨rfl, h1⟩
            go_wp2_with fail
            go_ret
            exact ⟨by rw [Hall.out]; rfl, hb.trans (h1.mono hb.size)⟩
          · rw [decide_eq_false hx] at hcall
            have Hx := Lib.hid hx
            have Hx0 := Lib.hid hx0
            clear hany hstep hall hx hx0
            go_wp2_with fail
            refine (hcall _).mono ?_
            rintro e w1 ⟨rfl, h1⟩
            go_wp2_with fail
            exact ⟨⟨k + 1, by omega, by go_num, by rw [Hany.out, decide_eq_false Hx.out, decide_eq_false Hx0.out]; rfl, hb.trans (h1.mono hb.size)⟩, by simp [intOf]; omega⟩
      · obtain rfl : k = l.length := by omega
        rw [List.take_length] at hany
        have Hany := Lib.hid hany
        clear hany
        go_wp2_with fail
        go_ret
        exact ⟨by unfold largeC; rw [Hany.out, decide_eq_false hlen]; rfl, hb⟩

/-- What Pad answers: as many values as there are columns. -/
def padV (l : List Col) (r : List Val) : List Val := l.mapIdx fun i c => r.getD i c.d

theorem info24 : (Try.prog.info? 24).map (fun i => (i.zero, i.size, i.bytes)) = some (some (.agg #[.int .i64 0, .int .i64 0, .float .f64 0, .string ⟨#[]⟩]), 4, 40) := by kernel_rfl
end Go.Proofs.Ytmgpecomgffelaa
