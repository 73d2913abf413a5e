/- The reference's draws of a matrix and of two rows. -/
import Derived.Test.YtbaheampmiecmaaDraw5
namespace Go.Proofs.Ytbaheampmiecmaa
open Go.RowKit

def DtP (w : World) (e : Ending) (w' : World) : Prop := ∃ v F ds, e = .returned v ∧ (∃ y, w' = ext w y) ∧ SV 24 1 (sSl 31 2 sR) w' v ds F ∧ ds.length ≤ 3 ∧ ∀ r ∈ ds, r.length ≤ 4
set_option maxHeartbeats 1000000 in
theorem DrawTranspose_any {A : Option Addr} {c : Nat} {bs : List UInt8} {w : World} (hx : bs.length ≤ 1048576) (h1 : RU w A bs) :
    Calls Try.prog 13 #[.slice A bs.length c] w (DtP w) := by
  go_enter Try.func13, Try.ntmps13
  go_wp2_with fail
  refine (l1New_any hx h1).mono ?_
  rintro e w1 ⟨g, rfl, hc1⟩
  go_wp2_with fail
  refine (l1Below_any hc1 (by omega) (by omega)).mono ?_
  rintro e w2 ⟨x, rfl, hx0, hx1, hc2, hC2⟩
  obtain ⟨k, rfl⟩ : ∃ k : Nat, x = k := ⟨x.toNat, by omega⟩
  go_wp2_with fail
  refine (l1Below_any hc2 (by omega) (by omega)).mono ?_
  rintro e w3 ⟨x, rfl, hy0, hy1, hc3, hC3⟩
  obtain ⟨m, rfl⟩ : ∃ k : Nat, x = k := ⟨x.toNat, by omega⟩
  go_wp2_with fail
  refine (l13Rows_any hc3 (by omega) (by omega)).mono ?_
  rintro e w4 ⟨v, F, ds, rfl, hS, hN, hF, hl, hr, hc4, hC4⟩
  have HL := Lib.hid hl
  clear hl
  go_wp2
  go_ret
  show DtP w _ _
  exact ⟨_, F, ds, rfl, hc4.2.1, hS, by rw [HL.out]; omega, fun r h => by have := hr r h; omega⟩
theorem l13Rows_one {g m : Nat} {w0 w : World} (hc : Cur w0 w g) (hm : m ≤ 10) :
    Calls Try.prog 30 #[.pointer (some ⟨g, 0, none⟩), .int .i64 1, .int .i64 m] w (RwP w0 g 1 m w) := l13Rows_any (n := 1) hc (by omega) hm
def DdP (w : World) (e : Ending) (w' : World) : Prop := ∃ v F xs v' F' ys, e = .returned (.tuple #[v, v']) ∧ (∃ y, w' = ext w y) ∧ SV 31 2 sR w' v xs F ∧ SV 31 2 sR w' v' ys F' ∧ xs.length ≤ 4 ∧ ys.length ≤ 4
theorem one_row {g m : Nat} {w0 w w' : World} {e : Ending} (h : RwP w0 g 1 m w e w') : ∃ b cap v0 F0 r, e = .returned (.slice (some ⟨b, 0, none⟩) 1 cap) ∧ b < w'.heap.size ∧ w'.cell? ⟨b, 0, none⟩ = some v0 ∧ SV 31 2 sR w' v0 r F0 ∧ r.length ≤ m + 1 ∧ (w.heap.size ≤ b ∧ ∀ x ∈ F0, w.heap.size ≤ x) ∧ Cur w0 w' g ∧ Chg [g] w w' := by
  obtain ⟨v, F, ds, rfl, hS, hN, hF, hl, hr, hc, hC⟩ := h
  obtain ⟨r, rfl⟩ : ∃ r, ds = [r] := List.length_eq_one_iff.1 hl
  obtain ⟨b, cap, rfl, hb, _, _⟩ := hS.block (by simp)
  obtain ⟨v0, F0, a3, b3, _, hI, hIF, _⟩ := hS.row hN (k := 0) (by simp)
  exact ⟨b, cap, v0, F0, r, rfl, a3, b3, hI, hr r (by simp), ⟨hF b hb, fun x hx => hF x (hIF x hx)⟩, hc, hC⟩
set_option maxRecDepth 100000 in
set_option maxHeartbeats 4000000 in
theorem DrawDotProduct_any {A : Option Addr} {c : Nat} {bs : List UInt8} {w : World} (hx : bs.length ≤ 1048576) (h1 : RU w A bs) :
    Calls Try.prog 16 #[.slice A bs.length c] w (DdP w) := by
  go_enter Try.func16, Try.ntmps16
  go_wp2_with fail
  refine (l1New_any hx h1).mono ?_
  rintro e w1 ⟨g, rfl, hc1⟩
  go_wp2_with fail
  refine (l1Below_any hc1 (by omega) (by omega)).mono ?_
  rintro e w2 ⟨x, rfl, hx0, hx1, hc2, hC2⟩
  obtain ⟨k, rfl⟩ : ∃ k : Nat, x = k := ⟨x.toNat, by omega⟩
  clear hc1
  go_wp2_with fail
  go_region_with (first
    | (go_at_call 30; (with_reducible refine (l13Rows_one (hc2.toExt (drew_ext _)) ?_).mono ?_); (focus omega); rintro e w3 h3; obtain ⟨g3, p3, v3, F3, r3, rfl, l3, k3, hS3, hr3, hF3, hc3, hC3⟩ := one_row h3; have n3 : g3 ∉ [g] := (fun e => by have h8 := hc2.lt; have h9 := hF3.1; rw [List.mem_singleton.1 e] at h9; rw [show w2.drew.heap.size = w2.heap.size from rfl] at h9; omega); have HF3 := Lib.hid hF3; clear h3 hF3)
    | (go_at_call 30; (with_reducible refine (l13Rows_one hc3 ?_).mono ?_); (focus omega); rintro e w5 h5; obtain ⟨g5, p5, v5, F5, r5, rfl, l5, k5, hS5, hr5, hF5, hc5, hC5⟩ := one_row h5; have k4 : w5.cell? ⟨g3, 0, none⟩ = some v3 := (hC5.cell n3 l3).trans k3; have l4 : g3 < w5.heap.size := Nat.lt_of_lt_of_le l3 hC5.size; have HF5 := Lib.hid hF5; clear h5 hF5))
  all_goals
    have hS3' := hS3.chg hC5 (fun b hb h => by have h8 := hc2.lt; have h9 := HF3.out.2 b hb; rw [show w2.drew.heap.size = w2.heap.size from rfl] at h9; rw [List.mem_singleton.1 h] at h9; omega)
    go_wp2
    go_ret2
    show DdP w _ _
    exact ⟨v3, F3, r3, v5, F5, r5, rfl, hc5.2.1, hS3', hS5, by omega, by omega⟩
end Go.Proofs.Ytbaheampmiecmaa
