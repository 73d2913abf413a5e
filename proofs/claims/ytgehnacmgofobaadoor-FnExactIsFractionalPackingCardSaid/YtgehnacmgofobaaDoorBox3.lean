/- Boxes of three cells. No program in it. -/
import Derived.Test.YtgehnacmgofobaaDoorApp
import Derived.Test.YtgehnacmgofobaaDoorOpen
namespace Go.Proofs.YtgehnacmgofobaaDoor
open Go.RowKit

theorem box3 {w : World} {B : Nat} {a b c : Value} (h : BoxAt w B #[a, b, c]) : B < w.heap.size ∧ w.cell? ⟨B, 0, none⟩ = some a ∧ w.cell? ⟨B, 1, none⟩ = some b ∧ w.cell? ⟨B, 2, none⟩ = some c ∧ ∀ j, w.frozen? ⟨B, j, none⟩ = false := ⟨h.1, h.2.1 0, h.2.1 1, h.2.1 2, h.2.2⟩
theorem BoxAt.setJ {w : World} {B j : Nat} {cs : Array Value} {u : Value} (h : BoxAt w B cs) (hj : j < cs.size) : BoxAt (w.setCell ⟨B, j, none⟩ u) B (cs.setIfInBounds j u) := by
  obtain ⟨h1, h2, h3⟩ := h
  have e := h2 j
  rw [Array.getElem?_eq_getElem hj] at e
  refine ⟨by simpa using h1, fun i => ?_, fun i => ?_⟩
  · by_cases hi : i = j
    · subst hi
      rw [Array.getElem?_setIfInBounds_self_of_lt hj]
      go_simp
    · rw [Array.getElem?_setIfInBounds_ne (by omega), ← h2 i]
      go_simp
  · go_simp
theorem BoxAt.set30 {w : World} {B : Nat} {a b c u : Value} (h : BoxAt w B #[a, b, c]) : BoxAt (w.setCell ⟨B, 0, none⟩ u) B #[u, b, c] := h.setJ (j := 0) (by simp)
theorem BoxAt.set31 {w : World} {B : Nat} {a b c u : Value} (h : BoxAt w B #[a, b, c]) : BoxAt (w.setCell ⟨B, 1, none⟩ u) B #[a, u, c] := h.setJ (j := 1) (by simp)
theorem BoxAt.set32 {w : World} {B : Nat} {a b c u : Value} (h : BoxAt w B #[a, b, c]) : BoxAt (w.setCell ⟨B, 2, none⟩ u) B #[a, b, u] := h.setJ (j := 2) (by simp)
theorem BoxAt.set3 {w : World} {B : Nat} {a b c u v x : Value} (h : BoxAt w B #[a, b, c]) : BoxAt (((w.setCell ⟨B, 0, none⟩ u).setCell ⟨B, 1, none⟩ v).setCell ⟨B, 2, none⟩ x) B #[u, v, x] := h.set30.set31.set32
theorem BoxAt.set3' {w : World} {B B' : Nat} {cs : Array Value} {u v x : Value} (h : BoxAt w B cs) (hne : B ≠ B') : BoxAt (((w.setCell ⟨B', 0, none⟩ u).setCell ⟨B', 1, none⟩ v).setCell ⟨B', 2, none⟩ x) B cs := ((h.setO hne).setO hne).setO hne
theorem sP_mk {α β : Type} {E0 : SE α} {E1 : SE β} {w : World} {u : Value} {cs : List Value} {d : α × β} {F0 F1 : List Nat} (h0 : E0 w [u] d.1 F0) (h1 : E1 w cs d.2 F1) : sP 1 E0 E1 w (u :: cs) d (F0 ++ F1) := ⟨[u], cs, F0, F1, rfl, rfl, h0, h1, rfl⟩
end Go.Proofs.YtgehnacmgofobaaDoor
