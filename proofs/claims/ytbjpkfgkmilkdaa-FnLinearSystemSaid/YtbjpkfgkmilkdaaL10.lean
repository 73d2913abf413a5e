/- Contracts of functions that the statement reaches. -/
import Derived.Test.YtbjpkfgkmilkdaaL08
import Derived.Test.YtbjpkfgkmilkdaaL09
namespace Go.Proofs.Ytbjpkfgkmilkdaa
open Go.RowKit
theorem RV.place {w : World} {α : Type} {size : Nat} {E : VE α} {A : Option Addr} {d : List α} (h : RV size E w A d) (hk : 0 < d.length) : ∃ b o, A = some ⟨b, o, none⟩ := by
  obtain ⟨b, o, e, _⟩ := h (by intro e; rw [e] at hk; simp at hk)
  exact ⟨b, o, e⟩
theorem cellX {w wr : World} {b o : Nat} {u : Value} (hy : ∃ y, wr = ext w y) (hb : b < w.heap.size) (h : w.cell? ⟨b, o, none⟩ = some u) : wr.cell? ⟨b, o, none⟩ = some u := by
  obtain ⟨y, rfl⟩ := hy
  rw [cell_ext hb]; exact h
theorem ltX {w wr : World} {b : Nat} (hy : ∃ y, wr = ext w y) (hb : b < w.heap.size) : b < wr.heap.size := Nat.lt_of_lt_of_le hb (size_of_ext hy)
end Go.Proofs.Ytbjpkfgkmilkdaa
