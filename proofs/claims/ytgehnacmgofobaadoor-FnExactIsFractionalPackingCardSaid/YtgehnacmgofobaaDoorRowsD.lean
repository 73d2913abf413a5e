/- The laws' helpers on rows of rows, in one form for all types: bounds, what is owned, what is only read. -/
import Derived.Test.YtgehnacmgofobaaDoorRowsN
namespace Go.Proofs.YtgehnacmgofobaaDoor
open Go.RowKit

theorem OD.toExt {α : Type} {E : SE α} [SMono E] {w w' : World} {cs : List Value} {d : α} {F : List Nat} (h : E w cs d F) (hx : ∃ y, w' = ext w y) : E w' cs d F := by
  obtain ⟨y, rfl⟩ := hx
  exact SMono.keep h fun b hb => (below_ext w y).block b (SMono.lt h b hb)
theorem OD.chg {α : Type} {E : SE α} [SMono E] {w w' : World} {cs : List Value} {d : α} {F G : List Nat} (h : E w cs d F) (hc : Chg G w w') (hd : ∀ b ∈ F, b ∉ G) : E w' cs d F := SMono.keep h fun b hb => hc.block b (SMono.lt h b hb) (hd b hb)
theorem VD.toExt {α : Type} {V : VE α} [VMono V] {w w' : World} {cs : List Value} {d : α} (h : V w cs d) (hx : ∃ y, w' = ext w y) : V w' cs d := by
  obtain ⟨y, rfl⟩ := hx
  exact VMono.ext h
/-- lengths: as they come, small, and small enough -/
def QSS {α : Type} (d : List (List α)) : Prop := d.length ≤ maxLen ∧ ∀ x ∈ d, x.length ≤ maxLen
def BSS {α : Type} (d : List (List α)) : Prop := d.length ≤ 1048576 ∧ (d.map List.length).sum ≤ 1048576
theorem BSS.each {α : Type} {d : List (List α)} (h : BSS d) : ∀ x ∈ d, x.length ≤ 1048576 := fun _ hx => Nat.le_trans (sum_each (c := List.length) hx) h.2
theorem BSS.big {α : Type} {d : List (List α)} (h : BSS d) : ∀ x ∈ d, x.length ≤ 1000000000 := fun x hx => Nat.le_trans (h.each x hx) (by omega)
theorem sum_mul {α : Type} (d : List (List α)) (n : Nat) : (d.map fun x => n * x.length).sum = n * (d.map List.length).sum := by
  induction d with
  | nil => simp
  | cons x d ih => simp only [List.map_cons, List.sum_cons, ih, Nat.mul_add]
theorem sum_one {α : Type} (d : List (List α)) : (d.map fun x => x.length).sum = (d.map List.length).sum := rfl

end Go.Proofs.YtgehnacmgofobaaDoor
