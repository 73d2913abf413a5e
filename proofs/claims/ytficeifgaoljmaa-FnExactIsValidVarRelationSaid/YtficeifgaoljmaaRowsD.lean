/- The laws' helpers on rows of rows, in one form for all types: bounds, what is owned, what is only read. -/
import Derived.Test.YtficeifgaoljmaaRowsN
namespace Go.Proofs.Ytficeifgaoljmaa
open Go.RowKit

theorem OD.toExt {α : Type} {E : SE α} [SMono E] {w w' : World} {cs : List Value} {d : α} {F : List Nat} (h : E w cs d F) (hx : ∃ y, w' = ext w y) : E w' cs d F := by
  obtain ⟨y, rfl⟩ := hx
  exact SMono.keep h fun b hb => (below_ext w y).block b (SMono.lt h b hb)
theorem OD.chg {α : Type} {E : SE α} [SMono E] {w w' : World} {cs : List Value} {d : α} {F G : List Nat} (h : E w cs d F) (hc : Chg G w w') (hd : ∀ b ∈ F, b ∉ G) : E w' cs d F := SMono.keep h fun b hb => hc.block b (SMono.lt h b hb) (hd b hb)
theorem VD.toExt {α : Type} {V : VE α} [VMono V] {w w' : World} {cs : List Value} {d : α} (h : V w cs d) (hx : ∃ y, w' = ext w y) : V w' cs d := by
  obtain ⟨y, rfl⟩ := hx
  exact VMono.ext h
/-- lengths: as they come, small, and small enough -/
def QSS {α : Type} (d : List (List α)) : Prop := d.length ≤ maxLen ∧ ∀ x ∈ d, x.length ≤ maxLen
def BSS {α : Type} (d : List (List α)) : Prop := d.length ≤ 1048576 ∧ (d.map List.length).sum ≤ 1048576
theorem BSS.each {α : Type} {d : List (List α)} (h : BSS d) : ∀ x ∈ d, x.length ≤ 1048576 := fun _ hx => Nat.le_trans (sum_each (c := List.length) hx) h.2
theorem BSS.big {α : Type} {d : List (List α)} (h : BSS d) : ∀ x ∈ d, x.length ≤ 1000000000 := fun x hx => Nat.le_trans (h.each x hx) (by omega)
theorem sum_mul {α : Type} (d : List (List α)) (n : Nat) : (d.map fun x => n * x.length).sum = n * (d.map List.length).sum := by
  induction d with
  | nil => simp
  | cons x d ih => simp only [List.map_cons, List.sum_cons, ih, Nat.mul_add]
theorem sum_one {α : Type} (d : List (List α)) : (d.map fun x => x.length).sum = (d.map List.length).sum := rfl

abbrev vII : VE (List (List Int)) := vSl 1 (vSl 1 vI)
abbrev sII : SE (List (List Int)) := sSl 22 1 (sSl 3 1 sI)
theorem sII_v {w : World} (c : List Value) (d : List (List Int)) (F : List Nat) (h : sII w c d F) : vII w c d := sSl_v (sSl_v sI_v) c d F h
theorem vII_get {w : World} {A : Option Addr} {n c : Nat} {d : List (List Int)} (h : vII w [.slice A n c] d) : n = d.length ∧ RII w A d := by
  obtain ⟨A', c', e, h⟩ := h
  injection e with e
  injection e with e1 e2 e3
  subst e1
  exact ⟨e2, h⟩
theorem sII_form {w : World} {v : Value} {d : List (List Int)} {F : List Nat} (h : sII w [v] d F) : ∃ A c, v = .slice A d.length c := by
  obtain ⟨v', e, h⟩ := h
  injection e with e
  subst e
  obtain ⟨A, c, e, _⟩ := h.form
  exact ⟨A, c, e⟩
theorem szII_le {left : Int} {xs : List (List Int)} (h : 0 ≤ szN szI left xs) : szN szI left xs ≤ left := szN_le (fun l x h => by have := szI_sub l x h; omega) h
theorem szII_small {left : Int} {xs : List (List Int)} (h : 0 ≤ szN szI left xs) (hl : left ≤ 1048576) : BSS xs := by
  have := szN_small (c := List.length) (szI_sub) h
  exact ⟨by omega, by omega⟩
theorem szIntSS_d {A : Option Addr} {c : Nat} {d : List (List Int)} {left : Int} {w : World} (hq : QSS d) (h : vII w [.slice A d.length c] d) (h1 : 0 ≤ left) (h2 : left ≤ 1000000000) :
    Calls Try.prog 26 #[.slice A d.length c, .int .i64 left] w fun e w' => e = .returned (.int .i64 (szN szI left d)) ∧ ∃ y, w' = ext w y :=
  szIntSS_any (le_maxLen hq.1) (vII_get h).2 (fun x hx => le_maxLen (hq.2 x hx)) h1 h2
theorem toIntSS_d {A : Option Addr} {c : Nat} {d : List (List Int)} {w : World} (hb : BSS d) (h : vII w [.slice A d.length c] d) :
    Calls Try.prog 27 #[.slice A d.length c] w fun e w' => ∃ v F, e = .returned v ∧ (∃ y, w' = ext w y) ∧ sII w' [v] d F ∧ F.Nodup ∧ ∀ b ∈ F, w.heap.size ≤ b := by
  refine (toIntSS_any hb.1 (vII_get h).2 hb.each).mono ?_
  rintro e w' ⟨v, F, h1, h2, h3, h4⟩
  exact ⟨v, F, h1, h2, ⟨v, rfl, h3⟩, h4⟩
theorem eqIntSS_d {A A' : Option Addr} {c c' : Nat} {d d' : List (List Int)} {w : World} (hb : BSS d) (h : vII w [.slice A d.length c] d) (hb' : BSS d') (h' : vII w [.slice A' d'.length c'] d') :
    Calls Try.prog 29 #[.slice A d.length c, .slice A' d'.length c'] w fun e w' => e = .returned (.bool (decide (d = d'))) ∧ ∃ y, w' = ext w y :=
  eqIntSS_any (Nat.le_trans hb.1 (by omega)) (vII_get h).2 hb.big (Nat.le_trans hb'.1 (by omega)) (vII_get h').2 hb'.big
end Go.Proofs.Ytficeifgaoljmaa
