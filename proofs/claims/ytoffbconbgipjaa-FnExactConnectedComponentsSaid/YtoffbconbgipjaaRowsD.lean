/- The laws' helpers on rows of rows, in one form for all types: bounds, what is owned, what is only read. -/
import Derived.Test.YtoffbconbgipjaaRowsN
namespace Go.Proofs.Ytoffbconbgipjaa
open Go.RowKit

theorem OD.toExt {α : Type} {E : SE α} [SMono E] {w w' : World} {cs : List Value} {d : α} {F : List Nat} (h : E w cs d F) (hx : ∃ y, w' = ext w y) : E w' cs d F := by
  obtain ⟨y, rfl⟩ := hx
  exact SMono.keep h fun b hb => (below_ext w y).block b (SMono.lt h b hb)
theorem OD.chg {α : Type} {E : SE α} [SMono E] {w w' : World} {cs : List Value} {d : α} {F G : List Nat} (h : E w cs d F) (hc : Chg G w w') (hd : ∀ b ∈ F, b ∉ G) : E w' cs d F := SMono.keep h fun b hb => hc.block b (SMono.lt h b hb) (hd b hb)
theorem VD.toExt {α : Type} {V : VE α} [VMono V] {w w' : World} {cs : List Value} {d : α} (h : V w cs d) (hx : ∃ y, w' = ext w y) : V w' cs d := by
  obtain ⟨y, rfl⟩ := hx
  exact VMono.ext h
/-- lengths: as they come, small, and small enough -/
def QSS {α : Type} (d : List (List α)) : Prop := d.length ≤ maxLen ∧ ∀ x ∈ d, x.length ≤ maxLen
def BSS {α : Type} (d : List (List α)) : Prop := d.length ≤ 1048576 ∧ (d.map List.length).sum ≤ 1048576
theorem BSS.each {α : Type} {d : List (List α)} (h : BSS d) : ∀ x ∈ d, x.length ≤ 1048576 := fun _ hx => Nat.le_trans (sum_each (c := List.length) hx) h.2
theorem BSS.big {α : Type} {d : List (List α)} (h : BSS d) : ∀ x ∈ d, x.length ≤ 1000000000 := fun x hx => Nat.le_trans (h.each x hx) (by omega)
theorem sum_mul {α : Type} (d : List (List α)) (n : Nat) : (d.map fun x => n * x.length).sum = n * (d.map List.length).sum := by
  induction d with
  | nil => simp
  | cons x d ih => simp only [List.map_cons, List.sum_cons, ih, Nat.mul_add]
theorem sum_one {α : Type} (d : List (List α)) : (d.map fun x => x.length).sum = (d.map List.length).sum := rfl

abbrev vII : VE (List (List Int)) := vSl 1 (vSl 1 vI)
abbrev sII : SE (List (List Int)) := sSl 22 1 (sSl 3 1 sI)
theorem sII_v {w : World} (c : List Value) (d : List (List Int)) (F : List Nat) (h : sII w c d F) : vII w c d := sSl_v (sSl_v sI_v) c d F h
theorem vII_get {w : World} {A : Option Addr} {n c : Nat} {d : List (List Int)} (h : vII w [.slice A n c] d) : n = d.length ∧ RII w A d := by
  obtain ⟨A', c', e, h⟩ := h
  injection e with e
  injection e with e1 e2 e3
  subst e1
  exact ⟨e2, h⟩
theorem sII_form {w : World} {v : Value} {d : List (List Int)} {F : List Nat} (h : sII w [v] d F) : ∃ A c, v = .slice A d.length c := by
  obtain ⟨v', e, h⟩ := h
  injection e with e
  subst e
  obtain ⟨A, c, e, _⟩ := h.form
  exact ⟨A, c, e⟩
theorem szII_le {left : Int} {xs : List (List Int)} (h : 0 ≤ szN szI left xs) : szN szI left xs ≤ left := szN_le (fun l x h => by have := szI_sub l x h; omega) h
theorem szII_small {left : Int} {xs : List (List Int)} (h : 0 ≤ szN szI left xs) (hl : left ≤ 1048576) : BSS xs := by
  have := szN_small (c := List.length) (szI_sub) h
  exact ⟨by omega, by omega⟩
theorem eqIntSS_d {A A' : Option Addr} {c c' : Nat} {d d' : List (List Int)} {w : World} (hb : BSS d) (h : vII w [.slice A d.length c] d) (hb' : BSS d') (h' : vII w [.slice A' d'.length c'] d') :
    Calls Try.prog 49 #[.slice A d.length c, .slice A' d'.length c'] w fun e w' => e = .returned (.bool (decide (d = d'))) ∧ ∃ y, w' = ext w y :=
  eqIntSS_any (Nat.le_trans hb.1 (by omega)) (vII_get h).2 hb.big (Nat.le_trans hb'.1 (by omega)) (vII_get h').2 hb'.big
theorem mkI_tot {d : List (List Int)} (hb : BSS d) : (d.map fun x => x.length).sum ≤ 3000000 := by
  have := hb.2
  rw [sum_one]
  omega
theorem markIntSS_d {v : Value} {d : List (List Int)} {F : List Nat} {k0 : Int} {w : World} (hb : BSS d) (h : sII w [v] d F) (hN : F.Nodup) (h0 : 0 ≤ k0) (hk0 : k0 ≤ 90000000000) :
    Calls Try.prog 50 #[v, .int .i64 k0] w fun e w' => ∃ k', e = .returned (.int .i64 k') ∧ Hid ((mkN mkI k0 d).2 = k') ∧ k0 ≤ k' ∧ k' ≤ k0 + 3000000 ∧ sII w' [v] (mkN mkI k0 d).1 F ∧ Chg F w w' := by
  have hm := mkI_tot hb
  obtain ⟨v', e, h⟩ := h
  injection e with e
  subst e
  refine (markIntSS_any (Nat.le_trans hb.1 (by omega)) hb.big h hN h0 (by omega)).mono ?_
  rintro e w' ⟨h1, h2, h3⟩
  refine ⟨_, h1, Lib.hid rfl, ?_, ?_, ⟨_, rfl, h2⟩, h3⟩ <;> (rw [mkI_sum]; omega)
theorem heldIntSS_d {A : Option Addr} {c n : Nat} {d : List (List Int)} {k0 k' : Int} {w : World} (hb : BSS d) (hk : Hid ((mkN mkI k0 d).2 = k')) (h : vII w [.slice A n c] (mkN mkI k0 d).1) (h0 : 0 ≤ k0) (hk0 : k0 ≤ 90000000000) :
    Calls Try.prog 51 #[.slice A n c, .int .i64 k0] w fun e w' => e = .returned (.int .i64 k') ∧ ∃ y, w' = ext w y := by
  have hm := mkI_tot hb
  obtain ⟨hn, hv⟩ := vII_get h
  rw [mkN_length] at hn
  have := heldIntSS_any (c := c) hn.symm (by have := hb.1; omega) hb.big hv h0 (by omega)
  rw [hk.out] at this
  exact this

end Go.Proofs.Ytoffbconbgipjaa
