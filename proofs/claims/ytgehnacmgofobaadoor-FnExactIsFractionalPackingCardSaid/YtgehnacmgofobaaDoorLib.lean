/- A law file of our own: what a call leaves behind, as an extension of the world that it met; read-only views of slices. No program in it. -/
import Derived.WalkKit
import Derived.WalkSpells
import Derived.WalkLawsBesides
import Derived.Deep.QuietTactic
import Derived.BigQuiet
import Derived.Outline
import Derived.Lib.Hide
import Derived.ProofKit
import Derived.Deep.RegionHeld3
import Derived.Deep.Cut
namespace Go.Proofs.YtgehnacmgofobaaDoor
open Go.RowKit

/-- 'w' extended: what lies in 'w' stays, new blocks behind it, draws. -/
def ext (w x : World) : World := { x with os := w.os, tape := w.tape, output := w.output, heap := w.heap ++ x.heap.extract w.heap.size x.heap.size }

theorem below_ext (w x : World) : Below w.heap.size w (ext w x) :=
  ⟨rfl, rfl, rfl, by simp [ext], fun k hk => by simp [ext, Array.getElem?_append, hk]⟩
theorem ext_of_below {w x : World} (h : Below w.heap.size w x) : ext w x = x := by
  obtain ⟨h1, h2, h3, h4, h5⟩ := h
  have hh : w.heap ++ x.heap.extract w.heap.size x.heap.size = x.heap := by
    apply Array.ext_getElem?
    intro i
    rw [Array.getElem?_append]
    split
    · rename_i hi; exact (h5 i hi).symm
    · rename_i hi
      rw [Array.getElem?_extract]
      split
      · congr 1; omega
      · rw [Array.getElem?_eq_none (by omega)]
  unfold ext
  rw [hh, ← h1, ← h2, ← h3]
/-- the class of worlds that extend 'w' -/
theorem isExt {w x : World} (h : Below w.heap.size w x) : ∃ y, x = ext w y := ⟨x, (ext_of_below h).symm⟩

section
variable {w x y : World} {a : Addr} {b : Nat}
theorem size_ext : w.heap.size ≤ (ext w x).heap.size := (below_ext w x).size
@[go_sem] theorem cell_ext (h : a.block < w.heap.size) : (ext w x).cell? a = w.cell? a := (below_ext w x).cell h
@[go_sem] theorem frozen_ext (h : a.block < w.heap.size) : (ext w x).frozen? a = w.frozen? a := (below_ext w x).frozen h
@[simp, go_sem] theorem tape_ext : (ext w x).tape = w.tape := rfl
@[go_sem] theorem lt_ext (h : b < w.heap.size) : b < (ext w x).heap.size := Nat.lt_of_lt_of_le h size_ext
@[go_sem] theorem le_ext (h : b ≤ w.heap.size) : b ≤ (ext w x).heap.size := Nat.le_trans h size_ext
@[go_sem] theorem le_size (h : b < w.heap.size) : b ≤ w.heap.size := Nat.le_of_lt h
theorem ext_ext : ext (ext w x) y = ext w (ext (ext w x) y) := (ext_of_below ((below_ext w x).trans ((below_ext _ y).mono size_ext))).symm
end

attribute [irreducible] ext

theorem drewN_ext (w : World) (n : Nat) : ∃ y, w.drewN n = ext w y := isExt ⟨rfl, rfl, rfl, Nat.le_refl _, fun _ _ => rfl⟩
theorem drew_ext (w : World) : ∃ y, w.drew = ext w y := isExt ⟨rfl, rfl, rfl, Nat.le_refl _, fun _ _ => rfl⟩
theorem alloc_ext (w : World) (o : Obj) : ∃ y, w.alloc o = ext w y := isExt ((Below.refl _ _).alloc (Nat.le_refl _) o)
theorem refl_ext (w : World) : ∃ y, w = ext w y := isExt (Below.refl _ _)
theorem trans_ext {w w1 w2 : World} (h : ∃ y, w1 = ext w y) (k : ∃ y, w2 = ext w1 y) : ∃ y, w2 = ext w y := by
  obtain ⟨y, rfl⟩ := h
  obtain ⟨z, rfl⟩ := k
  exact ⟨_, ext_ext⟩

/-- A region that draws its order, whose operations and callees leave what was there alone, each yielding one value: one walk serves every order. -/
theorem wp_region_ext {P : Program} {id : Nat} {Q : Exit → Act → World → Prop} {a : Act} {w : World} {l : List Oper} (hm : P.follows .mixedOrders = true) (hB : Region.lexB .any l.toArray = true)
    (h : wpQuiet P l.toArray (fun w' => ∃ y, w' = ext w y) (fun a' => ∀ w', (∃ y, w' = ext w y) → Q .normal a' w') l a) : (Code.region id l.toArray true).wp P Q a w :=
  wp_region_quiet (C := fun w' => ∃ y, w' = ext w y) hm hB (drew_ext w) (by simpa using h)

/-- A callee's contract, met inside such a region. -/
theorem quietE {P : Program} {f : FuncId} {args : Array Value} {w y : World} {v : Value}
    (h : Calls P f args (ext w y) fun e w' => e = .returned v ∧ ∃ z, w' = ext (ext w y) z) : Calls P f args (ext w y) fun e w' => e = .returned v ∧ ∃ z, w' = ext w z :=
  h.mono fun _ _ ⟨he, hz⟩ => ⟨he, trans_ext ⟨y, rfl⟩ hz⟩

theorem quietS {P : Program} {f : FuncId} {args : Array Value} {w y : World} {v : Value}
    (h : Calls P f args (ext w y) fun e w' => e = .returned v ∧ ext w y = w') : Calls P f args (ext w y) fun e w' => e = .returned v ∧ ∃ z, w' = ext w z :=
  h.mono fun _ _ ⟨he, hz⟩ => ⟨he, y, hz.symm⟩
theorem quietSb {P : Program} {f : FuncId} {args : Array Value} {w y : World} {c b : Bool}
    (h : Calls P f args (ext w y) fun e w' => e = .returned (.bool c) ∧ ext w y = w') (hc : c = b) : Calls P f args (ext w y) fun e w' => e = .returned (.bool b) ∧ ∃ z, w' = ext w z := by
  subst hc; exact quietS h
theorem quietEb {P : Program} {f : FuncId} {args : Array Value} {w y : World} {c b : Bool}
    (h : Calls P f args (ext w y) fun e w' => e = .returned (.bool c) ∧ ∃ z, w' = ext (ext w y) z) (hc : c = b) : Calls P f args (ext w y) fun e w' => e = .returned (.bool b) ∧ ∃ z, w' = ext w z := by
  subst hc; exact quietE h
theorem ret_int {k : IntKind} {a b : Int} (h : a = b) : Ending.returned (.int k a) = .returned (.int k b) := by rw [h]
theorem ret_bool {a b : Bool} (h : a = b) : Ending.returned (.bool a) = .returned (.bool b) := by rw [h]

theorem haveThen {p q : Prop} (h : p) (k : p → q) : q := k h
/-- the world gets a name -/
theorem wp_name {P : Program} {c : Code} {Q : Exit → Act → World → Prop} {a : Act} {w : World} (h : ∀ W, Hid (W = w) → c.wp P Q a W) : c.wp P Q a w := h w rfl
/-- for a region that draws and holds calls that make memory: what was there reads as it did -/
theorem heldE {W w' : World} (h : ∃ y, w' = ext W y) : (∀ a : Addr, a.block < W.heap.size → w'.cell? a = W.cell? a) ∧ ∃ y, w' = ext W y := by
  obtain ⟨y, rfl⟩ := h
  exact ⟨fun a ha => cell_ext ha, y, rfl⟩

end Go.Proofs.YtgehnacmgofobaaDoor
