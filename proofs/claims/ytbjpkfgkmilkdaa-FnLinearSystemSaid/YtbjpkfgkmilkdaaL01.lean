/- Contracts of functions that the statement reaches. -/
import Derived.WalkKit
import Derived.WalkSpells
import Derived.WalkLawsBesides
import Derived.Deep.QuietTactic
import Derived.BigQuiet
import Derived.Outline
import Derived.Lib.Hide
import Derived.ProofKit
import Derived.Deep.RegionHeld3
import Derived.Deep.Cut
import Derived.Maps.AppendAt
import Derived.Test.YtbjpkfgkmilkdaaRows
import Derived.Laws.BytesArg
import Derived.Laws.AppendOwnNone
import Derived.Deep.Slices
namespace Go.Proofs.Ytbjpkfgkmilkdaa
open Go.RowKit
def ext (w x : World) : World := { x with os := w.os, tape := w.tape, output := w.output, heap := w.heap ++ x.heap.extract w.heap.size x.heap.size }
theorem below_ext (w x : World) : Below w.heap.size w (ext w x) :=
  ⟨rfl, rfl, rfl, by simp [ext], fun k hk => by simp [ext, Array.getElem?_append, hk]⟩
theorem ext_of_below {w x : World} (h : Below w.heap.size w x) : ext w x = x := by
  obtain ⟨h1, h2, h3, h4, h5⟩ := h
  have hh : w.heap ++ x.heap.extract w.heap.size x.heap.size = x.heap := by
    apply Array.ext_getElem?
    intro i
    rw [Array.getElem?_append]
    split
    · rename_i hi; exact (h5 i hi).symm
    · rename_i hi
      rw [Array.getElem?_extract]
      split
      · congr 1; omega
      · rw [Array.getElem?_eq_none (by omega)]
  unfold ext
  rw [hh, ← h1, ← h2, ← h3]
theorem isExt {w x : World} (h : Below w.heap.size w x) : ∃ y, x = ext w y := ⟨x, (ext_of_below h).symm⟩
section
variable {w x y : World} {a : Addr} {b : Nat}
theorem size_ext : w.heap.size ≤ (ext w x).heap.size := (below_ext w x).size
@[go_sem] theorem cell_ext (h : a.block < w.heap.size) : (ext w x).cell? a = w.cell? a := (below_ext w x).cell h
@[go_sem] theorem frozen_ext (h : a.block < w.heap.size) : (ext w x).frozen? a = w.frozen? a := (below_ext w x).frozen h
@[simp, go_sem] theorem tape_ext : (ext w x).tape = w.tape := rfl
@[go_sem] theorem lt_ext (h : b < w.heap.size) : b < (ext w x).heap.size := Nat.lt_of_lt_of_le h size_ext
@[go_sem] theorem le_ext (h : b ≤ w.heap.size) : b ≤ (ext w x).heap.size := Nat.le_trans h size_ext
@[go_sem] theorem le_size (h : b < w.heap.size) : b ≤ w.heap.size := Nat.le_of_lt h
theorem ext_ext : ext (ext w x) y = ext w (ext (ext w x) y) := (ext_of_below ((below_ext w x).trans ((below_ext _ y).mono size_ext))).symm
end
attribute [irreducible] ext
theorem drew_ext (w : World) : ∃ y, w.drew = ext w y := isExt ⟨rfl, rfl, rfl, Nat.le_refl _, fun _ _ => rfl⟩
theorem alloc_ext (w : World) (o : Obj) : ∃ y, w.alloc o = ext w y := isExt ((Below.refl _ _).alloc (Nat.le_refl _) o)
theorem refl_ext (w : World) : ∃ y, w = ext w y := isExt (Below.refl _ _)
theorem trans_ext {w w1 w2 : World} (h : ∃ y, w1 = ext w y) (k : ∃ y, w2 = ext w1 y) : ∃ y, w2 = ext w y := by
  obtain ⟨y, rfl⟩ := h
  obtain ⟨z, rfl⟩ := k
  exact ⟨_, ext_ext⟩
theorem wp_region_ext {P : Program} {id : Nat} {Q : Exit → Act → World → Prop} {a : Act} {w : World} {l : List Oper} (hm : P.follows .mixedOrders = true) (hB : Region.lexB .any l.toArray = true)
    (h : wpQuiet P l.toArray (fun w' => ∃ y, w' = ext w y) (fun a' => ∀ w', (∃ y, w' = ext w y) → Q .normal a' w') l a) : (Code.region id l.toArray true).wp P Q a w :=
  wp_region_quiet (C := fun w' => ∃ y, w' = ext w y) hm hB (drew_ext w) (by simpa using h)
theorem quietE {P : Program} {f : FuncId} {args : Array Value} {w y : World} {v : Value}
    (h : Calls P f args (ext w y) fun e w' => e = .returned v ∧ ∃ z, w' = ext (ext w y) z) : Calls P f args (ext w y) fun e w' => e = .returned v ∧ ∃ z, w' = ext w z :=
  h.mono fun _ _ ⟨he, hz⟩ => ⟨he, trans_ext ⟨y, rfl⟩ hz⟩
theorem quietS {P : Program} {f : FuncId} {args : Array Value} {w y : World} {v : Value}
    (h : Calls P f args (ext w y) fun e w' => e = .returned v ∧ ext w y = w') : Calls P f args (ext w y) fun e w' => e = .returned v ∧ ∃ z, w' = ext w z :=
  h.mono fun _ _ ⟨he, hz⟩ => ⟨he, y, hz.symm⟩
theorem quietSb {P : Program} {f : FuncId} {args : Array Value} {w y : World} {c b : Bool}
    (h : Calls P f args (ext w y) fun e w' => e = .returned (.bool c) ∧ ext w y = w') (hc : c = b) : Calls P f args (ext w y) fun e w' => e = .returned (.bool b) ∧ ∃ z, w' = ext w z := by
  subst hc; exact quietS h
theorem ret_int {k : IntKind} {a b : Int} (h : a = b) : Ending.returned (.int k a) = .returned (.int k b) := by rw [h]
theorem ret_bool {a b : Bool} (h : a = b) : Ending.returned (.bool a) = .returned (.bool b) := by rw [h]
theorem haveThen {p q : Prop} (h : p) (k : p → q) : q := k h
theorem wp_name {P : Program} {c : Code} {Q : Exit → Act → World → Prop} {a : Act} {w : World} (h : ∀ W, Hid (W = w) → c.wp P Q a W) : c.wp P Q a w := h w rfl
theorem heldE {W w' : World} (h : ∃ y, w' = ext W y) : (∀ a : Addr, a.block < W.heap.size → w'.cell? a = W.cell? a) ∧ ∃ y, w' = ext W y := by
  obtain ⟨y, rfl⟩ := h
  exact ⟨fun a ha => cell_ext ha, y, rfl⟩
end Go.Proofs.Ytbjpkfgkmilkdaa
namespace Go.Proofs.Ytbjpkfgkmilkdaa
open Go.RowKit
theorem le_addk {a n : Nat} (h : a ≤ n) (k : Nat) : a ≤ n + k := Nat.le_trans h (Nat.le_add_right n k)
theorem le_alloc {a : Nat} {w : World} (h : a ≤ w.heap.size) (o : Obj) : a ≤ (w.alloc o).heap.size := by rw [World.size_alloc]; omega
theorem le_setC {a : Nat} {w : World} (h : a ≤ w.heap.size) (p : Addr) (u : Value) : a ≤ (w.setCell p u).heap.size := by rw [World.size_setCell]; exact h
theorem le_drew {a : Nat} {w : World} (h : a ≤ w.heap.size) : a ≤ w.drew.heap.size := h
structure Chg (F : List Nat) (w w' : World) : Prop where
  os : w'.os = w.os
  tape : w'.tape = w.tape
  output : w'.output = w.output
  size : w.heap.size ≤ w'.heap.size
  block : ∀ k, k < w.heap.size → k ∉ F → w'.heap[k]? = w.heap[k]?
theorem Chg.refl (F : List Nat) (w : World) : Chg F w w := ⟨rfl, rfl, rfl, Nat.le_refl _, fun _ _ _ => rfl⟩
theorem Chg.trans {F G : List Nat} {a b c : World} (h : Chg F a b) (k : Chg G b c) (hG : ∀ x ∈ G, x ∈ F ∨ a.heap.size ≤ x) : Chg F a c :=
  ⟨k.os.trans h.os, k.tape.trans h.tape, k.output.trans h.output, Nat.le_trans h.size k.size, fun i hi hF => by
    rw [k.block i (Nat.lt_of_lt_of_le hi h.size) (fun hg => by
      rcases hG i hg with h1 | h1
      · exact hF h1
      · omega), h.block i hi hF]⟩
theorem Chg.mono {F G : List Nat} {a b : World} (h : Chg F a b) (hG : ∀ x ∈ F, x ∈ G ∨ a.heap.size ≤ x) : Chg G a b :=
  ⟨h.os, h.tape, h.output, h.size, fun i hi hF => h.block i hi (fun hf => by
    rcases hG i hf with h1 | h1
    · exact hF h1
    · omega)⟩
theorem Chg.ofExt {F : List Nat} {w w' : World} (h : ∃ y, w' = ext w y) : Chg F w w' := by
  obtain ⟨y, rfl⟩ := h
  have hb := below_ext w y
  exact ⟨hb.os, hb.tape, hb.output, hb.size, fun k hk _ => hb.block k hk⟩
theorem Chg.cell {F : List Nat} {w w' : World} (h : Chg F w w') {b o : Nat} (hb : b ∉ F) (hl : b < w.heap.size) : w'.cell? ⟨b, o, none⟩ = w.cell? ⟨b, o, none⟩ := World.cell?_of_block (h.block b hl hb)
theorem Chg.alloc {F : List Nat} {a w : World} (h : Chg F a w) (o : Obj) : Chg F a (w.alloc o) := h.trans (Chg.ofExt (F := []) (alloc_ext w o)) (by simp)
theorem Chg.drew {F : List Nat} {a w : World} (h : Chg F a w) : Chg F a w.drew := h.trans (Chg.ofExt (F := []) (drew_ext w)) (by simp)
theorem Chg.setCell {F : List Nat} {a w : World} (h : Chg F a w) {p : Addr} (hp : p.block ∈ F ∨ a.heap.size ≤ p.block) (u : Value) : Chg F a (w.setCell p u) :=
  ⟨h.os, h.tape, h.output, by simpa using h.size, fun k hk hF => by
    rw [Below.heap_setCell w p u k (fun e => by
      rcases hp with h1 | h1
      · exact hF (by rw [e]; exact h1)
      · omega), h.block k hk hF]⟩
theorem Chg.setCellE {F : List Nat} {a w : World} (h : Chg F a w) {b o : Nat} {s : Option Nat} (hp : a.heap.size ≤ b) (u : Value) : Chg F a (w.setCell ⟨b, o, s⟩ u) := h.setCell (.inr hp) u
theorem Chg.extS {F : List Nat} {a w : World} (h : Chg F a w) (y : World) : Chg F a (ext w y) := h.trans (Chg.ofExt (F := []) ⟨y, rfl⟩) (by simp)
theorem Chg.isExt {F : List Nat} {w0 w w' : World} (h : Chg F w w') (h0 : ∃ y, w = ext w0 y) (hF : ∀ x ∈ F, w0.heap.size ≤ x) : ∃ y, w' = ext w0 y := by
  obtain ⟨y, rfl⟩ := h0
  have hb := below_ext w0 y
  exact Go.Proofs.Ytbjpkfgkmilkdaa.isExt ⟨h.os.trans hb.os, h.tape.trans hb.tape, h.output.trans hb.output, Nat.le_trans hb.size h.size, fun k hk => by
    rw [h.block k (Nat.lt_of_lt_of_le hk hb.size) (fun hf => by have := hF k hf; omega), hb.block k hk]⟩
theorem Chg.ofGrown {w w' : World} {row : Option Nat} {F : List Nat} (h : w.grownBy w' row) (hF : ∀ k, row = some k → k ∈ F) : Chg F w w' :=
  ⟨h.os, h.tape, h.output, h.size, fun k hk hn => h.block k hk (fun e => hn (hF k e.symm))⟩
def BoxAt (w : World) (B : Nat) (cs : Array Value) : Prop := B < w.heap.size ∧ (∀ j, w.cell? ⟨B, j, none⟩ = cs[j]?) ∧ ∀ j, w.frozen? ⟨B, j, none⟩ = false
section
variable {w w' : World} {B : Nat} {cs : Array Value}
theorem BoxAt.new (w : World) (cs : Array Value) (t : TypeId) : BoxAt (w.alloc (.cells cs t)) w.heap.size cs := ⟨by simp, fun j => by simp, fun j => frozen_of_row _ _ _ _ _ (heap_alloc_new w _)⟩
theorem BoxAt.keep (h : BoxAt w B cs) (hk : w'.heap[B]? = w.heap[B]?) (hs : w.heap.size ≤ w'.heap.size) : BoxAt w' B cs := ⟨Nat.lt_of_lt_of_le h.1 hs, fun j => (World.cell?_of_block hk).trans (h.2.1 j), fun j => (World.frozen?_of_block hk).trans (h.2.2 j)⟩
theorem BoxAt.toExt (h : BoxAt w B cs) (hx : ∃ y, w' = ext w y) : BoxAt w' B cs := by
  obtain ⟨y, rfl⟩ := hx
  exact h.keep ((below_ext w y).block B h.1) size_ext
theorem BoxAt.alloc (h : BoxAt w B cs) (o : Obj) : BoxAt (w.alloc o) B cs := h.toExt (alloc_ext w o)
theorem BoxAt.drew (h : BoxAt w B cs) : BoxAt w.drew B cs := h
theorem BoxAt.chg {F : List Nat} (h : BoxAt w B cs) (hc : Chg F w w') (hB : B ∉ F) : BoxAt w' B cs := h.keep (hc.block B h.1 hB) hc.size
theorem Chg.trans0 {F : List Nat} {a b c : World} (h : Chg F a b) (k : ∃ y, c = ext b y) : Chg F a c := h.trans (Chg.ofExt (F := []) k) (by simp)
end
abbrev VE (α : Type) := World → List Value → α → Prop
class VMono {α : Type} (E : VE α) : Prop where
  ext : ∀ {w x c d}, E w c d → E (ext w x) c d
def RV {α : Type} (size : Nat) (E : VE α) (w : World) (A : Option Addr) (ds : List α) : Prop :=
  ds ≠ [] → ∃ b o, A = some ⟨b, o, none⟩ ∧ b < w.heap.size ∧ ∀ j (h : j < ds.length), ∃ c : List Value, c.length = size ∧ (∀ i (hi : i < c.length), w.cell? ⟨b, o + j * size + i, none⟩ = some c[i]) ∧ E w c ds[j]
section
variable {α : Type} {size : Nat} {E : VE α} {w x : World} {A : Option Addr} {ds : List α}
theorem RV.ext [VMono E] (h : RV size E w A ds) : RV size E (ext w x) A ds := fun hn => by
  obtain ⟨b, o, h1, h2, h3⟩ := h hn
  refine ⟨b, o, h1, lt_ext h2, fun j hj => ?_⟩
  obtain ⟨c, hc, hr, he⟩ := h3 j hj
  exact ⟨c, hc, fun i hi => by rw [cell_ext h2]; exact hr i hi, VMono.ext he⟩
theorem RV.toExt [VMono E] {w' : World} (h : RV size E w A ds) (hx : ∃ y, w' = Go.Proofs.Ytbjpkfgkmilkdaa.ext w y) : RV size E w' A ds := by
  obtain ⟨y, rfl⟩ := hx
  exact h.ext
theorem RV.nil : RV size E w A ([] : List α) := fun h => absurd rfl h
theorem RV.get (h : RV size E w A ds) {k : Nat} (hk : k < ds.length) : ∃ b o, A = some ⟨b, o, none⟩ ∧ b < w.heap.size ∧ ∃ c : List Value, c.length = size ∧ (∀ i (hi : i < c.length), w.cell? ⟨b, o + k * size + i, none⟩ = some c[i]) ∧ E w c ds[k] := by
  obtain ⟨b, o, h1, h2, h3⟩ := h (by intro h; subst h; simp at hk)
  exact ⟨b, o, h1, h2, h3 k hk⟩
theorem RV.cut (h : RV size E w A ds) {lo hi : Nat} (hl : lo ≤ hi) (hh : hi ≤ ds.length) {A' : Option Addr} (hA : ∀ b o, A = some ⟨b, o, none⟩ → lo < hi → A' = some ⟨b, o + lo * size, none⟩) : RV size E w A' ((ds.take hi).drop lo) := fun hn => by
  have hlt : lo < hi := by
    rcases Nat.lt_or_ge lo hi with h1 | h1
    · exact h1
    · exact absurd (List.drop_eq_nil_of_le (by simp; omega)) hn
  obtain ⟨b, o, h1, h2, h3⟩ := h (by intro h; subst h; simp at hh; omega)
  refine ⟨b, o + lo * size, hA b o h1 hlt, h2, fun j hj => ?_⟩
  simp only [List.length_drop, List.length_take] at hj
  obtain ⟨c, hc, hr, he⟩ := h3 (lo + j) (by omega)
  refine ⟨c, hc, fun i hi => ?_, ?_⟩
  · rw [← hr i hi]
    congr 2
    rw [Nat.add_mul]
    omega
  · simpa using he
end
def vI : VE Int := fun _ c n => c = [.int .i64 n]
def vR : VE (Int × Int) := fun _ c r => c = [.int .i64 r.1, .int .i64 r.2]
def vS : VE ByteArray := fun _ c s => c = [.string s]
def vB : VE Bool := fun _ c b => c = [.bool b]
def vSl {α : Type} (size : Nat) (E : VE α) : VE (List α) := fun w c ds => ∃ A cap, c = [.slice A ds.length (ds.length + cap)] ∧ RV size E w A ds
instance : VMono vI := ⟨fun h => h⟩
instance : VMono vR := ⟨fun h => h⟩
instance : VMono vS := ⟨fun h => h⟩
instance : VMono vB := ⟨fun h => h⟩
instance {α : Type} (size : Nat) (E : VE α) [VMono E] : VMono (vSl size E) := ⟨fun ⟨A, cap, h, k⟩ => ⟨A, cap, h, k.ext⟩⟩
abbrev RI := RV 1 vI
abbrev RR := RV 2 vR
abbrev RRR := RV 1 (vSl 2 vR)
section
variable {w : World} {A : Option Addr} {k : Nat}
theorem RV.atR {xs : List (Int × Int)} (h : RR w A xs) (hk : k < xs.length) : ∃ b o, A = some ⟨b, o, none⟩ ∧ b < w.heap.size ∧ w.cell? ⟨b, o + k * 2, none⟩ = some (.int .i64 xs[k].1) ∧ w.cell? ⟨b, o + k * 2 + 1, none⟩ = some (.int .i64 xs[k].2) := by
  obtain ⟨b, o, h1, h2, c, hc, hr, he⟩ := h.get hk
  simp only [vR] at he
  subst he
  exact ⟨b, o, h1, h2, by simpa using hr 0 (by simp), by simpa using hr 1 (by simp)⟩
theorem RV.atV {α : Type} {size : Nat} {E : VE α} {xs : List (List α)} (h : RV 1 (vSl size E) w A xs) (hk : k < xs.length) : ∃ b o A' c', A = some ⟨b, o, none⟩ ∧ b < w.heap.size ∧ w.cell? ⟨b, o + k, none⟩ = some (.slice A' xs[k].length c') ∧ RV size E w A' xs[k] := by
  obtain ⟨b, o, h1, h2, c, hc, hr, he⟩ := h.get hk
  obtain ⟨A', c', rfl, hv⟩ := he
  exact ⟨b, o, A', _, h1, h2, by simpa using hr 0 (by simp), hv⟩
end
abbrev SE (α : Type) := World → List Value → α → List Nat → Prop
class SMono {α : Type} (E : SE α) : Prop where
  lt : ∀ {w c d F}, E w c d F → ∀ b ∈ F, b < w.heap.size
  keep : ∀ {w w' : World} {c d F}, E w c d F → (∀ b ∈ F, w'.heap[b]? = w.heap[b]?) → E w' c d F
def fpOf (v : Value) : List Nat := match v.ownBlock with | some b => [b] | none => []
theorem mem_fpOf {v : Value} {b : Nat} : b ∈ fpOf v ↔ v.ownBlock = some b := by
  unfold fpOf
  cases v.ownBlock <;> simp [eq_comm]
def elems {α : Type} (size : Nat) (E : SE α) (w : World) : List Value → List α → List Nat → Prop
  | vs, [], F => vs = [] ∧ F = []
  | vs, d :: ds, F => ∃ c vs' F1 F2, vs = c ++ vs' ∧ c.length = size ∧ E w c d F1 ∧ elems size E w vs' ds F2 ∧ F = F1 ++ F2
section
variable {α : Type} {size : Nat} {E : SE α} {w w' : World}
theorem elems_append : ∀ {vs us : List Value} {ds es : List α} {F G : List Nat}, elems size E w vs ds F → elems size E w us es G → elems size E w (vs ++ us) (ds ++ es) (F ++ G)
  | _, us, [], es, _, G, ⟨h1, h2⟩, k => by subst h1 h2; simpa using k
  | _, us, d :: ds, es, _, G, ⟨c, vs', F1, F2, h1, h2, h3, h4, h5⟩, k => by
    subst h1 h5
    exact ⟨c, vs' ++ us, F1, F2 ++ G, by simp, h2, h3, elems_append h4 k, by simp⟩
theorem elems_one {c : List Value} {d : α} {F : List Nat} (hc : c.length = size) (h : E w c d F) : elems size E w c [d] F := ⟨c, [], F, [], by simp, hc, h, ⟨rfl, rfl⟩, by simp⟩
theorem elems_length : ∀ {vs : List Value} {ds : List α} {F : List Nat}, elems size E w vs ds F → vs.length = ds.length * size
  | _, [], _, ⟨h1, _⟩ => by simp [h1]
  | _, d :: ds, _, ⟨c, vs', F1, F2, h1, h2, _, h4, _⟩ => by
    have := elems_length h4
    subst h1
    simp only [List.length_append, List.length_cons, h2, this, Nat.add_mul]
    omega
theorem elems_keep [SMono E] : ∀ {vs : List Value} {ds : List α} {F : List Nat}, elems size E w vs ds F → (∀ b ∈ F, w'.heap[b]? = w.heap[b]?) → elems size E w' vs ds F
  | _, [], _, h, _ => h
  | _, d :: ds, _, ⟨c, vs', F1, F2, h1, h2, h3, h4, h5⟩, hk => by
    subst h5
    exact ⟨c, vs', F1, F2, h1, h2, SMono.keep h3 (fun b hb => hk b (by simp [hb])), elems_keep h4 (fun b hb => hk b (by simp [hb])), rfl⟩
theorem elems_lt [SMono E] : ∀ {vs : List Value} {ds : List α} {F : List Nat}, elems size E w vs ds F → ∀ b ∈ F, b < w.heap.size
  | _, [], _, ⟨_, h2⟩, b, hb => by subst h2; simp at hb
  | _, d :: ds, _, ⟨c, vs', F1, F2, h1, h2, h3, h4, h5⟩, b, hb => by
    subst h5
    rcases List.mem_append.1 hb with h | h
    · exact SMono.lt h3 b h
    · exact elems_lt h4 b h
theorem elems_at : ∀ {vs : List Value} {ds : List α} {F : List Nat} {k : Nat} (_ : elems size E w vs ds F) (hk : k < ds.length), ∃ c F1 F2 F3, (vs.drop (k * size)).take size = c ∧ c.length = size ∧ E w c ds[k] F2 ∧ F = F1 ++ F2 ++ F3
  | _, d :: ds, _, 0, ⟨c, vs', F1, F2, h1, h2, h3, _, h5⟩, _ => by
    subst h1 h5
    exact ⟨c, [], F1, F2, by simp [h2], h2, h3, by simp⟩
  | _, d :: ds, _, k + 1, ⟨c, vs', F1, F2, h1, h2, h3, h4, h5⟩, hk => by
    subst h1 h5
    obtain ⟨c', G1, G2, G3, e1, e2, e3, e4⟩ := elems_at (k := k) h4 (by simpa using hk)
    refine ⟨c', F1 ++ G1, G2, G3, ?_, e2, by simpa using e3, by simp [e4]⟩
    rw [← e1, show (k + 1) * size = c.length + k * size by rw [h2, Nat.add_mul]; omega, List.drop_append, List.drop_eq_nil_of_le (Nat.le_add_right _ _)]
    simp
end
def SV {α : Type} (te size : Nat) (E : SE α) (w : World) (v : Value) (ds : List α) (F : List Nat) : Prop :=
  ∃ vs F2, w.ownsRow 0 te size v ds.length vs ∧ elems size E w vs ds F2 ∧ F = fpOf v ++ F2
section
variable {α : Type} {te size : Nat} {E : SE α} {w w' : World} {v : Value} {ds : List α} {F : List Nat}
theorem ownsRow_keepB {n : Nat} {vs : List Value} (h : w.ownsRow 0 te size v n vs) (hk : ∀ b ∈ fpOf v, w'.heap[b]? = w.heap[b]?) : w'.ownsRow 0 te size v n vs := by
  refine ⟨h.1, ?_⟩
  rcases h.2 with hn | ⟨g, cap, cur, rfl, hb, hg, rest⟩
  · exact .inl hn
  · exact .inr ⟨g, cap, cur, rfl, hb, by rw [hk g (mem_fpOf.2 rfl)]; exact hg, rest⟩
theorem SV.lt [SMono E] (h : SV te size E w v ds F) : ∀ b ∈ F, b < w.heap.size := by
  obtain ⟨vs, F2, h1, h2, rfl⟩ := h
  intro b hb
  rcases List.mem_append.1 hb with h | h
  · exact (h1.lt b (mem_fpOf.1 h)).2
  · exact elems_lt h2 b h
theorem SV.keep [SMono E] (h : SV te size E w v ds F) (hk : ∀ b ∈ F, w'.heap[b]? = w.heap[b]?) : SV te size E w' v ds F := by
  obtain ⟨vs, F2, h1, h2, rfl⟩ := h
  exact ⟨vs, F2, ownsRow_keepB h1 (fun b hb => hk b (by simp [hb])), elems_keep h2 (fun b hb => hk b (by simp [hb])), rfl⟩
theorem SV.ext [SMono E] {x : World} (h : SV te size E w v ds F) : SV te size E (ext w x) v ds F := h.keep fun b hb => (below_ext w x).block b (h.lt b hb)
theorem SV.toExt [SMono E] (h : SV te size E w v ds F) (hx : ∃ y, w' = Go.Proofs.Ytbjpkfgkmilkdaa.ext w y) : SV te size E w' v ds F := by
  obtain ⟨y, rfl⟩ := hx
  exact h.ext
theorem SV.chg [SMono E] {G : List Nat} (h : SV te size E w v ds F) (hc : Chg G w w') (hd : ∀ b ∈ F, b ∉ G) : SV te size E w' v ds F := h.keep fun b hb => hc.block b (h.lt b hb) (hd b hb)
theorem SV.form (h : SV te size E w v ds F) : ∃ A cap, v = .slice A ds.length cap ∧ ds.length ≤ cap ∧ Hid (cap ≤ maxLen) := by
  obtain ⟨vs, F2, h1, _, _⟩ := h
  rcases h1.2 with ⟨rfl, hn⟩ | ⟨g, cap, cur, rfl, _, _, h3, h4, _⟩
  · exact ⟨none, 0, by rw [hn], by omega, Lib.hid (by simp [maxLen])⟩
  · exact ⟨_, cap, rfl, h3, h4⟩
theorem SV.nil : SV te size E w (.slice none 0 0) ([] : List α) [] := ⟨[], [], World.ownsRow_nil w 0 te size, ⟨rfl, rfl⟩, rfl⟩
theorem SV.block (h : SV te size E w v ds F) (hn : ds ≠ []) : ∃ g cap, v = .slice (some ⟨g, 0, none⟩) ds.length cap ∧ g ∈ F ∧ ds.length ≤ cap ∧ Hid (cap ≤ maxLen) := by
  obtain ⟨vs, F2, h1, _, rfl⟩ := h
  rcases h1.2 with ⟨rfl, h0⟩ | ⟨g, cap, cur, rfl, _, _, h3, h4, _⟩
  · exact absurd (List.eq_nil_of_length_eq_zero h0) hn
  · exact ⟨g, cap, rfl, by simp [mem_fpOf, Value.ownBlock], h3, h4⟩
theorem SV.view {V : VE α} (h : SV te size E w v ds F) (hV : ∀ c d F, E w c d F → V w c d) : ∃ A cap, v = .slice A ds.length cap ∧ ds.length ≤ cap ∧ Hid (cap ≤ maxLen) ∧ RV size V w A ds := by
  obtain ⟨vs, F2, h1, h2, _⟩ := h
  rcases h1.2 with ⟨rfl, h0⟩ | ⟨g, cap, cur, hv, _, hg, h3, h4, h5, h6⟩
  · obtain rfl := List.eq_nil_of_length_eq_zero h0
    exact ⟨none, 0, rfl, by simp, Lib.hid (by simp [maxLen]), RV.nil⟩
  · refine ⟨_, cap, hv, h3, h4, fun hn => ⟨g, 0, rfl, (Array.getElem?_eq_some_iff.1 hg).1, fun j hj => ?_⟩⟩
    obtain ⟨c, F1, F2, F3, e1, e2, e3, _⟩ := elems_at h2 hj
    refine ⟨c, e2, fun i hi => ?_, hV _ _ _ e3⟩
    subst hv
    have hm : (j + 1) * size ≤ ds.length * size := Nat.mul_le_mul_right _ hj
    rw [Nat.add_mul] at hm
    rw [show 0 + j * size + i = j * size + i by omega, h1.cellAt _ (by omega)]
    rw [← List.getElem?_eq_getElem hi]
    conv => rhs; rw [← e1]
    rw [List.getElem?_take, if_pos (by omega), List.getElem?_drop]
theorem SV.toView {V : VE α} {A : Option Addr} {n c : Nat} (h : SV te size E w (.slice A n c) ds F) (hV : ∀ c d F, E w c d F → V w c d) : RV size V w A ds := by
  obtain ⟨A', c', e, _, _, r⟩ := h.view hV
  injection e with e
  rw [e]; exact r
end
def sI : SE Int := fun _ c n F => c = [.int .i64 n] ∧ F = []
def sR : SE (Int × Int) := fun _ c r F => c = [.int .i64 r.1, .int .i64 r.2] ∧ F = []
def sS : SE ByteArray := fun _ c s F => c = [.string s] ∧ F = []
def sB : SE Bool := fun _ c b F => c = [.bool b] ∧ F = []
def sSl {α : Type} (te size : Nat) (E : SE α) : SE (List α) := fun w c ds F => ∃ v, c = [v] ∧ SV te size E w v ds F
instance : SMono sI := ⟨fun h b hb => by rw [h.2] at hb; simp at hb, fun h _ => h⟩
instance : SMono sR := ⟨fun h b hb => by rw [h.2] at hb; simp at hb, fun h _ => h⟩
instance : SMono sS := ⟨fun h b hb => by rw [h.2] at hb; simp at hb, fun h _ => h⟩
instance : SMono sB := ⟨fun h b hb => by rw [h.2] at hb; simp at hb, fun h _ => h⟩
instance {α : Type} (te size : Nat) (E : SE α) [SMono E] : SMono (sSl te size E) := ⟨fun ⟨_, _, h⟩ => h.lt, fun ⟨v, e, h⟩ hk => ⟨v, e, h.keep hk⟩⟩
theorem sR_v {w : World} (c : List Value) (d : Int × Int) (F : List Nat) (h : sR w c d F) : vR w c d := h.1
theorem sSl_v {α : Type} {te size : Nat} {E : SE α} {V : VE α} {w : World} (hV : ∀ c d F, E w c d F → V w c d) (c : List Value) (d : List α) (F : List Nat) (h : sSl te size E w c d F) : vSl size V w c d := by
  obtain ⟨v, rfl, h⟩ := h
  obtain ⟨A, cap, rfl, hc, _, hv⟩ := h.view hV
  exact ⟨A, cap - d.length, by rw [Nat.add_sub_cancel' hc], hv⟩
class SPlain {α : Type} (E : SE α) : Prop where
  none : ∀ {w c d F}, E w c d F → F = []
instance : SPlain sI := ⟨fun h => h.2⟩
instance : SPlain sR := ⟨fun h => h.2⟩
instance : SPlain sS := ⟨fun h => h.2⟩
instance : SPlain sB := ⟨fun h => h.2⟩
theorem elems_plain {α : Type} {size : Nat} {E : SE α} [SPlain E] {w : World} : ∀ {vs : List Value} {ds : List α} {F : List Nat}, elems size E w vs ds F → F = []
  | _, [], _, ⟨_, h⟩ => h
  | _, _ :: _, _, ⟨_, _, _, _, _, _, h3, h4, h5⟩ => by rw [h5, SPlain.none h3, elems_plain h4]; rfl
theorem SV.plainF {α : Type} {te size : Nat} {E : SE α} [SPlain E] {w : World} {v : Value} {ds : List α} {F : List Nat} (h : SV te size E w v ds F) : F = fpOf v := by
  obtain ⟨vs, F2, _, h2, rfl⟩ := h
  rw [elems_plain h2]; simp
theorem fpOf_nodup (v : Value) : (fpOf v).Nodup := by unfold fpOf; split <;> simp
theorem SV.nodup {α : Type} {te size : Nat} {E : SE α} [SPlain E] {w : World} {v : Value} {ds : List α} {F : List Nat} (h : SV te size E w v ds F) : F.Nodup := by rw [h.plainF]; exact fpOf_nodup v
def SlT (P : Program) (t te size bytes : Nat) (z : Value) : Prop :=
  P.underlying t = some (.slice te) ∧ (P.info? te).map (fun i => (i.zero, i.size, i.bytes)) = some (some z, size, bytes) ∧ z.cells.size = size ∧ 0 < size
section
variable {P : Program} (w : World)
theorem run_appS {α : Type} {E : SE α} [SMono E] {t ty te size bytes : Nat} {z : Value} (hT : SlT P t te size bytes z) {v : Value} {ds : List α} {F : List Nat} (hS : SV te size E w v ds F) (hN : F.Nodup)
    {ad : Addr} {m c : Nat} {cs : List Value} (hnews : ∀ j u, cs[j]? = some u → w.cell? (ad.add j) = some u) (h1 : ∀ u ∈ cs, u.oneCell' = true)
    {es : List α} {G : List Nat} (hm : m = es.length) (hE : elems size E w cs es G) (hN2 : (F ++ G).Nodup) (hlen : ds.length + m ≤ 2000000000) (hby : bytes ≤ 60000) :
    ∃ v' w' F', (Builtin.append_ #[t, t] ty #[v, .slice (some ad) m c]).run P w = .ok v' w' ∧ SV te size E w' v' (ds ++ es) F' ∧ Chg F w w' ∧ F'.Nodup ∧ (∀ b ∈ F', b ∈ F ∨ b ∈ G ∨ w.heap.size ≤ b) := by
  obtain ⟨ht, hi, hzs, hsz⟩ := hT
  obtain ⟨i, hi, hz, hs1, hs2⟩ := info_parts hi
  obtain ⟨vs, F2, ho, hel, rfl⟩ := hS
  subst hm
  have hl := elems_length hE
  have hb : (ds.length + es.length) * bytes ≤ 140737488355328 := Nat.le_trans (Nat.mul_le_mul hlen hby) (by omega)
  obtain ⟨v', w', hr, h2, h3, _, h5⟩ := run_append_own_at (P := P) w 0 t ty te i z size bytes ht hi hz hs1 hs2 hzs hsz v ds.length vs ho ad es.length c cs hl hnews h1 (by simp only [maxLen]; omega) hb (Nat.zero_le _)
  have hc : Chg (fpOf v) w w' := Chg.ofGrown h3 fun k hk => mem_fpOf.2 hk
  have hd : ∀ b, b ∈ F2 ∨ b ∈ G → b ∉ fpOf v := by
    intro b hb hv
    rw [List.append_assoc, List.nodup_append] at hN2
    exact hN2.2.2 b hv b (by simpa using hb) rfl
  have hF2 : elems size E w' vs ds F2 := elems_keep hel fun b hb => hc.block b (elems_lt hel b hb) (hd b (.inl hb))
  have hG : elems size E w' cs es G := elems_keep hE fun b hb => hc.block b (elems_lt hE b hb) (hd b (.inr hb))
  refine ⟨v', w', fpOf v' ++ (F2 ++ G), hr, ⟨vs ++ cs, F2 ++ G, by simpa using h2, elems_append hF2 hG, rfl⟩, hc.mono (fun x hx => .inl (by simp [hx])), ?_, ?_⟩
  · rw [List.append_assoc, List.nodup_append] at hN2
    rw [List.nodup_append]
    refine ⟨fpOf_nodup v', hN2.2.1, fun a ha b hb => ?_⟩
    rintro rfl
    rcases h5 with h5 | h5
    · exact hN2.2.2 a (by rw [mem_fpOf] at ha ⊢; rw [← h5]; exact ha) a hb rfl
    · rw [mem_fpOf, h5] at ha
      have hlt : a < w.heap.size := by
        rcases List.mem_append.1 hb with h | h
        · exact elems_lt hel a h
        · exact elems_lt hE a h
      injection ha with ha
      omega
  · intro b hb
    rcases List.mem_append.1 hb with h | h
    · rw [mem_fpOf] at h
      rcases h5 with h5 | h5
      · exact .inl (by simp [mem_fpOf, ← h5, h])
      · rw [h5] at h
        injection h with h
        exact .inr (.inr (by omega))
    · rcases List.mem_append.1 h with h | h
      · exact .inl (by simp [h])
      · exact .inr (.inl h)
theorem wp_appS {o : Oper} {a : Act} {K : Act → World → Prop} {Q : Exit → Act → World → Prop} (s x : Operand) (t : TypeId)
    (ho : o.op = .call { callee := .builtin .append, args := #[s, x], argTypes := #[t, t] })
    {α : Type} {E : SE α} [SMono E] {te size bytes : Nat} {z : Value} (hT : SlT P t te size bytes z) {v : Value} {ds : List α} {F : List Nat} (hs : a.eval s = v) (hS : SV te size E w v ds F) (hN : F.Nodup)
    {ad : Addr} {m c : Nat} {cs : List Value} (hx : a.eval x = .slice (some ad) m c) (hnews : ∀ j u, cs[j]? = some u → w.cell? (ad.add j) = some u) (h1 : ∀ u ∈ cs, u.oneCell' = true)
    {es : List α} {G : List Nat} (hm : m = es.length) (hE : elems size E w cs es G) (hN2 : (F ++ G).Nodup) (hlen : ds.length + m ≤ 2000000000) (hby : bytes ≤ 60000)
    (h : ∀ v' w' F', SV te size E w' v' (ds ++ es) F' → Chg F w w' → F'.Nodup → (∀ b ∈ F', b ∈ F ∨ b ∈ G ∨ w.heap.size ≤ b) → K (a.put o.dst v') w') : o.wp P a w K Q := by
  obtain ⟨v', w', F', hr, h2, h3, h4, h5⟩ := run_appS (P := P) (ty := o.type) w hT hS hN (c := c) hnews h1 hm hE hN2 hlen hby
  unfold Oper.wp execOp
  simp only [ho, resolve, invoke, builtin, Sem.run_bind, Sem.run_pure, Result.andThen_ok, List.map_toArray, List.map_cons, List.map_nil, hs, hx, hr]
  exact h v' w' F' h2 h3 h4 h5
theorem wpList_appS {ops : Array Oper} {rest : List Oper} {o : Oper} {a : Act} {Q : Exit → Act → World → Prop} (hgd : o.guard = none) (s x : Operand) (t : TypeId)
    (ho : o.op = .call { callee := .builtin .append, args := #[s, x], argTypes := #[t, t] })
    {α : Type} {E : SE α} [SMono E] {te size bytes : Nat} {z : Value} (hT : SlT P t te size bytes z) {v : Value} {ds : List α} {F : List Nat} (hs : a.eval s = v) (hS : SV te size E w v ds F) (hN : F.Nodup)
    {ad : Addr} {m c : Nat} {cs : List Value} (hx : a.eval x = .slice (some ad) m c) (hnews : ∀ j u, cs[j]? = some u → w.cell? (ad.add j) = some u) (h1 : ∀ u ∈ cs, u.oneCell' = true)
    {es : List α} {G : List Nat} (hm : m = es.length) (hE : elems size E w cs es G) (hN2 : (F ++ G).Nodup) (hlen : ds.length + m ≤ 2000000000) (hby : bytes ≤ 60000)
    (h : ∀ v' w' F', SV te size E w' v' (ds ++ es) F' → Chg F w w' → F'.Nodup → (∀ b ∈ F', b ∈ F ∨ b ∈ G ∨ w.heap.size ≤ b) → wpList P ops Q rest (a.put o.dst v') w') : wpList P ops Q (o :: rest) a w :=
  wpList_plain hgd fun _ hK => wp_appS w s x t ho hT hs hS hN hx hnews h1 hm hE hN2 hlen hby fun v' w' F' h2 h3 h4 h5 => hK _ _ (h v' w' F' h2 h3 h4 h5)
end
section
variable {w : World} {te size : Nat}
theorem SV.cell {α : Type} {E : SE α} {ds : List α} {g cap n : Nat} {F : List Nat} (h : SV te size E w (.slice (some ⟨g, 0, none⟩) n cap) ds F) (hn : ds.length = n) {j : Nat} (hj : j < n * size) : (∃ u, w.cell? ⟨g, j, none⟩ = some u) ∧ w.frozen? ⟨g, j, none⟩ = false ∧ g < w.heap.size := by
  subst hn
  obtain ⟨vs, F2, h1, h2, _⟩ := h
  refine ⟨?_, h1.frozenAt j, (h1.lt g rfl).2⟩
  rw [h1.cellAt j hj]
  have := h1.1
  exact ⟨_, List.getElem?_eq_getElem (by omega)⟩
theorem elems_set {α : Type} {E : SE α} [SPlain E] {c : List Value} {d : α} (hc : c.length = size) (hE : E w c d []) : ∀ {vs : List Value} {ds : List α} {F : List Nat} {k : Nat}, elems size E w vs ds F → k < ds.length → elems size E w (vs.take (k * size) ++ c ++ vs.drop (k * size + size)) (ds.set k d) F
  | _, d' :: ds, _, 0, ⟨c', vs', F1, F2, h1, h2, h3, h4, h5⟩, _ => by
    subst h1
    refine ⟨c, vs', [], F2, by simp [← h2], hc, hE, h4, ?_⟩
    rw [h5, SPlain.none h3]
  | _, d' :: ds, _, k + 1, ⟨c', vs', F1, F2, h1, h2, h3, h4, h5⟩, hk => by
    subst h1
    refine ⟨c', _, F1, F2, ?_, h2, h3, elems_set hc hE (k := k) h4 (by simpa using hk), h5⟩
    have e : (k + 1) * size = c'.length + k * size := by rw [h2, Nat.add_mul]; omega
    rw [e, Nat.add_assoc, List.take_length_add_append, List.drop_length_add_append]
    simp
end
theorem SV.set2 {α : Type} {te : Nat} {w : World} {E : SE α} [SPlain E] [SMono E] {ds : List α} {g cap n : Nat} {F : List Nat} (h : SV te 2 E w (.slice (some ⟨g, 0, none⟩) n cap) ds F) (hn : ds.length = n) {k : Nat} (hk : k < n) {u v : Value} {d : α} (hE : ∀ w, E w [u, v] d []) :
    SV te 2 E ((w.setCell ⟨g, k * 2, none⟩ u).setCell ⟨g, k * 2 + 1, none⟩ v) (.slice (some ⟨g, 0, none⟩) n cap) (ds.set k d) F ∧ Chg [g] w ((w.setCell ⟨g, k * 2, none⟩ u).setCell ⟨g, k * 2 + 1, none⟩ v) := by
  subst hn
  have hF := h.plainF
  obtain ⟨vs, F2, h1, h2, _⟩ := h
  obtain ⟨h3, h4⟩ := h1.stored (k * 2) u
  obtain ⟨h3', h4'⟩ := h3.stored (k * 2 + 1) v
  have h0 := elems_plain h2
  subst h0
  refine ⟨⟨(vs.set (k * 2) u).set (k * 2 + 1) v, [], by simpa using h3', ?_, by simpa using hF⟩, (Chg.ofGrown h4 fun k hk => by simpa using hk.symm).trans (Chg.ofGrown (F := [g]) h4' fun k hk => by simpa using hk.symm) (fun x hx => .inl hx)⟩
  have hl := elems_length h2
  have hvk : k * 2 + 1 < vs.length := by omega
  have h5 := elems_set (size := 2) (w := w) (c := [u, v]) rfl (hE w) h2 hk
  have e : vs.take (k * 2) ++ [u, v] ++ vs.drop (k * 2 + 2) = (vs.set (k * 2) u).set (k * 2 + 1) v := by
    apply List.ext_getElem
    · simp; omega
    · intro i h1 h2
      simp only [List.getElem_append, List.getElem_set, List.length_append, List.length_take, List.length_cons, List.length_nil]
      by_cases c1 : i < k * 2
      · have : i < min (k * 2) vs.length := by omega
        simp [this, show i < min (k * 2) vs.length + (0 + 1 + 1) by omega, show ¬ k * 2 + 1 = i by omega, show ¬ k * 2 = i by omega]
      · by_cases c2 : i = k * 2
        · subst c2
          simp [show ¬ k * 2 < min (k * 2) vs.length by omega, show k * 2 < min (k * 2) vs.length + (0 + 1 + 1) by omega, show k * 2 - min (k * 2) vs.length = 0 by omega]
        · by_cases c3 : i = k * 2 + 1
          · subst c3
            simp [show ¬ k * 2 + 1 < min (k * 2) vs.length by omega, show k * 2 + 1 < min (k * 2) vs.length + (0 + 1 + 1) by omega, show k * 2 + 1 - min (k * 2) vs.length = 1 by omega]
          · simp [show ¬ i < min (k * 2) vs.length + (0 + 1 + 1) by omega, show ¬ k * 2 + 1 = i by omega, show ¬ k * 2 = i by omega]
            congr 1
            omega
  rw [e] at h5
  exact elems_keep h5 (by simp)
theorem SV.empty {α : Type} {te size : Nat} {E : SE α} (w : World) : SV te size E (w.alloc (.cells #[] te)) (.slice (some ⟨w.heap.size, 0, none⟩) 0 0) ([] : List α) [w.heap.size] :=
  ⟨[], [], ⟨by simp, .inr ⟨w.heap.size, 0, #[], rfl, Nat.zero_le _, heap_alloc_new w _, Nat.le_refl _, by simp [maxLen], by simp, by simp⟩⟩, ⟨rfl, rfl⟩, rfl⟩
theorem newer {w0 w : World} {F F' : List Nat} (hF : ∀ b ∈ F, w0.heap.size ≤ b) (hw : w0.heap.size ≤ w.heap.size) (h : ∀ b ∈ F', b ∈ F ∨ w.heap.size ≤ b) : ∀ b ∈ F', w0.heap.size ≤ b := fun b hb => by
  rcases h b hb with h1 | h1
  · exact hF b h1
  · omega
theorem size_of_ext {w0 w : World} (h : ∃ y, w = ext w0 y) : w0.heap.size ≤ w.heap.size := by
  obtain ⟨y, rfl⟩ := h
  exact size_ext
theorem x'a (F : List Nat) (w : World) : Chg F w w := Chg.refl F w
theorem x'b (n : Nat) : n ≤ n := Nat.le_refl n
theorem x'c {F : List Nat} {w w' : World} (h : ∃ y, w' = ext w y) : Chg F w w' := Chg.ofExt h
theorem x'd {F : List Nat} {a b c : World} (h : Chg F a b) (k : ∃ y, c = ext b y) : Chg F a c := Chg.trans0 h k
theorem x'e {F : List Nat} {a w : World} (h : Chg F a w) (y : World) : Chg F a (ext w y) := Chg.extS h y
theorem x'f {F : List Nat} {a w : World} (h : Chg F a w) (o : Obj) : Chg F a (w.alloc o) := Chg.alloc h o
theorem x'g {F : List Nat} {a w : World} (h : Chg F a w) : Chg F a w.drew := Chg.drew h
theorem x'h {F : List Nat} {a w : World} (h : Chg F a w) {b o : Nat} {s : Option Nat} (hp : a.heap.size ≤ b) (u : Value) : Chg F a (w.setCell ⟨b, o, s⟩ u) := Chg.setCellE h hp u
theorem x'i {a n : Nat} (h : a ≤ n) (k : Nat) : a ≤ n + k := le_addk h k
theorem x'j {b : Nat} {w x : World} (h : b ≤ w.heap.size) : b ≤ (ext w x).heap.size := le_ext h
theorem x'k {a : Nat} {w : World} (h : a ≤ w.heap.size) (o : Obj) : a ≤ (w.alloc o).heap.size := le_alloc h o
theorem x'l {a : Nat} {w : World} (h : a ≤ w.heap.size) (p : Addr) (u : Value) : a ≤ (w.setCell p u).heap.size := le_setC h p u
theorem x'm {a : Nat} {w : World} (h : a ≤ w.heap.size) : a ≤ w.drew.heap.size := le_drew h
theorem x'n {a b : Nat} (h : a < b) : a ≤ b := Nat.le_of_lt h
theorem x'z {w w' : World} (h : Chg [] w w') : ∃ y, w' = ext w y := Chg.isExt (F := []) h (refl_ext _) (by simp)
end Go.Proofs.Ytbjpkfgkmilkdaa
namespace Go.Proofs.Ytbjpkfgkmilkdaa
open Go.RowKit
theorem take_snoc_eq {α : Type} {xs ys : List α} {k : Nat} (h1 : k < xs.length) (h2 : k < ys.length) (h : xs.take k = ys.take k) (he : xs[k] = ys[k]) : xs.take (k + 1) = ys.take (k + 1) := by
  rw [List.take_succ_eq_append_getElem h1, List.take_succ_eq_append_getElem h2, h, he]
theorem ne_of_at {α : Type} {xs ys : List α} {k : Nat} (h1 : k < xs.length) (h2 : k < ys.length) (he : ¬ xs[k] = ys[k]) : xs ≠ ys := by
  rintro rfl
  exact he rfl
theorem all_eq {α : Type} {xs ys : List α} {k : Nat} (hl : xs.length = ys.length) (hk : ¬ k < xs.length) (h : xs.take k = ys.take k) : xs = ys := by
  rwa [List.take_of_length_le (by omega), List.take_of_length_le (by omega)] at h
theorem le_maxLen {n : Nat} (h : n ≤ maxLen) : n ≤ 9223372036854775807 := by simp only [maxLen] at h; omega
def marks (k : Int) (n : Nat) : List Int := (List.range n).map fun (i : Nat) => k + (i : Int)
@[simp] theorem marks_length (k : Int) (n : Nat) : (marks k n).length = n := by simp [marks]
theorem marks_get {k : Int} {n j : Nat} (h : j < (marks k n).length) : (marks k n)[j] = k + (j : Int) := by simp [marks]
end Go.Proofs.Ytbjpkfgkmilkdaa
namespace Go.Proofs.Ytbjpkfgkmilkdaa
open Go.RowKit
def vU : VE UInt8 := fun _ c b => c = [.int .u8 b.toNat]
def sU : SE UInt8 := fun _ c b F => c = [.int .u8 b.toNat] ∧ F = []
instance : VMono vU := ⟨fun h => h⟩
instance : SMono sU := ⟨fun h b hb => by rw [h.2] at hb; simp at hb, fun h _ => h⟩
instance : SPlain sU := ⟨fun h => h.2⟩
abbrev RU := RV 1 vU
theorem addr_add (b o j : Nat) : (⟨b, o, none⟩ : Addr).add j = ⟨b, o + j, none⟩ := by
  unfold Addr.add
  split
  · rename_i h; subst h; rfl
  · rfl
theorem RV.cells {α : Type} {size : Nat} {V : VE α} {E : SE α} {w : World} (hVE : ∀ c d, V w c d → E w c d []) (h1 : ∀ c d, V w c d → ∀ u ∈ c, u.oneCell' = true) {b : Nat} :
    ∀ (es : List α) (o : Nat), (∀ j (h : j < es.length), ∃ c : List Value, c.length = size ∧ (∀ i (hi : i < c.length), w.cell? ⟨b, o + j * size + i, none⟩ = some c[i]) ∧ V w c es[j]) →
    ∃ cs : List Value, (∀ j u, cs[j]? = some u → w.cell? ((⟨b, o, none⟩ : Addr).add j) = some u) ∧ elems size E w cs es [] ∧ ∀ u ∈ cs, u.oneCell' = true
  | [], _, _ => ⟨[], by simp, ⟨rfl, rfl⟩, by simp⟩
  | e :: es, o, h => by
    obtain ⟨c, hc, hr, he⟩ := h 0 (by simp)
    obtain ⟨cs, k1, k2, k3⟩ := RV.cells hVE h1 es (o + size) (fun j hj => by
      obtain ⟨c, hc, hr, he⟩ := h (j + 1) (by simpa using hj)
      refine ⟨c, hc, fun i hi => ?_, by simpa using he⟩
      rw [← hr i hi]
      congr 2
      rw [Nat.add_mul]; omega)
    refine ⟨c ++ cs, fun j u hj => ?_, ⟨c, cs, [], [], rfl, hc, hVE _ _ he, k2, rfl⟩, fun u hu => ?_⟩
    · by_cases hlt : j < c.length
      · rw [List.getElem?_append_left hlt, List.getElem?_eq_getElem hlt] at hj
        injection hj with hj
        have := hr j hlt
        simp at this
        rw [← hj, ← this, addr_add]
      · rw [List.getElem?_append_right (by omega)] at hj
        have := k1 _ u hj
        rw [← this, addr_add, addr_add]
        congr 2
        omega
    · rcases List.mem_append.1 hu with h | h
      · exact h1 _ _ he u h
      · exact k3 u h
section
variable {P : Program} {w : World}
theorem wpList_appL {ops : Array Oper} {rest : List Oper} {o : Oper} {a : Act} {Q : Exit → Act → World → Prop} (hgd : o.guard = none) (s x : Operand) (t : TypeId)
    (ho : o.op = .call { callee := .builtin .append, args := #[s, x], argTypes := #[t, t] })
    {α : Type} {E : SE α} [SMono E] [SPlain E] {V : VE α} {te size bytes : Nat} {z : Value} (hT : SlT P t te size bytes z) {v : Value} {ds es : List α} {F : List Nat} (hs : a.eval s = v) (hS : SV te size E w v ds F)
    {A : Option Addr} {c : Nat} (hx : a.eval x = .slice A es.length c) (hc : A = none → c = 0) (hV : RV size V w A es) (hVE : ∀ c d, V w c d → E w c d []) (h1 : ∀ c d, V w c d → ∀ u ∈ c, u.oneCell' = true)
    (hlen : ds.length + es.length ≤ 2000000000) (hby : bytes ≤ 60000)
    (h : ∀ v' w' F', SV te size E w' v' (ds ++ es) F' → Chg F w w' → (∀ b ∈ F', b ∈ F ∨ w.heap.size ≤ b) → wpList P ops Q rest (a.put o.dst v') w') : wpList P ops Q (o :: rest) a w := by
  cases A with
  | none =>
    have e0 : es = [] := Classical.byContradiction fun hn => by
      obtain ⟨b, o, h, _⟩ := hV hn
      cases h
    subst e0
    obtain ⟨ht, hi, _, _⟩ := hT
    obtain ⟨i, hi, _, _, _⟩ := info_parts hi
    rw [hc rfl] at hx
    have hS' := hS
    obtain ⟨vs, F2, ho', _, _⟩ := hS'
    exact wpList_append_own_none hgd s x t ho 0 te i size ht hi v ds.length vs hs ho' hx (h v w F (by simpa using hS) (Chg.refl F w) fun b hb => .inl hb)
  | some ad =>
    have hN := hS.nodup
    have key : ∃ cs : List Value, (∀ j u, cs[j]? = some u → w.cell? (ad.add j) = some u) ∧ elems size E w cs es [] ∧ ∀ u ∈ cs, u.oneCell' = true := by
      by_cases hn : es = []
      · subst hn
        exact ⟨[], by simp, ⟨rfl, rfl⟩, by simp⟩
      · obtain ⟨b, o, e, _, h3⟩ := hV hn
        injection e with e
        subst e
        exact RV.cells hVE h1 es o h3
    obtain ⟨cs, k1, k2, k3⟩ := key
    refine wpList_appS _ hgd s x t ho hT hs hS hN hx k1 k3 rfl k2 (by simpa using hN) hlen hby ?_
    intro v' w' F' h2 h3 _ h5
    exact h v' w' F' h2 h3 fun b hb => by
      rcases h5 b hb with h | h | h
      · exact .inl h
      · simp at h
      · exact .inr h
theorem SV.cap0 {α : Type} {te size : Nat} {E : SE α} {ds : List α} {F : List Nat} {A : Option Addr} {n c : Nat} (h : SV te size E w (.slice A n c) ds F) (hA : A = none) : c = 0 := by
  obtain ⟨vs, F2, h1, _, _⟩ := h
  rcases h1.2 with ⟨h2, _⟩ | ⟨g, cap, cur, h2, _⟩
  · injection h2
  · injection h2 with h2
    rw [hA] at h2; cases h2
end
end Go.Proofs.Ytbjpkfgkmilkdaa
namespace Go.Proofs.Ytbjpkfgkmilkdaa
open Go.ChangeShapes Go.WideShapes Go.ChangeAt Go.RowKit
theorem Try.own : ownKnob Try.prog.godebug = none := by kernel_rfl
theorem Try.laidOut : laidOutB Try.prog = true := by kernel_rfl
section
variable {H : Type} {enc : TypeId × Value → H} {P : Program} {W W' : World}
theorem trodAll_keep (hl : laidOutB P = true) (hb : Below W.heap.size W W') {sp : Nat → Bool} : ∀ {ts : List TypeId} {vs : List Value} {ds : List (DataW H)} {ps : List MemPlace},
    (ts.all fun t => P.readableRec t && decide (t < P.types.size)) = true → DataW.TrodAll enc P W 0 (fun _ => true) true ts vs ds ps → (∀ p ∈ ps, p.block < W.heap.size) → (∀ p ∈ ps, sp p.block = true) →
    DataW.TrodAll enc P W' 0 sp true ts vs ds ps
  | [], vs, ds, ps, _, h, _, _ => by
    obtain ⟨rfl, rfl, rfl⟩ := trodAll_nil h
    exact trodAll_mk0
  | t :: ts, vs, ds, ps, hr, h, hlt, hs => by
    obtain ⟨v, vs', d, ds', p, q, rfl, rfl, rfl, h1, h2⟩ := trodAll_cons h
    simp only [List.all_cons, Bool.and_eq_true, decide_eq_true_eq] at hr
    refine ⟨p, q, WideElems.Trod_stays hl hr.1.1 hr.1.2 h1 (fun x hx => hb.same (hlt x (by simp [hx]))) (fun x hx => hs x (by simp [hx])), ?_, rfl⟩
    exact trodAll_keep hl hb (by simpa using hr.2) h2 (fun x hx => hlt x (by simp [hx])) (fun x hx => hs x (by simp [hx]))
theorem law_post (hl : laidOutB P = true) {f : Func} {s : ChangeSpec} {args : Array Value} {ds gs : List (DataW H)} {before : List MemPlace} {tb : TypeId}
    (hW : DataW.Whole enc P f.params.toList s.vars false W args.toList ds gs before) (hv : s.vars = []) (hfn : s.fn H (ds ++ []) = { results := [.lit (.bool true)], args := ds })
    (hres : f.resultTypes = #[tb]) (ht : P.underlying tb = some .bool) (hread : (f.params.toList.all fun t => P.readableRec t && decide (t < P.types.size)) = true) (hx : ∃ y, W' = ext W y) :
    s.post enc P f false true false false W args (.bool true) W' := by
  have hb : Below W.heap.size W W' := by
    obtain ⟨y, rfl⟩ := hx
    exact below_ext W y
  have hlt : ∀ p ∈ before, p.block < W.heap.size := fun p hp => hW.lt p hp
  have hW2 := hW
  obtain ⟨p, q, hA, hV, rfl, hfz, hnd⟩ := hW2
  rw [hv] at hV
  obtain ⟨rfl, rfl⟩ := trodVars_none hV
  simp only [List.append_nil] at hlt hW
  refine ⟨ds, [], p, [], p, [], hW, ?_, ?_, ?_, World.keptBut_mono (fun x hx => ⟨hx, .inr (.inl hx)⟩) (hb.frame (· ∈ p)), fun h => by cases h⟩
  · rw [hfn, hres]
    exact trodAll_mk1 ⟨1, by simp [DataW.trod, Value.cells, ht]⟩
  · rw [hfn]
    exact trodAll_keep hl hb hread hA hlt (fun x hx => by simpa using hlt x hx)
  · rw [hfn, hv]
    rfl
end
end Go.Proofs.Ytbjpkfgkmilkdaa
namespace Go.Proofs.Ytbjpkfgkmilkdaa
open Go.ChangeShapes Go.WideShapes Go.ChangeAt Go.RowKit Go.Deep
def I64 (n : Int) : Prop := -9223372036854775808 ≤ n ∧ n ≤ 9223372036854775807
def OpenE (P : Program) (te size : Nat) {α : Type} (E : VE α) (Q : α → Prop) : Prop :=
  P.cellsOf te = size ∧ ∀ (H : Type) (enc : TypeId × Value → H) (w : World) (base : Nat) (spare : Nat → Bool) (held : Bool) (n : Nat) (c : List Value) (y : DataW H × List MemPlace),
    DataW.trod enc P w base spare held n te c = some y → ∃ d, E w c d ∧ Q d
def vP {α β : Type} (s0 : Nat) (E0 : VE α) (E1 : VE β) : VE (α × β) := fun w c d => ∃ c0 c1, c = c0 ++ c1 ∧ c0.length = s0 ∧ E0 w c0 d.1 ∧ E1 w c1 d.2
def sP {α β : Type} (s0 : Nat) (E0 : SE α) (E1 : SE β) : SE (α × β) := fun w c d F => ∃ c0 c1 F0 F1, c = c0 ++ c1 ∧ c0.length = s0 ∧ E0 w c0 d.1 F0 ∧ E1 w c1 d.2 F1 ∧ F = F0 ++ F1
instance {α β : Type} (s0 : Nat) (E0 : VE α) (E1 : VE β) [VMono E0] [VMono E1] : VMono (vP s0 E0 E1) := ⟨fun ⟨c0, c1, h1, h2, h3, h4⟩ => ⟨c0, c1, h1, h2, VMono.ext h3, VMono.ext h4⟩⟩
instance {α β : Type} (s0 : Nat) (E0 : SE α) (E1 : SE β) [SMono E0] [SMono E1] : SMono (sP s0 E0 E1) :=
  ⟨fun ⟨c0, c1, F0, F1, _, _, h3, h4, h5⟩ b hb => by
    subst h5
    rcases List.mem_append.1 hb with h | h
    · exact SMono.lt h3 b h
    · exact SMono.lt h4 b h,
   fun ⟨c0, c1, F0, F1, h1, h2, h3, h4, h5⟩ hk => by
    subst h5
    exact ⟨c0, c1, F0, F1, h1, h2, SMono.keep h3 fun b hb => hk b (by simp [hb]), SMono.keep h4 fun b hb => hk b (by simp [hb]), rfl⟩⟩
section
variable {P : Program}
theorem addr_lit {a : Addr} {j : Nat} (hs : a.spot = none) : a.add j = ⟨a.block, a.off + j, none⟩ := by
  unfold Addr.add
  split
  · rename_i h; subst h; cases a; simp_all
  · rfl
theorem spot_of_cell {w : World} {a : Addr} {u : Value} (h : w.cell? a = some u) : a.spot = none := by
  unfold World.cell? at h
  split at h
  · cases hs : a.spot with
    | none => rfl
    | some _ => simp [hs] at h
  · simp at h
theorem openSl {α : Type} {t te size : Nat} {E : VE α} {Q : α → Prop} (ht : P.underlying t = some (.slice te)) (hc : P.cellsOf t = 1) (hz : 0 < size) (hO : OpenE P te size E Q) : OpenE P t 1 (vSl size E) (fun l => l.length ≤ maxLen ∧ ∀ x ∈ l, Q x) := ⟨hc, fun H enc w base spare held n c y h => by
  obtain ⟨hce, hO⟩ := hO
  rcases open_slice ht h with ⟨rfl, _⟩ | ⟨a, len, cap, m, n', D, Pl, rfl, hb, hl, hm, hmm, _, hx⟩
  · exact ⟨[], ⟨none, 0, rfl, RV.nil⟩, by simp [maxLen], by simp⟩
  · have hlm : len ≤ m := by rw [hmm]; split <;> omega
    have each : ∀ i, i < len → ∃ d, (∃ c : List Value, c.length = size ∧ (∀ j (hj : j < c.length), w.cell? ((a.add (i * size)).add j) = some c[j]) ∧ E w c d) ∧ Q d := fun i hi => by
      obtain ⟨cs', h1, h2⟩ := hx i (by omega)
      rw [hce] at h1
      obtain ⟨_, hcl, hat⟩ := World.cells?_some h1
      obtain ⟨d, hd, hq⟩ := hO _ _ _ _ _ _ _ _ _ h2
      exact ⟨d, ⟨cs', hcl, fun j hj => by rw [hat j (by omega)]; exact List.getElem?_eq_getElem hj, hd⟩, hq⟩
    obtain ⟨f, hf⟩ := choose_lt (α := Option α) (n := len) (p := fun i o => ∃ d, o = some d ∧ (∃ c : List Value, c.length = size ∧ (∀ j (hj : j < c.length), w.cell? ((a.add (i * size)).add j) = some c[j]) ∧ E w c d) ∧ Q d) (fun i hi => by
      obtain ⟨d, h1, h2⟩ := each i hi
      exact ⟨some d, d, rfl, h1, h2⟩)
    have hl2 : ∃ ds : List α, ds.length = len ∧ ∀ i (hi : i < ds.length), f i = some ds[i] := by
      have : ∀ k, k ≤ len → ∃ ds : List α, ds.length = k ∧ ∀ i (hi : i < ds.length), f i = some ds[i] := by
        intro k
        induction k with
        | zero => exact fun _ => ⟨[], rfl, fun i hi => by simp at hi⟩
        | succ k ih =>
          intro hk
          obtain ⟨ds, h1, h2⟩ := ih (by omega)
          obtain ⟨d, hd, _⟩ := hf k (by omega)
          refine ⟨ds ++ [d], by simp [h1], fun i hi => ?_⟩
          by_cases hik : i < ds.length
          · rw [List.getElem_append_left hik]; exact h2 i hik
          · have : i = k := by simp at hi; omega
            subst this
            rw [List.getElem_append_right (by omega)]
            simpa using hd
      exact this len (Nat.le_refl _)
    obtain ⟨ds, h1, h2⟩ := hl2
    have hd : ∀ i (hi : i < ds.length), (∃ c : List Value, c.length = size ∧ (∀ j (hj : j < c.length), w.cell? ((a.add (i * size)).add j) = some c[j]) ∧ E w c ds[i]) ∧ Q ds[i] := fun i hi => by
      obtain ⟨d, e1, e2⟩ := hf i (by omega)
      rw [h2 i hi] at e1
      injection e1 with e1
      rw [e1]; exact e2
    refine ⟨ds, ⟨some a, cap - len, by rw [h1, Nat.add_sub_cancel' (by omega)], fun hn => ?_⟩, by omega, fun x hx => ?_⟩
    · obtain ⟨⟨c, hc1, hc2, _⟩, _⟩ := hd 0 (List.length_pos_iff.2 hn)
      have hcell := hc2 0 (by omega)
      have hsp : a.spot = none := by
        have := spot_of_cell hcell
        simpa [Addr.add] using this
      have hlt := World.block_lt_of_cell? w _ hcell
      refine ⟨a.block, a.off, by cases a; simp_all, by simpa [Addr.add] using hlt, fun j hj => ?_⟩
      obtain ⟨⟨c, hc1, hc2, hc3⟩, _⟩ := hd j hj
      refine ⟨c, hc1, fun i hi => ?_, hc3⟩
      have := hc2 i hi
      rw [addr_lit (a := a) hsp, addr_lit rfl] at this
      exact this
    · obtain ⟨i, hi, rfl⟩ := List.getElem_of_mem hx
      exact (hd i hi).2⟩
theorem openArg {α : Type} {t size : Nat} {E : VE α} {Q : α → Prop} (hO : OpenE P t size E Q) {H : Type} {enc : TypeId × Value → H} {w : World} {base : Nat} {spare : Nat → Bool} {held : Bool} {v : Value} {d : DataW H} {p : List MemPlace} (h : DataW.Trod enc P w base spare held t v d p) : ∃ x, E w v.cells.toList x ∧ Q x := by
  obtain ⟨n, hn⟩ := h
  exact hO.2 _ _ _ _ _ _ _ _ _ hn
end
end Go.Proofs.Ytbjpkfgkmilkdaa
namespace Go.Proofs.Ytbjpkfgkmilkdaa
open Go.ChangeShapes Go.WideShapes Go.ChangeAt Go.RowKit
theorem one1 {v u : Value} (h : v.cells.toList = [u]) (hv : ∃ A n c, v = .slice A n c) : v = u := by
  obtain ⟨A, n, c, rfl⟩ := hv
  simpa [Value.cells] using h
end Go.Proofs.Ytbjpkfgkmilkdaa
namespace Go.Proofs.Ytbjpkfgkmilkdaa
open Go.ChangeShapes Go.WideShapes Go.ChangeAt Go.RowKit
theorem openU8 {P : Program} {t : Nat} (ht : P.underlying t = some (.int .u8)) (hc : P.cellsOf t = 1) : OpenE P t 1 vU (fun _ => True) := ⟨hc, fun H enc w base spare held n c y h => by
  obtain ⟨m, rfl, _, hw⟩ := DataW.trod_int ht h
  simp [Lit.wf, IntKind.min, IntKind.max, IntKind.signed, IntKind.bits] at hw
  obtain ⟨k, rfl⟩ : ∃ k : Nat, m = k := ⟨m.toNat, by omega⟩
  refine ⟨UInt8.ofNat k, ?_, trivial⟩
  show [Value.int .u8 (k : Int)] = [.int .u8 ((UInt8.ofNat k).toNat : Int)]
  rw [UInt8.toNat_ofNat', Nat.mod_eq_of_lt (by omega)]⟩
theorem oBytes : OpenE Try.prog 37 1 (vSl 1 vU) (fun l => l.length ≤ maxLen ∧ ∀ x ∈ l, True) := openSl Try.underlying37 (by kernel_rfl) (by omega) (openU8 Try.underlying5 (by kernel_rfl))
theorem lawBig_any {A : Option Addr} {n c : Nat} {w : World} (hn : n ≤ 9223372036854775807) : Calls Try.prog 18 #[.slice A n c] w fun e w' => e = .returned (.bool (decide (1048576 < n))) ∧ ∃ y, w' = ext w y := by
  have H := Lib.hid (show decide ((1048576 : Int) < (n : Int)) = decide (1048576 < n) from decide_eq_decide.2 (by omega))
  go_enter Try.func18, Try.ntmps18
  go_wp2
  go_ret
  refine ⟨?_, refl_ext w⟩
  rw [← H.out]
  rfl
end Go.Proofs.Ytbjpkfgkmilkdaa
namespace Go.Proofs.Ytbjpkfgkmilkdaa
open Go.RowKit
section
variable {P : Program} {w : World}
theorem wpList_app1 {ops : Array Oper} {rest : List Oper} {o : Oper} {a : Act} {Q : Exit → Act → World → Prop} (hgd : o.guard = none) (s x : Operand) (t : TypeId)
    (ho : o.op = .call { callee := .builtin .append, args := #[s, x], argTypes := #[t, t] })
    {α : Type} {E : SE α} [SMono E] [SPlain E] {te size bytes : Nat} {z : Value} (hT : SlT P t te size bytes z) {v : Value} {ds : List α} {F : List Nat} {w0 : World} {cs : Array Value} {d : α} {c b0 : Nat} (hs : a.eval s = v) (hx : a.eval x = .slice (some ⟨b0, 0, none⟩) 1 c) (hw : w = w0.alloc (.cells cs te)) (hb0 : b0 = w0.heap.size)
    (hE : ∀ w, E w cs.toList d []) (hc : cs.size = size) (h1 : ∀ u ∈ cs.toList, u.oneCell' = true)
    (hS : SV te size E w0 v ds F) (hlen : ds.length + 1 ≤ 2000000000) (hby : bytes ≤ 60000)
    (h : ∀ v' w' F', SV te size E w' v' (ds ++ [d]) F' → Chg F w0 w' → (∀ b ∈ F', b ∈ F ∨ w0.heap.size ≤ b) → wpList P ops Q rest (a.put o.dst v') w') : wpList P ops Q (o :: rest) a w := by
  subst hw hb0
  have hS' : SV te size E (w0.alloc (.cells cs te)) v ds F := hS.toExt (alloc_ext w0 _)
  have hN := BoxAt.new w0 cs te
  refine wpList_appS _ hgd s x t ho hT hs hS' hS'.nodup hx (cs := cs.toList) (es := [d]) (G := []) (fun j u hj => ?_) h1 rfl (elems_one (by simpa using hc) (hE _)) (by simpa using hS'.nodup) hlen hby ?_
  · have e : (⟨w0.heap.size, 0, none⟩ : Addr).add j = ⟨w0.heap.size, j, none⟩ := by
      unfold Addr.add
      split
      · rename_i h; subst h; rfl
      · simp
    rw [e, hN.2.1 j]
    simpa using hj
  · intro v' w' F' h2 h3 _ h5
    refine h v' w' F' h2 (((Chg.refl F w0).alloc _).trans h3 (fun x hx => .inl hx)) fun b hb => ?_
    rcases h5 b hb with h | h | h
    · exact .inl h
    · simp at h
    · exact .inr (by simp at h; omega)
theorem wpList_appN {ops : Array Oper} {rest : List Oper} {o : Oper} {a : Act} {Q : Exit → Act → World → Prop} (hgd : o.guard = none) (s x : Operand) (t : TypeId)
    (ho : o.op = .call { callee := .builtin .append, args := #[s, x], argTypes := #[t, t] })
    {α : Type} {E : SE α} [SMono E] {te size bytes : Nat} {z : Value} (hT : SlT P t te size bytes z) {v : Value} {ds : List α} {F G : List Nat} {w0 : World} {cs : Array Value} {d : α} {c b0 : Nat} (hs : a.eval s = v) (hx : a.eval x = .slice (some ⟨b0, 0, none⟩) 1 c) (hw : w = w0.alloc (.cells cs te)) (hb0 : b0 = w0.heap.size)
    (hE : E w0 cs.toList d G) (hc : cs.size = size) (h1 : ∀ u ∈ cs.toList, u.oneCell' = true)
    (hS : SV te size E w0 v ds F) (hN : (F ++ G).Nodup) (hlen : ds.length + 1 ≤ 2000000000) (hby : bytes ≤ 60000)
    (h : ∀ v' w' F', SV te size E w' v' (ds ++ [d]) F' → Chg F w0 w' → F'.Nodup → (∀ b ∈ F', b ∈ F ∨ b ∈ G ∨ w0.heap.size ≤ b) → wpList P ops Q rest (a.put o.dst v') w') : wpList P ops Q (o :: rest) a w := by
  subst hw hb0
  have hx1 := alloc_ext w0 (.cells cs te)
  have hS' : SV te size E (w0.alloc (.cells cs te)) v ds F := hS.toExt hx1
  have hE' : E (w0.alloc (.cells cs te)) cs.toList d G := SMono.keep hE fun b hb => by
    obtain ⟨y, e⟩ := hx1
    rw [e]; exact (below_ext w0 y).block b (SMono.lt hE b hb)
  have hB := BoxAt.new w0 cs te
  refine wpList_appS _ hgd s x t ho hT hs hS' (List.nodup_append.1 hN).1 hx (cs := cs.toList) (es := [d]) (G := G) (fun j u hj => ?_) h1 rfl (elems_one (by simpa using hc) hE') hN hlen hby ?_
  · have e : (⟨w0.heap.size, 0, none⟩ : Addr).add j = ⟨w0.heap.size, j, none⟩ := by
      unfold Addr.add
      split
      · rename_i h; subst h; rfl
      · simp
    rw [e, hB.2.1 j]
    simpa using hj
  · intro v' w' F' h2 h3 h4 h5
    refine h v' w' F' h2 (((Chg.refl F w0).alloc _).trans h3 (fun x hx => .inl hx)) h4 fun b hb => ?_
    rcases h5 b hb with h | h | h
    · exact .inl h
    · exact .inr (.inl h)
    · exact .inr (.inr (by simp at h; omega))
theorem step_app1 {ops : Array Oper} {o : Oper} {a : Act} {K : Act → World → Prop} {Q : Exit → Act → World → Prop} {X : Prop} (hgd : o.guard = none) (s x : Operand) (t : TypeId)
    (ho : o.op = .call { callee := .builtin .append, args := #[s, x], argTypes := #[t, t] })
    {α : Type} {E : SE α} [SMono E] [SPlain E] {te size bytes : Nat} {z : Value} (hT : SlT P t te size bytes z) {v : Value} {ds : List α} {F : List Nat} {w0 : World} {cs : Array Value} {d : α} {c b0 : Nat} (hs : a.eval s = v) (hx : a.eval x = .slice (some ⟨b0, 0, none⟩) 1 c) (hw : w = w0.alloc (.cells cs te)) (hb0 : b0 = w0.heap.size)
    (hE : ∀ w, E w cs.toList d []) (hc : cs.size = size) (h1 : ∀ u ∈ cs.toList, u.oneCell' = true)
    (hS : SV te size E w0 v ds F) (hlen : ds.length + 1 ≤ 2000000000) (hby : bytes ≤ 60000)
    (h : ∀ v' w' F', SV te size E w' v' (ds ++ [d]) F' → Chg F w0 w' → (∀ b ∈ F', b ∈ F ∨ w0.heap.size ≤ b) → K (a.put o.dst v') w') :
    if Region.wanted o (yielded ops a.tmps) = true then Oper.wp P o a w K Q else X := by
  have hwt : Region.wanted o (yielded ops a.tmps) = true := by simp [Region.wanted, hgd]
  rw [if_pos hwt]
  subst hw hb0
  have hS' : SV te size E (w0.alloc (.cells cs te)) v ds F := hS.toExt (alloc_ext w0 _)
  have hN := BoxAt.new w0 cs te
  refine wp_appS _ s x t ho hT hs hS' hS'.nodup hx (cs := cs.toList) (es := [d]) (G := []) (fun j u hj => ?_) h1 rfl (elems_one (by simpa using hc) (hE _)) (by simpa using hS'.nodup) hlen hby ?_
  · have e : (⟨w0.heap.size, 0, none⟩ : Addr).add j = ⟨w0.heap.size, j, none⟩ := by
      unfold Addr.add
      split
      · rename_i h; subst h; rfl
      · simp
    rw [e, hN.2.1 j]
    simpa using hj
  · intro v' w' F' h2 h3 _ h5
    refine h v' w' F' h2 (((Chg.refl F w0).alloc _).trans h3 (fun x hx => .inl hx)) fun b hb => ?_
    rcases h5 b hb with h | h | h
    · exact .inl h
    · simp at h
    · exact .inr (by simp at h; omega)
end
theorem BoxAt.set2 {w : World} {B : Nat} {u v u' v' : Value} (h : BoxAt w B #[u, v]) : BoxAt ((w.setCell ⟨B, 0, none⟩ u').setCell ⟨B, 1, none⟩ v') B #[u', v'] := by
  obtain ⟨h1, h2, h3⟩ := h
  have e0 := h2 0
  have e1 := h2 1
  simp at e0 e1
  refine ⟨by simpa using h1, fun j => ?_, fun j => ?_⟩
  · rcases j with _ | _ | j
    · go_simp
    · go_simp
    · have := h2 (j + 2)
      go_simp
  · go_simp
theorem BoxAt.set2' {w : World} {B B' : Nat} {cs : Array Value} {u' v' : Value} (h : BoxAt w B cs) (hne : B ≠ B') : BoxAt ((w.setCell ⟨B', 0, none⟩ u').setCell ⟨B', 1, none⟩ v') B cs :=
  h.chg (((Chg.refl [B'] w).setCell (.inl (by simp)) _).setCell (.inl (by simp)) _) (by simpa using hne)
theorem BoxAt.setO {w : World} {B B' k : Nat} {cs : Array Value} {u : Value} (h : BoxAt w B cs) (hne : B ≠ B') : BoxAt (w.setCell ⟨B', k, none⟩ u) B cs :=
  h.chg ((Chg.refl [B'] w).setCell (.inl (by simp)) _) (by simpa using hne)
theorem BoxAt.setP0 {w : World} {B : Nat} {u v u' : Value} (h : BoxAt w B #[u, v]) : BoxAt (w.setCell ⟨B, 0, none⟩ u') B #[u', v] := by
  obtain ⟨h1, h2, h3⟩ := h
  have e0 := h2 0
  have e1 := h2 1
  simp at e0 e1
  refine ⟨by simpa using h1, fun j => ?_, fun j => ?_⟩
  · rcases j with _ | _ | j
    · go_simp
    · go_simp
    · have := h2 (j + 2)
      go_simp
  · go_simp
theorem BoxAt.setP1 {w : World} {B : Nat} {u v v' : Value} (h : BoxAt w B #[u, v]) : BoxAt (w.setCell ⟨B, 1, none⟩ v') B #[u, v'] := by
  obtain ⟨h1, h2, h3⟩ := h
  have e0 := h2 0
  have e1 := h2 1
  simp at e0 e1
  refine ⟨by simpa using h1, fun j => ?_, fun j => ?_⟩
  · rcases j with _ | _ | j
    · go_simp
    · go_simp
    · have := h2 (j + 2)
      go_simp
  · go_simp
end Go.Proofs.Ytbjpkfgkmilkdaa
namespace Go.Proofs.Ytbjpkfgkmilkdaa
open Go.RowKit
theorem box3 {w : World} {B : Nat} {a b c : Value} (h : BoxAt w B #[a, b, c]) : B < w.heap.size ∧ w.cell? ⟨B, 0, none⟩ = some a ∧ w.cell? ⟨B, 1, none⟩ = some b ∧ w.cell? ⟨B, 2, none⟩ = some c ∧ ∀ j, w.frozen? ⟨B, j, none⟩ = false := ⟨h.1, h.2.1 0, h.2.1 1, h.2.1 2, h.2.2⟩
theorem BoxAt.setJ {w : World} {B j : Nat} {cs : Array Value} {u : Value} (h : BoxAt w B cs) (hj : j < cs.size) : BoxAt (w.setCell ⟨B, j, none⟩ u) B (cs.setIfInBounds j u) := by
  obtain ⟨h1, h2, h3⟩ := h
  have e := h2 j
  rw [Array.getElem?_eq_getElem hj] at e
  refine ⟨by simpa using h1, fun i => ?_, fun i => ?_⟩
  · by_cases hi : i = j
    · subst hi
      rw [Array.getElem?_setIfInBounds_self_of_lt hj]
      go_simp
    · rw [Array.getElem?_setIfInBounds_ne (by omega), ← h2 i]
      go_simp
  · go_simp
theorem BoxAt.set31 {w : World} {B : Nat} {a b c u : Value} (h : BoxAt w B #[a, b, c]) : BoxAt (w.setCell ⟨B, 1, none⟩ u) B #[a, u, c] := h.setJ (j := 1) (by simp)
theorem BoxAt.set32 {w : World} {B : Nat} {a b c u : Value} (h : BoxAt w B #[a, b, c]) : BoxAt (w.setCell ⟨B, 2, none⟩ u) B #[a, b, u] := h.setJ (j := 2) (by simp)
theorem bx2 {w : World} {B : Nat} {u v : Value} (h : BoxAt w B #[u, v]) : B < w.heap.size ∧ w.cell? ⟨B, 0, none⟩ = some u ∧ w.cell? ⟨B, 1, none⟩ = some v ∧ ∀ j, w.frozen? ⟨B, j, none⟩ = false := ⟨h.1, h.2.1 0, h.2.1 1, h.2.2⟩
end Go.Proofs.Ytbjpkfgkmilkdaa
namespace Go.Proofs.Ytbjpkfgkmilkdaa
open Go.RowKit
def lenR (v : Value) : Nat := match v with | .slice _ n _ => n | _ => 0
theorem RV.atUb {w : World} {A : Option Addr} {bs : List UInt8} {k : Nat} (h : RU w A bs) (hk : k < bs.length) : ∃ b o, A = some ⟨b, o, none⟩ ∧ b < w.heap.size ∧ w.cell? ⟨b, o + k, none⟩ = some (.int .u8 (bs[k].toNat : Int)) := by
  obtain ⟨b, o, h1, h2, c, hc, hr, he⟩ := h.get hk
  simp only [vU] at he
  subst he
  exact ⟨b, o, h1, h2, by simpa using hr 0 (by simp)⟩
def Cur (w0 w : World) (g : Nat) : Prop := w0.heap.size ≤ g ∧ (∃ y, w = ext w0 y) ∧ ∃ (A : Option Addr) (c : Nat) (bs : List UInt8) (i : Nat) (h : Int), BoxAt w g #[.slice A bs.length c, .int .i64 i, .int .i64 h] ∧ RU w0 A bs ∧ bs.length ≤ 1048576 ∧ i ≤ bs.length
theorem Cur.toExt {w0 w w' : World} {g : Nat} (h : Cur w0 w g) (hx : ∃ y, w' = ext w y) : Cur w0 w' g := by
  obtain ⟨h1, h2, A, c, bs, i, h, hB, hR, hl, hi⟩ := h
  exact ⟨h1, trans_ext h2 hx, A, c, bs, i, h, hB.toExt hx, hR, hl, hi⟩
theorem Cur.chg {w0 w w' : World} {g : Nat} {F : List Nat} (h : Cur w0 w g) (hC : Chg F w w') (hg : g ∉ F) (hF : ∀ b ∈ F, w0.heap.size ≤ b) : Cur w0 w' g := by
  obtain ⟨h1, h2, A, c, bs, i, h, hB, hR, hl, hi⟩ := h
  exact ⟨h1, hC.isExt h2 hF, A, c, bs, i, h, hB.chg hC hg, hR, hl, hi⟩
theorem Cur.lt {w0 w : World} {g : Nat} (h : Cur w0 w g) : g < w.heap.size := by
  obtain ⟨_, _, A, c, bs, i, h, hB, _⟩ := h
  exact hB.1
theorem and255 (a : Int) : 0 ≤ bits .and .i64 a 255 ∧ bits .and .i64 a 255 ≤ 255 := by
  have h : (BitVec.ofInt IntKind.i64.bits a &&& BitVec.ofInt IntKind.i64.bits 255).toNat ≤ 255 := by
    rw [BitVec.toNat_and]
    exact Nat.le_trans Nat.and_le_right (by decide)
  unfold bits
  simp only
  obtain ⟨n, hn⟩ : ∃ n, (BitVec.ofInt IntKind.i64.bits a &&& BitVec.ofInt IntKind.i64.bits 255).toNat = n := ⟨_, rfl⟩
  rw [hn] at h ⊢
  rw [IntKind.wrap_i64]
  omega
set_option maxRecDepth 100000 in
set_option maxHeartbeats 1000000 in
theorem l1New_any {A : Option Addr} {c : Nat} {bs : List UInt8} {w : World} (hx : bs.length ≤ 1048576) (h1 : RU w A bs) :
    Calls Try.prog 54 #[.slice A bs.length c] w fun e w' => ∃ g, e = .returned (.pointer (some ⟨g, 0, none⟩)) ∧ Cur w w' g := by
  go_enter Try.func54, Try.ntmps54
  go_wp2
  go_loop [3, 4] (fun h i => ∃ (k : Nat) (hv : Int), i = .int .i64 k ∧ k ≤ bs.length ∧ h = .int .i64 hv) (fun _ i => bs.length - (intOf i).toNat)
  case atStart => exact ⟨0, _, rfl, by omega, rfl⟩
  case round =>
    obtain ⟨k, hv, rfl, hk, rfl⟩ := hrel
    by_cases hlt : k < bs.length
    · obtain ⟨b, o, rfl, hb, hc⟩ := h1.atUb hlt
      obtain ⟨u, hu⟩ : ∃ u : Int, (bs[k].toNat : Int) = u := ⟨_, rfl⟩
      rw [hu] at hc
      clear hu
      by_cases h4 : k < 4000
      · go_wp2
        exact ⟨⟨k + 1, _, by go_num, by omega, rfl⟩, by simp [intOf]; omega⟩
      · go_wp2
        go_ret
        exact ⟨w.heap.size, rfl, Nat.le_refl _, alloc_ext _ _, _, _, bs, 0, _, BoxAt.new _ _ _, h1, hx, by omega⟩
    · go_wp2
      go_ret
      exact ⟨w.heap.size, rfl, Nat.le_refl _, alloc_ext _ _, _, _, bs, 0, _, BoxAt.new _ _ _, h1, hx, by omega⟩
set_option maxRecDepth 100000 in
set_option maxHeartbeats 4000000 in
theorem l1Byte_any {g : Nat} {w0 w : World} (hc : Cur w0 w g) :
    Calls Try.prog 96 #[.pointer (some ⟨g, 0, none⟩)] w fun e w' => ∃ x : Int, e = .returned (.int .i64 x) ∧ 0 ≤ x ∧ x ≤ 255 ∧ Cur w0 w' g ∧ Chg [g] w w' := by
  obtain ⟨hg, hw, A, c, bs, i, h, hB, hR, hl, hi⟩ := hc
  obtain ⟨l0, k0, k1, k2, f0⟩ := box3 hB
  go_enter Try.func96, Try.ntmps96
  go_upto_region 2 with fail
  refine wp_name ?_
  intro w1 hw1
  obtain ⟨H, hB1⟩ : ∃ H : Int, BoxAt w1 g #[.slice A bs.length c, .int .i64 i, .int .i64 H] := ⟨_, by rw [hw1.out]; exact hB.set32⟩
  have hC1 : Chg [g] w w1 := by rw [hw1.out]; exact (Chg.refl [g] w).setCell (.inl (by simp)) _
  obtain ⟨l1, a0, a1, a2, f1⟩ := box3 hB1
  clear hw1 k0 k1 k2 f0
  go_wp2
  refine wp_region_ext (by kernel_rfl) (by kernel_rfl) ?_
  repeat (go_big_quiet_step (fail))
  refine wpQuiet_nil ?_
  rintro _ ⟨zz, rfl⟩
  obtain ⟨X, hX⟩ : ∃ X, bits .and .i64 (bits .xor .i64 (H / 8589934592) (H / 35184372088832)) 255 = X := ⟨_, rfl⟩
  have hXb := and255 (bits .xor .i64 (H / 8589934592) (H / 35184372088832))
  rw [hX] at hXb ⊢
  obtain ⟨hX0, hX1⟩ := hXb
  have hy2 : ∃ y, ext w1 zz = ext w1 y := ⟨_, rfl⟩
  obtain ⟨w2, hw2⟩ : ∃ w2, ext w1 zz = w2 := ⟨_, rfl⟩
  rw [hw2] at hy2 ⊢
  have hB2 := hB1.toExt hy2
  have hC2 := hC1.trans0 hy2
  obtain ⟨l2, b0, b1, b2, f2⟩ := box3 hB2
  clear hX hw2 l1 a0 a1 a2 f1 hB1 hC1 l0
  have hw2e : ∃ y, w2 = ext w0 y := hC2.isExt hw (by simpa using hg)
  by_cases hil : i < bs.length
  · obtain ⟨b, o, rfl, hb, hcb⟩ := (hR.toExt hw2e).atUb hil
    obtain ⟨u, hu⟩ : ∃ u : Int, (bs[i].toNat : Int) = u := ⟨_, rfl⟩
    have hub : 0 ≤ u ∧ u ≤ 255 := by rw [← hu]; have := bs[i].toNat_lt; omega
    rw [hu] at hcb
    obtain ⟨hu0, hu1⟩ := hub
    clear hu
    go_wp2
    refine wp_region_ext (by kernel_rfl) (by kernel_rfl) ?_
    repeat (go_big_quiet_step (fail))
    refine wpQuiet_nil ?_
    rintro _ ⟨zz2, rfl⟩
    have l3 := lt_ext (x := zz2) l2
    have l4 := lt_ext (x := zz2) hb
    go_wp2
    refine wp_region_ext (by kernel_rfl) (by kernel_rfl) ?_
    repeat (go_big_quiet_step (fail))
    refine wpQuiet_nil ?_
    rintro _ ⟨zz3, rfl⟩
    have hBf := (((hB2.toExt ⟨zz2, rfl⟩).toExt ⟨zz3, rfl⟩).set31 (u := .int .i64 ((i : Int) + 1)))
    have hCf : Chg [g] w ((ext (ext w2 zz2) zz3).setCell ⟨g, 1, none⟩ (.int .i64 ((i : Int) + 1))) := ((hC2.trans0 ⟨zz2, rfl⟩).trans0 ⟨zz3, rfl⟩).setCell (.inl (by simp)) _
    have HBf := Lib.hid hBf
    have HCf := Lib.hid hCf
    have HW := Lib.hid (hCf.isExt hw (by simpa using hg))
    clear hBf hCf
    have l5 := lt_ext (x := zz3) l3
    have l6 := lt_ext (x := zz3) l4
    go_wp2
    go_ret
    exact ⟨_, rfl, (and255 _).1, (and255 _).2, ⟨hg, HW.out, _, _, bs, i + 1, _, HBf.out, hR, hl, by omega⟩, HCf.out⟩
  · go_wp2
    refine wp_region_ext (by kernel_rfl) (by kernel_rfl) ?_
    repeat (go_big_quiet_step (fail))
    refine wpQuiet_nil ?_
    rintro _ ⟨zz2, rfl⟩
    go_wp2
    go_ret
    exact ⟨X, rfl, hX0, hX1, ⟨hg, trans_ext hw2e ⟨zz2, rfl⟩, _, _, bs, i, _, hB2.toExt ⟨zz2, rfl⟩, hR, hl, hi⟩, hC2.trans0 ⟨zz2, rfl⟩⟩
set_option maxHeartbeats 1000000 in
theorem l1Below_any {g : Nat} {n : Int} {w0 w : World} (hc : Cur w0 w g) (h1 : 1 ≤ n) (h2 : n ≤ 256) :
    Calls Try.prog 55 #[.pointer (some ⟨g, 0, none⟩), .int .i64 n] w fun e w' => ∃ x : Int, e = .returned (.int .i64 x) ∧ 0 ≤ x ∧ x < n ∧ Cur w0 w' g ∧ Chg [g] w w' := by
  go_enter Try.func55, Try.ntmps55
  go_wp2_with (go_at_call 96; refine (l1Byte_any hc).mono ?_; rintro e w1 ⟨x, rfl, hx0, hx1, hc1, hC1⟩)
  go_ret
  exact ⟨x % n, rfl, Int.emod_nonneg _ (by omega), Int.emod_lt_of_pos _ (by omega), hc1, hC1⟩
theorem l1Once_any {g : Nat} {n : Int} {w0 w : World} (hc : Cur w0 w g) (h1 : 1 ≤ n) (h2 : n ≤ 256) :
    Calls Try.prog 57 #[.pointer (some ⟨g, 0, none⟩), .int .i64 n] w fun e w' => ∃ t : Bool, e = .returned (.bool t) ∧ Cur w0 w' g ∧ Chg [g] w w' := by
  go_enter Try.func57, Try.ntmps57
  go_wp2_with (go_at_call 55; refine (l1Below_any hc h1 h2).mono ?_; rintro e w1 ⟨x, rfl, hx0, hx1, hc1, hC1⟩)
  go_ret
  exact ⟨_, rfl, hc1, hC1⟩
set_option maxHeartbeats 1000000 in
theorem l1PickInt_any {g b m cap : Nat} {cs : Array Value} {w0 w : World} (hc : Cur w0 w g) (h1 : 1 ≤ m) (h2 : m ≤ 256) (hb : BoxAt w b cs) (hcs : ∀ j, j < m → ∃ x : Int, cs[j]? = some (.int .i64 x)) (hne : b ≠ g) :
    Calls Try.prog 100 #[.pointer (some ⟨g, 0, none⟩), .slice (some ⟨b, 0, none⟩) m cap] w fun e w' => ∃ (x : Int) (j : Nat), e = .returned (.int .i64 x) ∧ j < m ∧ cs[j]? = some (.int .i64 x) ∧ Cur w0 w' g ∧ Chg [g] w w' := by
  have HCS := Lib.hid hcs
  clear hcs
  go_enter Try.func100, Try.ntmps100
  go_wp2_with (go_at_call 55; refine (l1Below_any hc (by omega) (by omega)).mono ?_; rintro e w1 ⟨x, rfl, hx0, hx1, hc1, hC1⟩; obtain ⟨k, rfl⟩ : ∃ k : Nat, x = k := ⟨x.toNat, by omega⟩; have hk : k < m := (by omega); obtain ⟨z, hz⟩ := HCS.out k hk; have HZ := Lib.hid hz; have hb1 := hb.chg hC1 (by simpa using hne); have hcell : w1.cell? ⟨b, k, none⟩ = some (.int .i64 z) := (by rw [hb1.2.1 k]; exact hz); have hbl := hb1.1; clear hz)
  go_ret
  exact ⟨z, k, rfl, hk, HZ.out, hc1, hC1⟩
end Go.Proofs.Ytbjpkfgkmilkdaa
namespace Go.Proofs.Ytbjpkfgkmilkdaa
open Go.ChangeShapes Go.WideShapes Go.ChangeAt Go.RowKit
def inB (x a b : Int) : Bool := decide (a ≤ x ∧ x ≤ b)
theorem inB_t {x a b : Int} (h : inB x a b = true) : a ≤ x ∧ x ≤ b := by simpa [inB] using h
theorem within_any (x a b : Int) (w : World) : Calls Try.prog 76 #[.int .i64 x, .int .i64 a, .int .i64 b] w fun e w' => e = .returned (.bool (inB x a b)) ∧ w = w' := by
  unfold inB
  by_cases h1 : a ≤ x <;> by_cases h2 : x ≤ b <;> (go_enter Try.func76, Try.ntmps76; go_wp2; go_ret; exact ⟨by simp [h1, h2], rfl⟩)
theorem l1In_any (x a b : Int) (w : World) : Calls Try.prog 72 #[.int .i64 x, .int .i64 a, .int .i64 b] w fun e w' => e = .returned (.bool (inB x a b)) ∧ w = w' := by
  unfold inB
  by_cases h1 : a ≤ x <;> by_cases h2 : x ≤ b <;> (go_enter Try.func72, Try.ntmps72; go_wp2; go_ret; exact ⟨by simp [h1, h2], rfl⟩)
end Go.Proofs.Ytbjpkfgkmilkdaa
